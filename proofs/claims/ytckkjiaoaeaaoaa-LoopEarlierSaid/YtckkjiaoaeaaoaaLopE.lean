/- The contracts of package loop's arrived and carries. -/
import Derived.Test.YtckkjiaoaeaaoaaLopW
import Derived.Test.YtckkjiaoaeaaoaaLopMap
import Derived.Test.YtckkjiaoaeaaoaaLopC
import Derived.Deep.LoopGhost
import Derived.Maps.RangeWalk
namespace Go.Proofs.Ytckkjiaoaeaaoaa
open Go.RowKit Go.Sort Go.Maps
set_option linter.unusedVariables false

theorem lawI : Keyed Try.prog 3 := int_keyed Try.underlying3
theorem zeroI (w : World) : (zeroValue 3).run Try.prog w = .ok (.int .i64 0) w := by kernel_rfl

/-- a map of ints reads as a function -/
def MapAt (w : World) (b : Nat) (g : Int → Option Int) : Prop := ∃ n D, n ≤ 1048576 ∧ w.ownsMap Try.prog 3 (plainElem (H := Unit) Try.prog 3) b n D ∧ Reads D g
theorem owns_map_gr {w w' : World} {b n : Nat} {D : DataW Unit} (h : w.ownsMap Try.prog 3 (plainElem (H := Unit) Try.prog 3) b n D) (g : Gr w w') : w'.ownsMap Try.prog 3 (plainElem (H := Unit) Try.prog 3) b n D := by
  have hb := h.lt
  obtain ⟨es, clock, h1, h2⟩ := h
  exact ⟨es, clock, (g.block b hb).trans h1, h2⟩
theorem MapAt.gr {w w' : World} {b : Nat} {g : Int → Option Int} (h : MapAt w b g) (k : Gr w w') : MapAt w' b g := by
  obtain ⟨n, D, h1, h2, h3⟩ := h
  exact ⟨n, D, h1, owns_map_gr h2 k, h3⟩
theorem MapAt.lt {w : World} {b : Nat} {g : Int → Option Int} (h : MapAt w b g) : b < w.heap.size := by
  obtain ⟨n, D, _, h2, _⟩ := h
  exact h2.lt
/-- a map comes back -/
def MapPost (g : Int → Option Int) (w : World) (e : Ending) (w' : World) : Prop := ∃ b, e = .returned (.map (some b)) ∧ MapAt w' b g ∧ Gr w w'

/-- the numbers of a delivery -/
def wfD (d : Dv) : Prop := (-9223372036854775808 ≤ d.f ∧ d.f ≤ 9223372036854775807) ∧ (-9223372036854775808 ≤ d.r ∧ d.r ≤ 9223372036854775807) ∧ (-9223372036854775808 ≤ d.t ∧ d.t ≤ 9223372036854775807)

theorem At.grown {α : Type} {enc : α → List Value} {w w' : World} {b o B : Nat} {x : α} (h : At enc w b o x) (g : w.grownBy w' (some B)) (ne : b ≠ B) : At enc w' b o x := fun j u hj => by
  have k := h j u hj
  have hb := block_lt_of_cell k
  have e := g.block b hb (by simpa using ne)
  have : w'.cell? ⟨b, o + j, none⟩ = w.cell? ⟨b, o + j, none⟩ := by simp only [World.cell?, e]
  rw [this]; exact k
/-- what the loop of arrived keeps: the map, and the flow's box -/
def AR (f : Fl) (l : List Dv) (wr : World) (kk B b : Nat) : Prop := (∃ D, wr.ownsMap Try.prog 3 (plainElem (H := Unit) Try.prog 3) B kk D ∧ Reads D (Lp.arr f l)) ∧ At encF wr b 0 f
theorem AR.gr {f : Fl} {l : List Dv} {w w' : World} {kk B b : Nat} (h : AR f l w kk B b) (g : Gr w w') : AR f l w' kk B b := by
  obtain ⟨⟨D, h1, h2⟩, h3⟩ := h
  exact ⟨⟨D, owns_map_gr h1 g, h2⟩, h3.gr g⟩
theorem AR.none {f : Fl} {l l' : List Dv} {d : Dv} {w : World} {kk B b : Nat} (h : AR f l w kk B b) (hl : l' = l ++ [d]) (hu : ¬ Lp.use f d) : AR f l' w (kk + 1) B b := by
  obtain ⟨⟨D, h1, h2⟩, h3⟩ := h
  exact ⟨⟨D, h1.mono (Nat.le_succ _), by rw [hl]; exact h2.none hu⟩, h3⟩
theorem AR.old {f : Fl} {l l' : List Dv} {d : Dv} {w : World} {kk B b : Nat} {t : Int} (h : AR f l w kk B b) (hl : l' = l ++ [d]) (hn : Lp.arr f l d.r = some t) : AR f l' w (kk + 1) B b := by
  obtain ⟨⟨D, h1, h2⟩, h3⟩ := h
  exact ⟨⟨D, h1.mono (Nat.le_succ _), by rw [hl]; exact h2.old hn⟩, h3⟩
theorem take_snoc' {α : Type} {l : List α} {k : Nat} {x : α} (h : l[k]? = some x) : l.take (k + 1) = l.take k ++ [x] := by rw [List.take_add_one, h]; rfl

set_option maxHeartbeats 4000000 in
set_option maxRecDepth 100000 in
theorem arrived_any (f : Fl) (v : Value) (ds : List Dv) (w : World) (hf : Fw.chk 32 f = 0) (h : Rows 3 encD w v ds) (hl : ds.length ≤ 1048575) :
    Calls Try.prog 51 #[.agg #[.int .i64 f.id, .int .i64 f.fr, .int .i64 f.to, .int .i64 f.pe, .int .i64 f.ph, .int .i64 f.de], v] w (MapPost (Lp.arr f ds) w) := by
  have hmm := @run_makeMap Try.prog
  have DS : Aside (Sl 3 encD w v ds) := h.sl
  obtain ⟨A, c, rfl⟩ := h.slice
  obtain ⟨n, hn⟩ : ∃ n, ds.length = n := ⟨_, rfl⟩
  have HN := Lib.hid hn
  have HF := Lib.hid hf
  rw [hn] at hl ⊢
  clear h hn hf
  go_enter Try.func51, Try.ntmps51
  go_wp2_with fail
  go_loopg [7, 8, 9, 13] n (fun gg _ _ _ s13 wr => ∃ kk : Nat, kk ≤ n ∧ n - kk ≤ gg ∧ s13 = .int .i64 (kk : Int) ∧ Aside (Gr w wr) ∧ Aside (AR f (ds.take kk) wr kk (w.heap.size + 1) w.heap.size))
  case atStart => exact ⟨0, Nat.zero_le _, by omega, rfl, (show Gr _ _ by repeat (first | (with_reducible exact Gr.refl _) | (with_reducible assumption) | (with_reducible refine Gr.alloc ?_ _) | (with_reducible refine Gr.drewN ?_ _) | (with_reducible refine Gr.drew ?_) | (with_reducible refine Gr.grown ?_ _ _) | (with_reducible refine Gr.regrown ?_ _ _) | (with_reducible refine Gr.setCell ?_ (by first | omega | (simp; omega) | simp) _) | (with_reducible refine Gr.trans ?_ (by with_reducible assumption)))), (show AR _ _ _ _ _ _ from ⟨⟨.map [], by have := World.ownsMap_made (w.alloc (Obj.cells (encF f).toArray 47)) Try.prog 3 (plainElem (H := Unit) Try.prog 3); rw [World.size_alloc] at this; exact this, Reads.empty⟩, (At.new encF w f _).gr (Gr.alloc (Gr.refl _) _)⟩)⟩
  case round =>
    obtain ⟨kk, hkk, hgg, rfl, G, R⟩ := hrel
    by_cases hlt : kk < n
    · have hltz : (kk : Int) < (n : Int) := by omega
      obtain ⟨x, hx⟩ : ∃ x, ds[kk]? = some x := ⟨_, List.getElem?_eq_getElem (by rw [HN.out]; exact hlt)⟩
      rcases DS.out with h0 | ⟨b, off, ⟨c', hv⟩, hb, hU⟩
      · rw [HN.out] at h0; omega
      simp only [Value.slice.injEq] at hv
      obtain ⟨rfl, -, rfl⟩ := hv
      have l0 := ((hU kk x hx).gr G.out) 0 _ rfl; have l1 := ((hU kk x hx).gr G.out) 1 _ rfl; have l2 := ((hU kk x hx).gr G.out) 2 _ rfl; (try simp only [Nat.add_zero] at l0); (try simp only [Nat.zero_add] at l0 l1 l2)
      have TK := Lib.hid (take_snoc' hx)
      have hbr := block_lt_of_cell l0
      clear hU hb hx
      go_wp2_with fail
      generalize hW1 : wr.alloc (Obj.cells #[.int .i64 x.f, .int .i64 x.r, .int .i64 x.t] 56) = W1
      have X1 : Aside (At encD W1 wr.heap.size 0 x) := by rw [← hW1]; exact At.new encD _ _ _
      have G1 : Aside (Gr w W1) := by rw [← hW1]; exact Gr.alloc G.out _
      have R1 : Aside (AR f (ds.take kk) W1 kk (w.heap.size + 1) w.heap.size) := by rw [← hW1]; exact R.out.gr (Gr.alloc (Gr.refl _) _)
      clear hW1 l0 l1 l2 hbr R
      have x0 := (X1.out) 0 _ rfl; have x1 := (X1.out) 1 _ rfl; have x2 := (X1.out) 2 _ rfl; (try simp only [Nat.add_zero] at x0); (try simp only [Nat.zero_add] at x0 x1 x2)
      have y0 := (R1.out.2) 0 _ rfl; have y1 := (R1.out.2) 1 _ rfl; have y2 := (R1.out.2) 2 _ rfl; have y3 := (R1.out.2) 3 _ rfl; have y4 := (R1.out.2) 4 _ rfl; have y5 := (R1.out.2) 5 _ rfl; (try simp only [Nat.add_zero] at y0); (try simp only [Nat.zero_add] at y0 y1 y2 y3 y4 y5)
      have hx : True := trivial
      by_cases q1 : x.f = f.id
      · have b1 : (x.f != f.id) = false := by simpa using q1
        by_cases q2 : x.r < 0
        · have b2 : decide (x.r < 0) = true := bt q2
          clear q1
          have NU := Lib.hid (show ¬ Lp.use f x from fun q => by have := q.2.1; omega)
          clear hx
          go_quiet (fail)
          go_wp2_with fail
          go_roundg (n - (kk + 1))
          case measure => omega
          case rel => exact ⟨kk + 1, by omega, by omega, by go_num, (show Gr _ _ from G1.out.drewN _), (show AR f (ds.take (kk + 1)) _ _ _ _ from ((R1.out.gr (Gr.drewN (Gr.refl _) _)).none TK.out NU.out))⟩
        · by_cases q3 : 1073741824 < x.r
          · have b3 : decide (1073741824 < x.r) = true := bt q3
            have b2 : decide (x.r < 0) = false := bf q2
            clear q1
            have NU := Lib.hid (show ¬ Lp.use f x from fun q => by have := q.2.1; omega)
            clear hx
            go_quiet (fail)
            go_wp2_with fail
            go_roundg (n - (kk + 1))
            case measure => omega
            case rel => exact ⟨kk + 1, by omega, by omega, by go_num, (show Gr _ _ from G1.out.drewN _), (show AR f (ds.take (kk + 1)) _ _ _ _ from ((R1.out.gr (Gr.drewN (Gr.refl _) _)).none TK.out NU.out))⟩
          · by_cases q4 : x.t < 0
            · have b4 : decide (x.t < 0) = true := bt q4
              have b2 : decide (x.r < 0) = false := bf q2
              have b3 : decide (1073741824 < x.r) = false := bf q3
              clear q1
              have NU := Lib.hid (show ¬ Lp.use f x from fun q => by have := q.2.2.1; omega)
              clear hx
              go_quiet (fail)
              go_wp2_with fail
              go_roundg (n - (kk + 1))
              case measure => omega
              case rel => exact ⟨kk + 1, by omega, by omega, by go_num, (show Gr _ _ from G1.out.drewN _), (show AR f (ds.take (kk + 1)) _ _ _ _ from ((R1.out.gr (Gr.drewN (Gr.refl _) _)).none TK.out NU.out))⟩
            · by_cases q5 : 1073741824 < x.t
              · have b5 : decide (1073741824 < x.t) = true := bt q5
                have b2 : decide (x.r < 0) = false := bf q2
                have b3 : decide (1073741824 < x.r) = false := bf q3
                have b4 : decide (x.t < 0) = false := bf q4
                clear q1
                have NU := Lib.hid (show ¬ Lp.use f x from fun q => by have := q.2.2.1; omega)
                clear hx
                go_quiet (fail)
                go_wp2_with fail
                go_roundg (n - (kk + 1))
                case measure => omega
                case rel => exact ⟨kk + 1, by omega, by omega, by go_num, (show Gr _ _ from G1.out.drewN _), (show AR f (ds.take (kk + 1)) _ _ _ _ from ((R1.out.gr (Gr.drewN (Gr.refl _) _)).none TK.out NU.out))⟩
              · have r0 : 0 ≤ x.r := by omega
                have r1 : x.r ≤ 1073741824 := by omega
                have REL := fun W => lrelease_any f x.r W HF.out r0 r1
                obtain ⟨rv, hrv⟩ : ∃ rv, f.ph + x.r * f.pe = rv := ⟨_, rfl⟩
                rw [hrv] at REL
                have HRV : Hid (Lp.rl f x.r = rv) := (show _ = _ from hrv)
                have Q : Hid (x.f = f.id ∧ (0 ≤ x.r ∧ x.r ≤ 1073741824) ∧ (0 ≤ x.t ∧ x.t ≤ 1073741824)) := (show _ ∧ _ from ⟨q1, ⟨r0, r1⟩, by omega, by omega⟩)
                have b2 : decide (x.r < 0) = false := bf q2
                have b3 : decide (1073741824 < x.r) = false := bf q3
                have b4 : decide (x.t < 0) = false := bf q4
                have b5 : decide (1073741824 < x.t) = false := bf q5
                have mixed : Try.prog.follows .mixedOrders = true := by kernel_rfl
                clear hx x0 x1 x2 y0 y1 y2 y3 y4 y5 q1 hrv
                have x0 := fun dq oq => cell_regrown ((X1.out) 0 _ rfl) dq oq; have x1 := fun dq oq => cell_regrown ((X1.out) 1 _ rfl) dq oq; have x2 := fun dq oq => cell_regrown ((X1.out) 2 _ rfl) dq oq; (try simp only [Nat.add_zero] at x0); (try simp only [Nat.zero_add] at x0 x1 x2)
                have y0 := fun dq oq => cell_regrown ((R1.out.2) 0 _ rfl) dq oq; have y1 := fun dq oq => cell_regrown ((R1.out.2) 1 _ rfl) dq oq; have y2 := fun dq oq => cell_regrown ((R1.out.2) 2 _ rfl) dq oq; have y3 := fun dq oq => cell_regrown ((R1.out.2) 3 _ rfl) dq oq; have y4 := fun dq oq => cell_regrown ((R1.out.2) 4 _ rfl) dq oq; have y5 := fun dq oq => cell_regrown ((R1.out.2) 5 _ rfl) dq oq; (try simp only [Nat.add_zero] at y0); (try simp only [Nat.zero_add] at y0 y1 y2 y3 y4 y5)
                by_cases q6 : x.t < rv
                · have b6 : decide (x.t < rv) = true := bt q6
                  have NU := Lib.hid (show ¬ Lp.use f x from fun q => by have h1 := q.2.2.2; rw [HRV.out] at h1; omega)
                  refine wp_region_quiet_below (by assumption) (by kernel_rfl) ?_; (repeat (first | go_big_quiet_skip | quiet_step ((first | (go_at_call 52; with_reducible exact Gr.meet (REL _)))))); refine wpQuiet_nil ?_; intro _ hw'; obtain ⟨⟨nq, osq⟩, hw''⟩ := hw'; subst hw''
                  go_wp2_with fail
                  go_roundg (n - (kk + 1))
                  case measure => omega
                  case rel => exact ⟨kk + 1, by omega, by omega, by go_num, (show Gr _ _ from G1.out.regrown _ _), (show AR f (ds.take (kk + 1)) _ _ _ _ from ((R1.out.gr (Gr.regrown (Gr.refl _) _ _)).none TK.out NU.out))⟩
                · have b6 : decide (x.t < rv) = false := bf q6
                  have US := Lib.hid (show Lp.use f x from ⟨Q.out.1, Q.out.2.1, Q.out.2.2, by rw [HRV.out]; omega⟩)
                  have hwr : (Lit.int .i64 x.r).wf = true := WalkArith.wf_i64 (by omega)
                  have hwt : (Lit.int .i64 x.t).wf = true := WalkArith.wf_i64 (by omega)
                  refine wp_region_quiet_below (by assumption) (by kernel_rfl) ?_; (repeat (first | go_big_quiet_skip | quiet_step ((first | (go_at_call 52; with_reducible exact Gr.meet (REL _)))))); refine wpQuiet_nil ?_; intro _ hw'; obtain ⟨⟨nq, osq⟩, hw''⟩ := hw'; subst hw''
                  generalize hW3 : Go.Sort.grow (redrawn W1 nq) osq = W3
                  have G3 : Aside (Gr w W3) := by rw [← hW3]; exact Gr.regrown G1.out _ _
                  have R3 : Aside (AR f (ds.take kk) W3 kk (w.heap.size + 1) w.heap.size) := by rw [← hW3]; exact R1.out.gr (Gr.regrown (Gr.refl _) _ _)
                  have X3 : Aside (At encD W3 wr.heap.size 0 x) := by rw [← hW3]; exact X1.out.gr (Gr.regrown (Gr.refl _) _ _)
                  clear hW3 x0 x1 x2 y0 y1 y2 y3 y4 y5 REL
                  have x0 := (X3.out) 0 _ rfl; have x1 := (X3.out) 1 _ rfl; have x2 := (X3.out) 2 _ rfl; (try simp only [Nat.add_zero] at x0); (try simp only [Nat.zero_add] at x0 x1 x2)
                  obtain ⟨⟨D, hD, hRd⟩, hbx⟩ := R3.out
                  have HRD := Lib.hid hRd
                  have HBX := Lib.hid hbx
                  have hhas := (hRd.2 x.r).1
                  cases hA : Lp.arr f (ds.take kk) x.r with
                  | some t9 =>
                    rw [hA] at hhas
                    have OLD : Aside (AR f (ds.take (kk + 1)) W3 (kk + 1) (w.heap.size + 1) w.heap.size) := R3.out.old TK.out hA
                    simp only [Option.isSome_some] at hhas
                    clear hA hRd hbx q6
                    go_wp2_with (at_lookup; refine wpList_lookup_own_ok_int _ rfl _ _ 77 rfl 3 3 .i64 lawI Try.underlying77 Try.underlying3 (zeroI _) (w.heap.size + 1) kk D rfl hD _ _ rfl (keyOf_int_mk Try.underlying3 hwr) ?_; intro c9 hat9 hwc9; clear hat9 hwc9; rw [hhas])
                    go_roundg (n - (kk + 1))
                    case measure => omega
                    case rel => exact ⟨kk + 1, by omega, by omega, by go_num, G3.out, OLD.out⟩
                  | none =>
                    rw [hA] at hhas
                    have MORE := Lib.hid (HRD.out.more US.out hA)
                    simp only [Option.isSome_none] at hhas
                    clear hA hRd hbx q6
                    go_wp2_with (first | (at_lookup; refine wpList_lookup_own_ok_int _ rfl _ _ 77 rfl 3 3 .i64 lawI Try.underlying77 Try.underlying3 (zeroI _) (w.heap.size + 1) kk D rfl hD _ _ rfl (keyOf_int_mk Try.underlying3 hwr) ?_; intro c9 hat9 hwc9; clear hat9 hwc9; rw [hhas]) | (at_mapUpdate; refine wpList_mapUpdate_own _ rfl _ _ _ 77 rfl 3 3 lawI Try.underlying77 _ (w.heap.size + 1) kk D rfl hD (by unfold maxLen; omega) _ _ _ rfl rfl (keyOf_int_mk Try.underlying3 hwr) _ [] (plainElem_int Try.underlying3 hwt) ?_; intro w4 hown4 hgrow4; have HO4 := Lib.hid hown4; have HG4 := Lib.hid hgrow4; clear hown4 hgrow4))
                    go_roundg (n - (kk + 1))
                    case measure => omega
                    case rel => exact ⟨kk + 1, by omega, by omega, by go_num, (show Gr _ _ from Gr.append G3.out HG4.out (fun k hk => by cases hk; omega)), (show AR f (ds.take (kk + 1)) w4 (kk + 1) (w.heap.size + 1) w.heap.size from ⟨⟨_, HO4.out, by rw [TK.out]; exact MORE.out⟩, HBX.out.grown HG4.out (by omega)⟩)⟩
      · have b1 : (x.f != f.id) = true := by simpa using q1
        have Q1 := Lib.hid q1
        clear q1
        have NU := Lib.hid (show ¬ Lp.use f x from fun q => Q1.out q.1)
        clear hx
        go_quiet (fail)
        go_wp2_with fail
        go_roundg (n - (kk + 1))
        case measure => omega
        case rel => exact ⟨kk + 1, by omega, by omega, by go_num, (show Gr _ _ from G1.out.drewN _), (show AR f (ds.take (kk + 1)) _ _ _ _ from ((R1.out.gr (Gr.drewN (Gr.refl _) _)).none TK.out NU.out))⟩
    · have hltz : ¬ (kk : Int) < (n : Int) := by omega
      have e : ds.take kk = ds := List.take_of_length_le (by rw [HN.out]; omega)
      rw [e] at R
      clear e
      go_wp2_with fail
      go_ret
      obtain ⟨⟨D, h1, h2⟩, -⟩ := R.out
      exact ⟨w.heap.size + 1, rfl, ⟨kk, D, by omega, h1, h2⟩, G.out⟩
end Go.Proofs.Ytckkjiaoaeaaoaa
