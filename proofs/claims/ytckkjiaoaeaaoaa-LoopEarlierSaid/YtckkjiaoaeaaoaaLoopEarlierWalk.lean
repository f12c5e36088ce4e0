/- The walk of LoopEarlier: the Go text returns true. (Printed in part by mklaw50.py.) -/
import Derived.Test.YtckkjiaoaeaaoaaLopEar
import Derived.Test.YtckkjiaoaeaaoaaLopC
import Derived.Test.YtckkjiaoaeaaoaaPut
namespace Go.Proofs.Ytckkjiaoaeaaoaa.loopEarlier
open Go.RowKit Go.Sort
set_option linter.unusedVariables false

/-- rows of deliveries, met out of a clone's post -/
theorem rows_clone {l : List Dv} {x : Dv} {i : Nat} {w w' : World} {e : Ending} (h : CloneDPost l w e w') (hx : l[i]? = some x) : ∃ g cap, e = .returned (.slice (some ⟨g, 0, none⟩) l.length cap) ∧ w'.ownsRow w.heap.size 56 3 (.slice (some ⟨g, 0, none⟩) l.length cap) l.length ((l.map encD).flatten) ∧ Gr w w' := by
  obtain ⟨v, h1, h2, h3⟩ := h
  have hl := (List.getElem?_eq_some_iff.1 hx).1
  have h2' := h2
  rcases h2.2 with ⟨rfl, h0⟩ | ⟨g, cap, cur, rfl, _⟩
  · omega
  · exact ⟨g, cap, h1, h2', h3⟩

set_option maxHeartbeats 8000000 in
set_option maxRecDepth 100000 in
theorem walk (l0 l1 l2 l3 l4 l5 l6 s0 s1 : Int) (v2 : Value) (d : List Dv) (which yy : Int) (wl0 : (Lit.int .i64 l0).wf = true) (wl1 : (Lit.int .i64 l1).wf = true) (wl2 : (Lit.int .i64 l2).wf = true) (wl3 : (Lit.int .i64 l3).wf = true) (wl4 : (Lit.int .i64 l4).wf = true) (wl5 : (Lit.int .i64 l5).wf = true) (wl6 : (Lit.int .i64 l6).wf = true) (ws0 : (Lit.int .i64 s0).wf = true) (ws1 : (Lit.int .i64 s1).wf = true) (wwhich : (Lit.int .u8 which).wf = true) (wyy : (Lit.int .u8 yy).wf = true) (w : World)
    (rd : Rows 3 encD w v2 d) (bd : (d.length : Int) ≤ 9223372036854775807) (kd : ∀ A n c, v2 = .slice A n c → n ≤ c ∧ c ≤ 9223372036854775807) (wd : ∀ x ∈ d, okDw x) :
    Calls Try.prog 9 #[.agg #[.int .i64 l0, .int .i64 l1, .int .i64 l2, .int .i64 l3, .int .i64 l4, .int .i64 l5, .int .i64 l6], .agg #[.int .i64 s0, .int .i64 s1], v2, .int .u8 which, .int .u8 yy] w fun e w' => e = .returned (.bool true) ∧ Gr w w' := by
  clear wl0 wl1 wl2 wl3 wl4 wl5 wl6 ws0 ws1
  obtain ⟨l, hl⟩ : ∃ l : Lo, l = ⟨l0, l1, l2, l3, l4, l5, l6⟩ := ⟨_, rfl⟩
  obtain ⟨s, hs⟩ : ∃ s : Sp, s = ⟨s0, s1⟩ := ⟨_, rfl⟩
  have e0 : l0 = l.id := by rw [hl]
  have e1 : l1 = l.se := by rw [hl]
  have e2 : l2 = l.co := by rw [hl]
  have e3 : l3 = l.ac := by rw [hl]
  have e4 : l4 = l.pe := by rw [hl]
  have e5 : l5 = l.ph := by rw [hl]
  have e6 : l6 = l.ag := by rw [hl]
  have e7 : s0 = s.s := by rw [hs]
  have e8 : s1 = s.a := by rw [hs]
  clear hl hs
  subst e0 e1 e2 e3 e4 e5 e6 e7 e8
  obtain ⟨wh0, wh1⟩ := bounds_u8 wwhich
  obtain ⟨yy0, yy1⟩ := bounds_u8 wyy
  clear wwhich wyy
  obtain ⟨A, c, rfl⟩ := rd.slice
  obtain ⟨n, hn⟩ : ∃ n, d.length = n := ⟨_, rfl⟩
  have RD : Hid (Rows 3 encD w (.slice A n c) d) := by rw [hn] at rd; exact rd
  have HN := Lib.hid hn
  have WD := Lib.hid wd
  obtain ⟨kd1, kd2⟩ := kd _ _ _ rfl
  rw [hn] at bd kd1 ⊢
  clear rd hn kd wd
  go_enter Try.func9, Try.ntmps9
  go_wp2_with fail
  obtain ⟨L0, S0⟩ := boxed2 (enc := encL) (enc2 := encP) (x := l) (y := s) (Gr.refl ((w.alloc (Obj.cells (encL l).toArray 23)).alloc (Obj.cells (encP s).toArray 25)))
  have G0 : Aside (Gr w ((w.alloc (Obj.cells (encL l).toArray 23)).alloc (Obj.cells (encP s).toArray 25))) := Gr.alloc (Gr.alloc (Gr.refl _) _) _
  generalize ((w.alloc (Obj.cells (encL l).toArray 23)).alloc (Obj.cells (encP s).toArray 25)) = w0 at L0 S0 G0 ⊢
  refine (lawake_any _).mono ?_
  rintro e w1 ⟨rfl, g1⟩
  have G1 : Aside (Gr w w1) := G0.out.trans g1
  have L1 := Lib.hid (L0.gr g1)
  have S1 := Lib.hid (S0.gr g1)
  clear g1 L0 S0 G0
  go_wp2_with fail
  refine (rfew_any A n c _).mono ?_
  rintro e w2 ⟨rfl, g2⟩
  have G2 : Aside (Gr w w2) := G1.out.trans g2
  have L2 := Lib.hid (L1.out.gr g2)
  have S2 := Lib.hid (S1.out.gr g2)
  clear g2 L1 S1 G1
  have u0 := (L2.out) 0 _ rfl; have u1 := (L2.out) 1 _ rfl; have u2 := (L2.out) 2 _ rfl; have u3 := (L2.out) 3 _ rfl; have u4 := (L2.out) 4 _ rfl; have u5 := (L2.out) 5 _ rfl; have u6 := (L2.out) 6 _ rfl; (try simp only [Nat.add_zero] at u0); (try simp only [Nat.zero_add] at u0 u1 u2 u3 u4 u5 u6)
  have v0 := (S2.out) 0 _ rfl; have v1 := (S2.out) 1 _ rfl; (try simp only [Nat.add_zero] at v0); (try simp only [Nat.zero_add] at v0 v1)
  have hz := L2.out.lt rfl
  have hz2 := S2.out.lt rfl
  by_cases h24 : n ≤ 24
  · rw [bt h24]
    by_cases hn0 : n = 0
    · have z0 : ((n : Int) == 0) = true := by simpa using hn0
      go_wp2_with fail
      refine (lawake_any _).mono ?_
      rintro e w3 ⟨rfl, g3⟩
      have G3 : Aside (Gr w w3) := G2.out.trans g3
      go_wp2_with fail
      go_ret
      exact ⟨rfl, G3.out⟩
    · have z0 : ((n : Int) == 0) = false := by simpa using hn0
      by_cases h20 : 20 < l.pe
      · go_wp2_with fail
        refine (lawake_any _).mono ?_
        rintro e w3 ⟨rfl, g3⟩
        have G3 : Aside (Gr w w3) := G2.out.trans g3
        go_wp2_with fail
        go_ret
        exact ⟨rfl, G3.out⟩
      · have hb20 : decide (20 < l.pe) = false := bf h20
        go_wp2_with fail
        refine (flowsE_any l s _).mono ?_
        rintro e w3 ⟨vf, rfl, rf, g3⟩
        have G3 : Aside (Gr w w3) := G2.out.trans g3
        have L3 := Lib.hid (L2.out.gr g3)
        have S3 := Lib.hid (S2.out.gr g3)
        clear g3 u0 u1 u2 u3 u4 u5 u6 v0 v1 hz hz2 L2 S2 G2 hb20 h20
        rcases Lp.rgt_cases l s with hr | hr
        · have FLE : Lp.flwL l s = [Lp.fa l s, Lp.fb l s] := if_pos hr
          rw [hr]
          rw [FLE] at rf
          have KA : Lp.chkA l s n 100 = 0 := Lp.chkA_ok hr (by decide) (by omega)
          have FA := Lib.hid (Lp.fa_ok hr)
          have FB := Lib.hid (Lp.fb_ok hr)
          have EA := Lib.hid (fun (i : Nat) (x : Dv) (h1 : Lp.dist d) (h2 : d[i]? = some x) (k : Nat) h => Lp.ear_age (y := yy) hr h1 h2 yy0 k h)
          have AGE : Hid (∀ (v : Value) (D : List Dv) (W : World), D.length = n → Rows 3 encD W v D → Calls Try.prog 13 #[.agg #[.int .i64 l.id, .int .i64 l.se, .int .i64 l.co, .int .i64 l.ac, .int .i64 l.pe, .int .i64 l.ph, .int .i64 l.ag], .agg #[.int .i64 s.s, .int .i64 s.a], v, .int .i64 100] W (IePost 0 ((List.range 100).map (Lp.age (Lp.fa l s) (Lp.fb l s) D)) W)) := (show ∀ _ _ _, _ → _ → _ from fun v D W hD h => by
            have := agesE_any l s v D 100 W h
            rw [hD, KA] at this
            have e : Lp.ageR l s D 100 = (List.range 100).map (Lp.age (Lp.fa l s) (Lp.fb l s) D) := by unfold Lp.ageR; rw [hD, if_pos KA]; rfl
            rwa [e] at this)
          generalize Lp.fa l s = fa at *
          generalize Lp.fb l s = fb at *
          rcases rf with ⟨h, _⟩ | ⟨bf', of', cf, hbf, rfl, hcf⟩
          · cases h
          have FU : Aside (∀ i f, ([fa, fb] : List Fl)[i]? = some f → At encF w3 bf' (of' + i * 6) f) := fun i f hi j u hj => hcf i f hi j u hj
          rw [show ([fa, fb] : List Fl).length = 2 from rfl]
          rcases RD.out with ⟨h, _⟩ | ⟨b, off, c', hb, hv, hU⟩
          · exact absurd (by rw [← HN.out, h]; rfl) hn0
          simp only [Value.slice.injEq] at hv
          obtain ⟨rfl, -, rfl⟩ := hv
          have DU : Aside (∀ i x, d[i]? = some x → At encD w b (off + i * 3) x) := fun i x hi j u hj => hU i x hi j u hj
          clear hbf hcf hU hb KA FLE hr
          go_wp2_with fail
          go_loopg [10, 13, 14, 65] n (fun gg _ _ _ s65 wr => ∃ kk : Nat, kk ≤ n ∧ n - kk ≤ gg ∧ s65 = .int .i64 (kk : Int) ∧ Aside (Gr w3 wr) ∧ Aside (Lp.once d kk))
          case atStart => exact ⟨0, Nat.zero_le _, by omega, rfl, Gr.refl _, Lp.once_zero _⟩
          case round =>
            obtain ⟨kk, hkk, hgg, rfl, G, ON⟩ := hrel
            have GO : Aside (Gr w wr) := G3.out.trans G.out
            by_cases hlt : kk < n
            · have hltz : (kk : Int) < (n : Int) := by omega
              obtain ⟨x, hx⟩ : ∃ x, d[kk]? = some x := ⟨_, List.getElem?_eq_getElem (by rw [HN.out]; exact hlt)⟩
              have X0 := (DU.out kk x hx).gr GO.out
              have l0 := (X0) 0 _ rfl; have l1 := (X0) 1 _ rfl; have l2 := (X0) 2 _ rfl; (try simp only [Nat.add_zero] at l0); (try simp only [Nat.zero_add] at l0 l1 l2)
              have hbr := X0.lt rfl
              have HX := Lib.hid hx
              clear hx X0
              by_cases c1 : x.r < 0
              · have b1 : decide (x.r < 0) = true := bt c1
                go_wp2_with fail
                go_ret
                exact ⟨rfl, by have hgg := GO.out; repeat (first | (with_reducible exact Gr.refl _) | (with_reducible assumption) | (with_reducible refine Gr.alloc ?_ _) | (with_reducible refine Gr.drewN ?_ _) | (with_reducible refine Gr.drew ?_) | (with_reducible refine Gr.grown ?_ _ _) | (with_reducible refine Gr.regrown ?_ _ _) | (with_reducible refine Gr.setCell ?_ (by first | omega | (simp; omega) | simp) _) | (with_reducible refine Gr.trans ?_ (by with_reducible assumption)))⟩
              · have b1 : decide (x.r < 0) = false := bf c1
                by_cases c2 : 1048576 < x.r
                · have b2 : decide (1048576 < x.r) = true := bt c2
                  go_wp2_with fail
                  go_ret
                  exact ⟨rfl, by have hgg := GO.out; repeat (first | (with_reducible exact Gr.refl _) | (with_reducible assumption) | (with_reducible refine Gr.alloc ?_ _) | (with_reducible refine Gr.drewN ?_ _) | (with_reducible refine Gr.drew ?_) | (with_reducible refine Gr.grown ?_ _ _) | (with_reducible refine Gr.regrown ?_ _ _) | (with_reducible refine Gr.setCell ?_ (by first | omega | (simp; omega) | simp) _) | (with_reducible refine Gr.trans ?_ (by with_reducible assumption)))⟩
                · have b2 : decide (1048576 < x.r) = false := bf c2
                  have kk1 : (kk : Int) ≤ (c : Int) := by omega
                  have kk2 : (0 : Int) ≤ (kk : Int) := by omega
                  have kk3 : (kk : Int) ≤ (n : Int) := by omega
                  have kk4 : (n : Int) ≤ (c : Int) := by omega
                  have T1 : Hid (Rows 3 encD w (.slice (some ⟨b, off, none⟩) kk c) (d.take kk)) := rows_take RD.out hkk
                  go_wp2_with fail
                  have XB := boxed (enc := encD) (x := x) (Gr.refl (wr.alloc (Obj.cells (encD x).toArray 56)))
                  refine (ear_all x _ _ _ _ (T1.out.gr (Gr.alloc GO.out _)) XB (by rw [List.length_take]; omega)).mono ?_
                  rintro e w4 ⟨rfl, g4⟩
                  have G4 : Aside (Gr w3 w4) := (Gr.alloc G.out _).trans g4
                  clear g4 XB T1 l0 l1 l2 hbr
                  cases ha : (d.take kk).any (Lp.twin x) with
                  | true =>
                    go_wp2_with fail
                    go_ret
                    exact ⟨rfl, G3.out.trans G4.out⟩
                  | false =>
                    have ON2 := Lib.hid (Lp.once_step ON.out HX.out (by omega) (by omega) ha)
                    clear ha
                    go_wp2_with fail
                    go_roundg (n - (kk + 1))
                    case measure => omega
                    case rel => exact ⟨kk + 1, by omega, by omega, by go_num, G4.out, ON2.out⟩
            · have hltz : ¬ (kk : Int) < (n : Int) := by omega
              have hkn : kk = n := by omega
              subst hkn
              obtain ⟨wx, rfl⟩ : ∃ wx, wx = wr := ⟨_, rfl⟩
              have DI := Lib.hid (Lp.once_dist (ds := d) (by rw [HN.out]; exact ON.out))
              have n0 : ¬ (kk : Int) = 0 := by omega
              obtain ⟨i, hi, hin⟩ : ∃ i : Nat, which.tmod (kk : Int) = (i : Int) ∧ i < kk := by
                have h1 := Int.tmod_nonneg (kk : Int) wh0
                have h2 := Int.tmod_lt_of_pos which (b := (kk : Int)) (by omega)
                exact ⟨(which.tmod (kk : Int)).toNat, by omega, by omega⟩
              obtain ⟨x, hx⟩ : ∃ x, d[i]? = some x := ⟨_, List.getElem?_eq_getElem (by rw [HN.out]; exact hin)⟩
              have HX := Lib.hid hx
              have HI := Lib.hid hi
              obtain ⟨⟨xr0, xr1⟩, -⟩ := ON.out i x hin hx
              have XT := (WD.out x (List.mem_of_getElem? hx)).2
              have iz : (i : Int) < (kk : Int) := by omega
              have iz0 : (0 : Int) ≤ (i : Int) := by omega
              have iz2 : (i : Int) ≤ 24 := by omega
              clear hx
              go_wp2_with fail
              refine ((cloneCloneD_any _ d _ (by have := RD.out.gr GO.out; rw [← HN.out] at this ⊢; exact this) (by rw [HN.out]; omega)).mono fun e w' h => rows_clone h HX.out).mono ?_
              rintro e w4 ⟨g, cap, rfl, own, g4⟩
              rw [HN.out]
              have G4 : Aside (Gr w3 w4) := G.out.trans g4
              have GB : Aside (w.heap.size ≤ wx.heap.size) := GO.out.size
              have OW : Hid (w4.ownsRow wx.heap.size 56 3 (.slice (some ⟨g, 0, none⟩) kk cap) kk (((d.set i ⟨x.f, x.r, Lp.erT fa fb x yy 0⟩).map encD).flatten)) := by rw [HN.out] at own; exact owns_set0 own HX.out
              have GRB : Aside (Gr wx w4) := g4
              clear g4 own hi
              generalize hbase : wx.heap.size = base at OW GB
              have HBS := Lib.hid hbase
              go_wp2_with fail
              clear hbase
              go_loopg [18, 19, 95] 2 (fun gg _ _ s95 wr => ∃ jj : Nat, jj ≤ 2 ∧ 2 - jj ≤ gg ∧ s95 = .int .i64 (jj : Int) ∧ Aside (Gr wx wr) ∧ Aside (wr.ownsRow base 56 3 (.slice (some ⟨g, 0, none⟩) kk cap) kk (((d.set i ⟨x.f, x.r, Lp.erT fa fb x yy jj⟩).map encD).flatten)))
              case atStart => exact ⟨0, Nat.zero_le _, by omega, rfl, GRB.out, OW.out⟩
              case round =>
                obtain ⟨jj, hjj, hgg2, rfl, GX, O⟩ := hrel
                have GX3 : Aside (Gr w3 wr) := G.out.trans GX.out
                have GXw : Aside (Gr w wr) := GO.out.trans GX.out
                by_cases hlt2 : jj < 2
                · have hltz2 : (jj : Int) < 2 := by omega
                  obtain ⟨f, hf⟩ : ∃ f, ([fa, fb] : List Fl)[jj]? = some f := ⟨_, List.getElem?_eq_getElem (by exact hlt2)⟩
                  have CF : Fw.chk 32 f = 0 := by
                    match jj, hf with
                    | 0, hf => cases hf; exact FA.out
                    | 1, hf => cases hf; exact FB.out
                  have F0 := (FU.out jj f hf).gr GX3.out
                  have ES := Lib.hid (Lp.erT_step (a := fa) (b := fb) (d := x) (y := yy) hf)
                  have l0 := (F0) 0 _ rfl; have l1 := (F0) 1 _ rfl; have l2 := (F0) 2 _ rfl; have l3 := (F0) 3 _ rfl; have l4 := (F0) 4 _ rfl; have l5 := (F0) 5 _ rfl; (try simp only [Nat.add_zero] at l0); (try simp only [Nat.zero_add] at l0 l1 l2 l3 l4 l5)
                  have hbr := F0.lt rfl
                  obtain ⟨⟨p0, p1⟩, ⟨p2, p3⟩, ⟨p4, p5⟩⟩ := Lp.rl_bd CF xr0 (by omega)
                  obtain ⟨rv, hrv⟩ : ∃ rv, f.ph + x.r * f.pe = rv := ⟨_, rfl⟩
                  have HRV : Hid (Lp.rl f x.r = rv) := (show _ = _ from hrv)
                  have rv0 : 0 ≤ rv := by omega
                  clear hf F0 CF
                  go_wp2_with fail
                  have FB5 := boxed (enc := encF) (x := f) (Gr.refl (wr.alloc (Obj.cells (encF f).toArray 47)))
                  have G5 : Aside (Gr wx (wr.alloc (Obj.cells (encF f).toArray 47))) := Gr.alloc GX.out _
                  have O5 := Lib.hid (O.out.alloc (Obj.cells (encF f).toArray 47))
                  generalize wr.alloc (Obj.cells (encF f).toArray 47) = w5 at FB5 G5 O5 ⊢
                  generalize wr.heap.size = bx at FB5 ⊢
                  have F5 := Lib.hid FB5
                  have X5 := Lib.hid ((DU.out i x HX.out).gr (GO.out.trans G5.out))
                  clear FB5 l0 l1 l2 l3 l4 l5 hbr
                  have y0 := (F5.out) 0 _ rfl; have y1 := (F5.out) 1 _ rfl; have y2 := (F5.out) 2 _ rfl; have y3 := (F5.out) 3 _ rfl; have y4 := (F5.out) 4 _ rfl; have y5 := (F5.out) 5 _ rfl; (try simp only [Nat.add_zero] at y0); (try simp only [Nat.zero_add] at y0 y1 y2 y3 y4 y5)
                  have x0 := (X5.out) 0 _ rfl; have x1 := (X5.out) 1 _ rfl; have x2 := (X5.out) 2 _ rfl; (try simp only [Nat.add_zero] at x0); (try simp only [Nat.zero_add] at x0 x1 x2)
                  have hzx := X5.out.lt rfl
                  have mul : IntKind.i64.wrap (x.r * f.pe) = x.r * f.pe := IntWalk.i64_in _ (by omega)
                  have add : IntKind.i64.wrap (f.ph + x.r * f.pe) = rv := by rw [IntWalk.i64_in _ (by omega)]; exact hrv
                  go_quiet (fail)
                  clear mul add hrv y0 y1 y2 y3 y4 y5 x0 x1 x2 hzx
                  have G6 : Aside (Gr wx (w5.drewN nq)) := G5.out.drewN _
                  have F6 := Lib.hid (F5.out.gr (Gr.drewN (Gr.refl w5) nq))
                  have X6 := Lib.hid (X5.out.gr (Gr.drewN (Gr.refl w5) nq))
                  have O6 := Lib.hid (owns_gr O5.out (Gr.drewN (Gr.refl w5) nq))
                  generalize w5.drewN nq = w6 at G6 F6 X6 O6 ⊢
                  clear G5 F5 X5 O5
                  have y0 := (F6.out) 0 _ rfl; have y1 := (F6.out) 1 _ rfl; have y2 := (F6.out) 2 _ rfl; have y3 := (F6.out) 3 _ rfl; have y4 := (F6.out) 4 _ rfl; have y5 := (F6.out) 5 _ rfl; (try simp only [Nat.add_zero] at y0); (try simp only [Nat.zero_add] at y0 y1 y2 y3 y4 y5)
                  have x0 := (X6.out) 0 _ rfl; have x1 := (X6.out) 1 _ rfl; have x2 := (X6.out) 2 _ rfl; (try simp only [Nat.add_zero] at x0); (try simp only [Nat.zero_add] at x0 x1 x2)
                  have hzx := X6.out.lt rfl
                  by_cases q1 : f.id = x.f
                  · have b1 : (f.id == x.f) = true := by simpa using q1
                    by_cases q2 : rv ≤ x.t
                    · have b2 : decide (rv ≤ x.t) = true := bt q2
                      have ET : Hid (Lp.erT fa fb x yy (jj + 1) = max rv (x.t - yy)) := (show _ = _ by rw [ES.out]; unfold Lp.er; rw [HRV.out, if_pos ⟨q1, q2⟩])
                      clear q1
                      go_wp2_with fail
                      go_quiet (fail)
                      have G7 : Aside (Gr wx (w6.drewN nq)) := G6.out.drewN _
                      have X7 := Lib.hid (X6.out.gr (Gr.drewN (Gr.refl w6) nq))
                      have O7 := Lib.hid (owns_gr O6.out (Gr.drewN (Gr.refl w6) nq))
                      generalize w6.drewN nq = w7 at G7 X7 O7 ⊢
                      clear G6 F6 X6 O6 y0 y1 y2 y3 y4 y5 x0 x1 x2 hzx
                      have x0 := (X7.out) 0 _ rfl; have x1 := (X7.out) 1 _ rfl; have x2 := (X7.out) 2 _ rfl; (try simp only [Nat.add_zero] at x0); (try simp only [Nat.zero_add] at x0 x1 x2)
                      have hzx := X7.out.lt rfl
                      have hid : i < d.length := by rw [HN.out]; exact hin
                      have cg := owns_cell encD_len O7.out (i := i) (j := 2) (x := ⟨x.f, x.r, Lp.erT fa fb x yy jj⟩) (by rw [List.getElem?_set_self hid]) rfl
                      have fz := fun j => O7.out.frozenAt j
                      have hgb := (O7.out.lt g rfl).1
                      have hgb2 := (O7.out.lt g rfl).2
                      have P1 := Lib.hid (owns_put2 encD_len O7.out hid 2 (.int .i64 (max rv (x.t - yy))) ⟨x.f, x.r, max rv (x.t - yy)⟩ (by decide) rfl)
                      clear hid
                      go_wp2_with fail
                      go_roundg (2 - (jj + 1))
                      case measure => omega
                      case rel => exact ⟨jj + 1, by omega, by omega, by go_num, (show Gr _ _ from Gr.setCell G7.out (by rw [HBS.out]; exact hgb) _), (show World.ownsRow _ _ _ _ _ _ _ by rw [ET.out]; exact P1.out)⟩
                    · have b2 : decide (rv ≤ x.t) = false := bf q2
                      have ET : Hid (Lp.erT fa fb x yy (jj + 1) = Lp.erT fa fb x yy jj) := (show _ = _ by rw [ES.out]; unfold Lp.er; rw [HRV.out, if_neg (fun k => q2 k.2)])
                      clear q1
                      go_wp2_with fail
                      go_quiet (fail)
                      go_wp2_with fail
                      go_roundg (2 - (jj + 1))
                      case measure => omega
                      case rel => exact ⟨jj + 1, by omega, by omega, by go_num, G6.out.drewN _, (show World.ownsRow _ _ _ _ _ _ _ by rw [ET.out]; exact owns_gr O6.out (Gr.drewN (Gr.refl _) _))⟩
                  · have b1 : (f.id == x.f) = false := by simpa using q1
                    have ET : Hid (Lp.erT fa fb x yy (jj + 1) = Lp.erT fa fb x yy jj) := (show _ = _ by rw [ES.out]; unfold Lp.er; rw [if_neg (fun k => q1 k.1)])
                    clear q1
                    go_wp2_with fail
                    go_quiet (fail)
                    go_wp2_with fail
                    go_roundg (2 - (jj + 1))
                    case measure => omega
                    case rel => exact ⟨jj + 1, by omega, by omega, by go_num, G6.out.drewN _, (show World.ownsRow _ _ _ _ _ _ _ by rw [ET.out]; exact owns_gr O6.out (Gr.drewN (Gr.refl _) _))⟩
                · have hltz2 : ¬ (jj : Int) < 2 := by omega
                  have hj2 : jj = 2 := by omega
                  subst hj2
                  have DL : (d.set i ⟨x.f, x.r, Lp.erT fa fb x yy 2⟩).length = kk := by rw [List.length_set]; exact HN.out
                  have RE := Lib.hid (owns_rows encD_len O.out DL)
                  have EAK := Lib.hid (fun (k : Nat) h => EA.out i x DI.out HX.out k h)
                  have DLH := Lib.hid DL
                  generalize d.set i ⟨x.f, x.r, Lp.erT fa fb x yy 2⟩ = d' at *
                  clear O DL
                  have L4 := Lib.hid (L3.out.gr GX3.out)
                  have S4 := Lib.hid (S3.out.gr GX3.out)
                  have u0 := (L4.out) 0 _ rfl; have u1 := (L4.out) 1 _ rfl; have u2 := (L4.out) 2 _ rfl; have u3 := (L4.out) 3 _ rfl; have u4 := (L4.out) 4 _ rfl; have u5 := (L4.out) 5 _ rfl; have u6 := (L4.out) 6 _ rfl; (try simp only [Nat.add_zero] at u0); (try simp only [Nat.zero_add] at u0 u1 u2 u3 u4 u5 u6)
                  have v0 := (S4.out) 0 _ rfl; have v1 := (S4.out) 1 _ rfl; (try simp only [Nat.add_zero] at v0); (try simp only [Nat.zero_add] at v0 v1)
                  have hz := L4.out.lt rfl
                  have hz2 := S4.out.lt rfl
                  go_wp2_with fail
                  refine (AGE.out _ d _ HN.out (RD.out.gr GXw.out)).mono ?_
                  rintro e w7 ⟨va, rfl, ra, g7⟩
                  have G7 : Aside (Gr w w7) := GXw.out.trans g7
                  have RA7 := Lib.hid ra
                  have RE7 := Lib.hid (RE.out.gr g7)
                  have L5 := Lib.hid (L4.out.gr g7)
                  have S5 := Lib.hid (S4.out.gr g7)
                  clear g7 ra RE L4 S4 u0 u1 u2 u3 u4 u5 u6 v0 v1 hz hz2
                  have u0 := (L5.out) 0 _ rfl; have u1 := (L5.out) 1 _ rfl; have u2 := (L5.out) 2 _ rfl; have u3 := (L5.out) 3 _ rfl; have u4 := (L5.out) 4 _ rfl; have u5 := (L5.out) 5 _ rfl; have u6 := (L5.out) 6 _ rfl; (try simp only [Nat.add_zero] at u0); (try simp only [Nat.zero_add] at u0 u1 u2 u3 u4 u5 u6)
                  have v0 := (S5.out) 0 _ rfl; have v1 := (S5.out) 1 _ rfl; (try simp only [Nat.add_zero] at v0); (try simp only [Nat.zero_add] at v0 v1)
                  have hz := L5.out.lt rfl
                  have hz2 := S5.out.lt rfl
                  go_wp2_with fail
                  refine (AGE.out _ d' _ DLH.out RE7.out).mono ?_
                  rintro e w8 ⟨vb, rfl, rb, g8⟩
                  have G8 : Aside (Gr w w8) := G7.out.trans g8
                  have RA8 := Lib.hid (RA7.out.gr g8)
                  obtain ⟨B, hB⟩ : ∃ B, Lp.age fa fb d = B := ⟨_, rfl⟩
                  obtain ⟨B', hB'⟩ : ∃ B', Lp.age fa fb d' = B' := ⟨_, rfl⟩
                  rw [hB] at RA8 EAK
                  rw [hB'] at rb EAK
                  rcases RA8.out with ⟨h, _⟩ | ⟨b1, o1, ca, hb1, rfl, hc1⟩
                  · exact absurd (congrArg List.length h) (by simp)
                  rcases rb with ⟨h, _⟩ | ⟨b2, o2, cb, hb2, rfl, hc2⟩
                  · exact absurd (congrArg List.length h) (by simp)
                  have CA : Aside (∀ k, k < 100 → w8.cell? ⟨b1, o1 + k, none⟩ = some (.int .i64 (B k))) := fun k hk => by
                    have := hc1 k (B k) (by simp [hk]) 0 _ rfl
                    simpa using this
                  have CB : Aside (∀ k, k < 100 → w8.cell? ⟨b2, o2 + k, none⟩ = some (.int .i64 (B' k))) := fun k hk => by
                    have := hc2 k (B' k) (by simp [hk]) 0 _ rfl
                    simpa using this
                  rw [show ((List.range 100).map B).length = 100 by simp, show ((List.range 100).map B').length = 100 by simp]
                  clear g8 hb1 hb2 hc1 hc2 RA7 RE7 RA8 L5 S5 u0 u1 u2 u3 u4 u5 u6 v0 v1 hz hz2 hB hB'
                  go_wp2_with fail
                  go_loopg [10, 24, 171] 100 (fun gg _ _ s171 wr => ∃ mm : Nat, mm ≤ 100 ∧ 100 - mm ≤ gg ∧ s171 = .int .i64 (mm : Int) ∧ Aside (Gr w8 wr))
                  case atStart => exact ⟨0, Nat.zero_le _, by omega, rfl, Gr.refl _⟩
                  case round =>
                    obtain ⟨mm, hmm, hgg3, rfl, GY⟩ := hrel
                    by_cases hlt3 : mm < 100
                    · have hltz3 : (mm : Int) < 100 := by omega
                      have c1 := held_keep GY.out (CA.out mm hlt3)
                      have c2 := held_keep GY.out (CB.out mm hlt3)
                      have E := EAK.out mm
                      generalize B mm = bm at *
                      generalize B' mm = am at *
                      by_cases hbm : 0 ≤ bm
                      · obtain ⟨e1, e2⟩ := E hbm
                        have b1 : decide (0 ≤ bm) = true := bt hbm
                        have b2 : decide (am < 0) = false := bf (by omega)
                        have b3 : decide (bm < am) = false := bf (by omega)
                        clear E
                        go_wp2_with fail
                        go_quiet (fail)
                        go_wp2_with fail
                        go_roundg (100 - (mm + 1))
                        case measure => omega
                        case rel => exact ⟨mm + 1, by omega, by omega, by go_num, GY.out.drewN _⟩
                      · have b1 : decide (0 ≤ bm) = false := bf hbm
                        clear E
                        go_wp2_with fail
                        go_quiet (fail)
                        go_wp2_with fail
                        go_roundg (100 - (mm + 1))
                        case measure => omega
                        case rel => exact ⟨mm + 1, by omega, by omega, by go_num, GY.out.drewN _⟩
                    · have hltz3 : ¬ (mm : Int) < 100 := by omega
                      go_wp2_with fail
                      go_ret
                      exact ⟨rfl, G8.out.trans GY.out⟩
        · have FLE : Lp.flwL l s = [] := if_neg (by simpa using hr)
          rw [FLE] at rf
          obtain ⟨Af, cf, rfl⟩ := rf.slice
          rw [show ([] : List Fl).length = 0 from rfl]
          generalize Lp.rgt l s = E at *
          clear rf FLE
          go_wp2_with fail
          go_ret
          exact ⟨rfl, G3.out⟩
  · rw [bf h24]
    go_wp2_with fail
    refine (lawake_any _).mono ?_
    rintro e w3 ⟨rfl, g3⟩
    have G3 : Aside (Gr w w3) := G2.out.trans g3
    go_wp2_with fail
    go_ret
    exact ⟨rfl, G3.out⟩
end Go.Proofs.Ytckkjiaoaeaaoaa.loopEarlier

