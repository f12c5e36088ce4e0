/- The contract of package loop's ages. -/
import Derived.Test.YtckkjiaoaeaaoaaLopF
import Derived.Test.YtckkjiaoaeaaoaaLopAge
import Derived.Test.YtckkjiaoaeaaoaaQTail
import Derived.Deep.OwnRows
namespace Go.Proofs.Ytckkjiaoaeaaoaa
open Go.RowKit Go.Sort Go.Maps
set_option linter.unusedVariables false

theorem infoI : (Try.prog.info? 3).map (fun i => (i.zero, i.size, i.bytes)) = some (some (.int .i64 0), 1, 8) := by kernel_rfl
/-- a list of ints comes back -/
def IsPost (l : List Int) (w : World) (e : Ending) (w' : World) : Prop := ∃ v, e = .returned v ∧ Rows 1 encI w' v l ∧ Gr w w'

theorem At.blk {α : Type} {enc : α → List Value} {w w' : World} {b o : Nat} {x : α} (h : At enc w b o x) (e : w'.heap[b]? = w.heap[b]?) : At enc w' b o x := fun j u hj => by
  have : w'.cell? ⟨b, o + j, none⟩ = w.cell? ⟨b, o + j, none⟩ := by simp only [World.cell?, e]
  rw [this]; exact h j u hj
theorem MapAt.blk {w w' : World} {b : Nat} {g : Int → Option Int} (h : MapAt w b g) (e : w'.heap[b]? = w.heap[b]?) : MapAt w' b g := by
  obtain ⟨n, D, h1, ⟨es, clock, k1, k2⟩, h3⟩ := h
  exact ⟨n, D, h1, ⟨es, clock, e.trans k1, k2⟩, h3⟩
theorem ranges_blk {w w' : World} {b r n cnt : Nat} {D : DataW Unit} {left : Lit → Bool} (h : w.ranges Try.prog 3 (plainElem (H := Unit) Try.prog 3) b r n D left cnt) (e1 : w'.heap[b]? = w.heap[b]?) (e2 : w'.heap[r]? = w.heap[r]?) : w'.ranges Try.prog 3 (plainElem (H := Unit) Try.prog 3) b r n D left cnt := by
  obtain ⟨es, clock, since, seen, c0, h1, h2, h3, h4, h5, h6⟩ := h
  exact ⟨es, clock, since, seen, c0, e1.trans h1, h2, h3, h4, e2.trans h5, h6⟩
/-- what lies in memory in ages: the two flows, the samples, fresh -/
def AG (fa fb : Fl) (ds : List Dv) (b9 b10 b1 g N : Nat) (F : Nat → Int) (w : World) : Prop := At encF w b9 0 fa ∧ At encF w b10 0 fb ∧ MapAt w b1 (Lp.arr fa ds) ∧ w.rowIs g 3 (N + 1) (fun i => .int .i64 (F i))
theorem AG.blk {fa fb : Fl} {ds : List Dv} {b9 b10 b1 g N : Nat} {F : Nat → Int} {w w' : World} (h : AG fa fb ds b9 b10 b1 g N F w) (e : ∀ k, k = b9 ∨ k = b10 ∨ k = b1 ∨ k = g → w'.heap[k]? = w.heap[k]?) : AG fa fb ds b9 b10 b1 g N F w' :=
  ⟨h.1.blk (e _ (.inl rfl)), h.2.1.blk (e _ (.inr (.inl rfl))), h.2.2.1.blk (e _ (.inr (.inr (.inl rfl)))), h.2.2.2.of_block (e _ (.inr (.inr (.inr rfl))))⟩
theorem AG.lt {fa fb : Fl} {ds : List Dv} {b9 b10 b1 g N : Nat} {F : Nat → Int} {w : World} (h : AG fa fb ds b9 b10 b1 g N F w) : ∀ k, k = b9 ∨ k = b10 ∨ k = b1 ∨ k = g → k < w.heap.size := by
  rintro k (rfl | rfl | rfl | rfl)
  · exact h.1.lt rfl
  · exact h.2.1.lt rfl
  · exact h.2.2.1.lt
  · exact h.2.2.2.lt
theorem AG.gr {fa fb : Fl} {ds : List Dv} {b9 b10 b1 g N : Nat} {F : Nat → Int} {w w' : World} (h : AG fa fb ds b9 b10 b1 g N F w) (k : Gr w w') : AG fa fb ds b9 b10 b1 g N F w' := h.blk fun j hj => k.block j (h.lt j hj)
theorem AG.grown {fa fb : Fl} {ds : List Dv} {b9 b10 b1 g N r : Nat} {F : Nat → Int} {w w' : World} (h : AG fa fb ds b9 b10 b1 g N F w) (k : w.grownBy w' (some r)) (hr : ∀ j, j = b9 ∨ j = b10 ∨ j = b1 ∨ j = g → j ≠ r) : AG fa fb ds b9 b10 b1 g N F w' := h.blk fun j hj => k.block j (h.lt j hj) (by have := hr j hj; simpa using this)
theorem AG.set {fa fb : Fl} {ds : List Dv} {b9 b10 b1 g N : Nat} {F : Nat → Int} {w : World} (h : AG fa fb ds b9 b10 b1 g N F w) (hg : ∀ j, j = b9 ∨ j = b10 ∨ j = b1 → j ≠ g) (i : Nat) (v : Int) : AG fa fb ds b9 b10 b1 g N (fun j => if j = i then v else F j) (w.setCell ⟨g, i, none⟩ (.int .i64 v)) := by
  refine ⟨h.1.blk (Go.Deep.blk_setCell_other _ _ _ _ (hg _ (.inl rfl))), h.2.1.blk (Go.Deep.blk_setCell_other _ _ _ _ (hg _ (.inr (.inl rfl)))), h.2.2.1.blk (Go.Deep.blk_setCell_other _ _ _ _ (hg _ (.inr (.inr rfl)))), (h.2.2.2.set i (.int .i64 v)).congr fun j hj => ?_⟩
  by_cases e : j = i
  · subst e; simp
  · simp [e]
/-- a block of cells is no map -/
theorem map_ne_row {w : World} {b g n : Nat} {t : TypeId} {f : Nat → Value} {k : Int → Option Int} (h : MapAt w b k) (r : w.rowIs g t n f) : b ≠ g := by
  rintro rfl
  obtain ⟨_, _, _, ⟨es, clock, k1, _⟩, _⟩ := h
  obtain ⟨c, hc, _⟩ := r
  rw [k1] at hc
  cases hc

set_option maxHeartbeats 8000000 in
set_option maxRecDepth 100000 in
theorem ages_any (l : Lo) (s : Sp) (v : Value) (ds : List Dv) (N : Nat) (w : World) (hr : Lp.rgt l s = 0) (h : Rows 3 encD w v ds) (hl : ds.length ≤ 1048575) (hN : N ≤ 4096) :
    Calls Try.prog 39 #[.agg #[.int .i64 l.id, .int .i64 l.se, .int .i64 l.co, .int .i64 l.ac, .int .i64 l.pe, .int .i64 l.ph, .int .i64 l.ag], .agg #[.int .i64 s.s, .int .i64 s.a], v, .int .i64 (N : Int)] w (IsPost (Lp.ageL (Lp.fa l s) (Lp.fb l s) ds N) w) := by
  have C1 := fun W => flows_any l s W hr
  have FA := Lib.hid (Lp.fa_ok hr)
  have FB := Lib.hid (Lp.fb_ok hr)
  generalize Lp.fa l s = fa at C1 FA ⊢
  generalize Lp.fb l s = fb at C1 FB ⊢
  have HD := Lib.hid h
  have HL := Lib.hid hl
  obtain ⟨A, c, rfl⟩ := h.slice
  obtain ⟨i0, hi, hz0, hz1, hz2⟩ := info_parts infoI
  have hmk : ∀ W : World, (Instr.makeSlice 30 (.int .i64 ((N : Int) + 1)) (.int .i64 ((N : Int) + 1))).run Try.prog W = .ok (.slice (some ⟨W.heap.size, 0, none⟩) (N + 1) (N + 1)) (W.alloc (.cells (madeCells #[Value.int .i64 0] (N + 1)) 3)) := fun W => by
    have := run_make_row' (P := Try.prog) 30 3 (.int .i64 0) 8 Try.underlying30 infoI rfl .i64 .i64 (N + 1) (by omega) (by omega) W
    rwa [show ((N + 1 : Nat) : Int) = (N : Int) + 1 by omega] at this
  clear h hr hl
  go_enter Try.func39, Try.ntmps39
  go_wp2_with fail
  refine (C1 _).mono ?_
  rintro e w1 ⟨rfl, g1⟩
  have G1 : Aside (Gr w w1) := (Gr.alloc (Gr.alloc (Gr.refl _) _) _).trans g1
  clear g1 C1
  go_wp2_with fail
  obtain ⟨P9, P10⟩ := boxed2 (enc := encF) (enc2 := encF) (x := fa) (y := fb) (Gr.refl ((w1.alloc (Obj.cells (encF fa).toArray 47)).alloc (Obj.cells (encF fb).toArray 47)))
  have G2 : Aside (Gr w ((w1.alloc (Obj.cells (encF fa).toArray 47)).alloc (Obj.cells (encF fb).toArray 47))) := Gr.alloc (Gr.alloc G1.out _) _
  generalize ((w1.alloc (Obj.cells (encF fa).toArray 47)).alloc (Obj.cells (encF fb).toArray 47)) = w2 at P9 P10 G2 ⊢
  generalize hb10 : w1.heap.size + 1 = b10 at P10 ⊢
  generalize hb9 : w1.heap.size = b9 at P9 ⊢
  clear hb9 hb10 G1
  have Q9 := Lib.hid P9
  have Q10 := Lib.hid P10
  clear P9 P10
  refine (arrived_any fa _ ds _ FA.out (HD.out.gr G2.out) HL.out).mono ?_
  rintro e w3 ⟨b1, rfl, m1, g3⟩
  have G3 : Aside (Gr w w3) := G2.out.trans g3
  have M1 := Lib.hid m1
  have P9 := Lib.hid (Q9.out.gr g3)
  have P10 := Lib.hid (Q10.out.gr g3)
  clear g3 m1 Q9 Q10
  have y0 := (P10.out) 0 _ rfl; have y1 := (P10.out) 1 _ rfl; have y2 := (P10.out) 2 _ rfl; have y3 := (P10.out) 3 _ rfl; have y4 := (P10.out) 4 _ rfl; have y5 := (P10.out) 5 _ rfl; (try simp only [Nat.add_zero] at y0); (try simp only [Nat.zero_add] at y0 y1 y2 y3 y4 y5)
  have hzb := P10.out.lt rfl
  go_wp2_with fail
  have R4 := World.rowIs_made w3 (.int .i64 0) (N + 1) 3
  have AG4 : Aside (AG fa fb ds b9 b10 b1 w3.heap.size N (fun _ => 0) (w3.alloc (.cells (madeCells #[Value.int .i64 0] (N + 1)) 3))) := ⟨P9.out.gr (Gr.alloc (Gr.refl _) _), P10.out.gr (Gr.alloc (Gr.refl _) _), M1.out.gr (Gr.alloc (Gr.refl _) _), R4⟩
  have G4 : Aside (Gr w (w3.alloc (.cells (madeCells #[Value.int .i64 0] (N + 1)) 3))) := Gr.alloc G3.out _
  have NE : Aside (∀ j, j = b9 ∨ j = b10 ∨ j = b1 → j ≠ w3.heap.size) := by
    rintro j (rfl | rfl | rfl)
    · exact Nat.ne_of_lt (P9.out.lt rfl)
    · exact Nat.ne_of_lt (P10.out.lt rfl)
    · exact Nat.ne_of_lt M1.out.lt
  have GW : Hid (w.heap.size ≤ w3.heap.size) := G3.out.size
  clear R4 hmk y0 y1 y2 y3 y4 y5 hzb
  generalize w3.alloc (.cells (madeCells #[Value.int .i64 0] (N + 1)) 3) = w4 at AG4 G4 ⊢
  generalize w3.heap.size = g at AG4 NE GW ⊢
  clear G3 M1 P9 P10
  refine (arrived_any fb _ ds _ FB.out (HD.out.gr G4.out) HL.out).mono ?_
  rintro e w5 ⟨b2, rfl, m2, g5⟩
  have G5 : Aside (Gr w w5) := G4.out.trans g5
  have AG5 := Lib.hid (AG4.out.gr g5)
  have NE2 : Aside (b2 ≠ g) := map_ne_row m2 AG5.out.2.2.2
  obtain ⟨n, D, hn, hown, hR⟩ := m2
  have HR := Lib.hid hR
  have HB2 := Lib.hid hown.lt
  clear g5 hR AG4 G4 hn
  go_wp2_with (at_range; refine wpList_range_own _ rfl _ 77 rfl 3 3 lawI Try.underlying77 _ b2 n D rfl hown ?_; intro w0 hrg0 hg0 hs0; have RG0 := Lib.hid hrg0; have G0 := Lib.hid hg0; clear hrg0 hg0 hs0)
  go_frame
  have LT5 : Aside (∀ k, k = b9 ∨ k = b10 ∨ k = b1 ∨ k = g → k ≠ w5.heap.size) := fun k hk => Nat.ne_of_lt (AG5.out.lt k hk)
  have GR0 : Aside (Gr w w0) := Gr.append G5.out G0.out (fun k hk => by cases hk)
  have AG0 : Aside (AG fa fb ds b9 b10 b1 g N (fun _ => 0) w0) := AG5.out.blk fun k hk => G0.out.block k (AG5.out.lt k hk) (by simp)
  have GW5 : Hid (w.heap.size ≤ w5.heap.size) := G5.out.size
  have GB5 : Hid (g ≠ w5.heap.size) := LT5.out g (by simp)
  have HB5 : Hid (b2 ≠ w5.heap.size) := Nat.ne_of_lt HB2.out
  clear hown
  generalize w5.heap.size = r at RG0 LT5 GW5 GB5 HB5 ⊢
  clear G5 AG5 HB2 G0
  go_loopg [13, 14] (Maps.size D) (fun gg _ _ wr => ∃ (left : Lit → Bool) (cnt : Nat) (F : Nat → Int), cnt ≤ gg ∧ Aside (wr.ranges Try.prog 3 (plainElem (H := Unit) Try.prog 3) b2 r n D left cnt) ∧ Aside (Gr w wr) ∧ Aside (AG fa fb ds b9 b10 b1 g N F wr) ∧ Aside (Lp.FR fa fb ds N left F))
  case atStart => exact ⟨Maps.has D, Maps.size D, fun _ => 0, Nat.le_refl _, RG0.out, GR0.out, AG0.out, Lp.FR.start N HR.out⟩
  case round =>
    obtain ⟨left, cnt, F, hcg, RG, G, A6, FF⟩ := hrel
    go_wp2_with (at_next; refine wpList_next_ranges_ii _ rfl _ rfl 3 3 .i64 .i64 lawI Try.underlying3 Try.underlying3 b2 r n _ _ _ rfl RG.out ?_ ?_)
    · intro _ hl0
      have VU := Lib.hid (fun (k : Nat) (hk : k < N) => Lp.V_use FF.out hl0 hk)
      have FB0 := Lib.hid (fun (k : Nat) (hk : k ≤ N) => (FF.out.1 k hk).1)
      have FB1 := Lib.hid (fun (k : Nat) (hk : k ≤ N) => (FF.out.1 k hk).2.1)
      have V0 := Lib.hid (fun (k : Nat) (hk : k ≤ N) => (Lp.V_part FF.out hl0 k hk).2.1)
      clear hl0 RG FF
      obtain ⟨wx, rfl⟩ : ∃ wx, wx = wr := ⟨_, rfl⟩
      go_wp2_with fail
      go_loopg [15, 16, 17, 60] N (fun gg s15 s16 _ s60 wr => ∃ kk : Nat, kk ≤ N ∧ N - kk ≤ gg ∧ s60 = .int .i64 (kk : Int) ∧ s16 = .int .i64 (Lp.V F kk) ∧ Aside (Gr wx wr) ∧ Aside (wr.ownsRow wx.heap.size 3 1 s15 kk ((Lp.ageL fa fb ds kk).map (Value.int .i64))))
      case atStart => exact ⟨0, Nat.zero_le _, by omega, rfl, rfl, Gr.refl _, World.ownsRow_nil _ _ _ _⟩
      case round =>
        obtain ⟨kk, hkk, hgg, rfl, rfl, GX, O⟩ := hrel
        have GO : Aside (Gr w wr) := G.out.trans GX.out
        by_cases hlt : kk < N
        · have hltz : (kk : Int) < (N : Int) := by omega
          have AR6 := Lib.hid (A6.out.gr GX.out)
          have cg : wr.cell? ⟨g, kk, none⟩ = some (.int .i64 (F kk)) := AR6.out.2.2.2.cell (by omega)
          have hu0 := VU.out kk hlt
          have hmax : max (Lp.V F kk) (F kk) = Lp.V F (kk + 1) := rfl
          have ub := Lp.useN_bd fa fb ds kk
          have HAG := Lib.hid (Lp.ageL_snoc fa fb ds kk)
          obtain ⟨uu, huu⟩ : ∃ uu, Lp.V F (kk + 1) = uu := ⟨_, rfl⟩
          have HV : Hid (Lp.V F (kk + 1) = uu) := (show _ = _ from huu)
          have HU : Hid (uu = Lp.useN fa fb ds kk + 1) := (show _ = _ by rw [← huu]; exact hu0)
          rw [huu] at hmax
          have u0 : 0 ≤ uu := by have := HU.out; omega
          have u1 : uu ≤ 1073741825 := by have := HU.out; omega
          clear huu hu0 ub
          generalize Lp.V F kk = vk at hmax
          generalize F kk = fk at hmax cg
          obtain ⟨XS, hXS⟩ : ∃ XS, (Lp.ageL fa fb ds kk).map (Value.int .i64) = XS := ⟨_, rfl⟩
          have HXS := Lib.hid hXS
          rw [hXS] at O
          clear hXS
          by_cases q : uu = 0
          · have q0 : (uu == 0) = true := by simpa using q
            have AE := Lib.hid (Lp.age_no (a := fa) (b := fb) (ds := ds) (k := kk) (by rw [← HU.out]; exact q))
            have Q := Lib.hid q
            clear q
            go_wp2_with (at_builtin; refine wpList_append_own _ rfl _ _ 30 rfl wx.heap.size 3 i0 (.int .i64 0) 1 8 Try.underlying30 hi hz0 hz1 hz2 rfl (by decide) _ _ _ rfl (O.out.alloc _) ⟨wr.heap.size, 0, none⟩ 1 1 [.int .i64 (-1)] rfl rfl ?qa1 ?qa2 ?qa3 ?qa4 ?qa5 ?_)
            case qa1 => intro j u hj; rw [Addr.add_lit, Nat.zero_add, World.cell?_alloc_new]; simpa using hj
            case qa2 => simp [Value.oneCell']
            case qa3 => unfold maxLen; omega
            case qa4 => omega
            case qa5 => have := GX.out.size; simp; omega
            intro v' w' hown' hgrow _
            have HO := Lib.hid hown'
            clear hown'
            go_wp2_with fail
            go_roundg (N - (kk + 1))
            case measure => omega
            case rel => exact ⟨kk + 1, by omega, by omega, by go_num, (by rw [HV.out]), (GX.out.alloc _).append hgrow (fun k hk => (O.out.lt k hk).1), (show World.ownsRow _ _ _ _ _ _ _ by rw [HAG.out, List.map_append, HXS.out, AE.out]; exact HO.out)⟩
          · have q0 : (uu == 0) = false := by simpa using q
            have AE := Lib.hid (Lp.age_is (a := fa) (b := fb) (ds := ds) (k := kk) (by rw [← HU.out]; exact q))
            have p0 : 0 ≤ uu - 1 := by omega
            have p1 : uu - 1 ≤ 1073741824 := by omega
            have REL := fun W => lrelease_any fa (uu - 1) W FA.out p0 p1
            obtain ⟨rv, hrv⟩ : ∃ rv, fa.ph + (uu - 1) * fa.pe = rv := ⟨_, rfl⟩
            have HRV : Hid (Lp.rl fa (Lp.useN fa fb ds kk) = rv) := (show _ = _ by rw [← hrv, HU.out]; unfold Lp.rl; congr 2; omega)
            have rb : 0 ≤ rv ∧ rv ≤ 1099511627776 := by
              obtain ⟨ho, -⟩ := Fw.chk_inv FA.out
              obtain ⟨_, o1, o2, o3, o4, _⟩ := ho
              have h1 : (uu - 1) * fa.pe ≤ 1073741824 * 512 := Int.mul_le_mul p1 o2 (by omega) (by decide)
              have h2 : 0 ≤ (uu - 1) * fa.pe := Int.mul_nonneg p0 (by omega)
              omega
            obtain ⟨rb0, rb1⟩ := rb
            rw [hrv] at REL
            have y0 := (AR6.out.1) 0 _ rfl; have y1 := (AR6.out.1) 1 _ rfl; have y2 := (AR6.out.1) 2 _ rfl; have y3 := (AR6.out.1) 3 _ rfl; have y4 := (AR6.out.1) 4 _ rfl; have y5 := (AR6.out.1) 5 _ rfl; (try simp only [Nat.add_zero] at y0); (try simp only [Nat.zero_add] at y0 y1 y2 y3 y4 y5)
            have hzb := AR6.out.1.lt rfl
            have Q := Lib.hid q
            clear q hrv
            go_wp2_with fail
            refine (REL _).mono ?_
            rintro e w5 ⟨rfl, g5⟩
            have G5 : Aside (Gr wx w5) := GX.out.trans g5
            have O5 := Lib.hid (owns_gr O.out g5)
            clear g5 y0 y1 y2 y3 y4 y5 hzb cg
            go_wp2_with (at_builtin; refine wpList_append_own _ rfl _ _ 30 rfl wx.heap.size 3 i0 (.int .i64 0) 1 8 Try.underlying30 hi hz0 hz1 hz2 rfl (by decide) _ _ _ rfl (O5.out.alloc _) ⟨w5.heap.size, 0, none⟩ 1 1 [.int .i64 ((kk : Int) - rv)] rfl rfl ?qb1 ?qb2 ?qb3 ?qb4 ?qb5 ?_)
            case qb1 => intro j u hj; rw [Addr.add_lit, Nat.zero_add, World.cell?_alloc_new]; simpa using hj
            case qb2 => simp [Value.oneCell']
            case qb3 => unfold maxLen; omega
            case qb4 => omega
            case qb5 => have := G5.out.size; simp; omega
            intro v' w' hown' hgrow _
            have HO := Lib.hid hown'
            clear hown'
            go_wp2_with fail
            go_roundg (N - (kk + 1))
            case measure => omega
            case rel => exact ⟨kk + 1, by omega, by omega, by go_num, (by rw [HV.out]), (G5.out.alloc _).append hgrow (fun k hk => (O5.out.lt k hk).1), (show World.ownsRow _ _ _ _ _ _ _ by rw [HAG.out, List.map_append, HXS.out, AE.out, HRV.out]; exact HO.out)⟩
        · have hltz : ¬ (kk : Int) < (N : Int) := by omega
          have hkn : kk = N := by omega
          subst hkn
          go_wp2_with fail
          go_ret
          exact ⟨u15, rfl, Rows.ints_of O.out (Lp.ageL_len _ _ _ _), GO.out⟩
    · intro x c w1 cnt1 hwx hwc hlx hat hrg1 hlt hg1 hs1 hen
      have AX := reads_at HR.out (FF.out.2 x hlx) hat
      obtain ⟨⟨x0, x1⟩, ⟨c0, c1⟩, -⟩ := Lp.arr_bd AX
      obtain ⟨k, rfl⟩ : ∃ k : Nat, c = (k : Int) := ⟨c.toNat, by omega⟩
      have HAX := Lib.hid AX
      have RG1 := Lib.hid hrg1
      have G1 : Aside (Gr w w1) := Gr.append G.out hg1 (fun j hj => by cases hj; exact GW5.out)
      have A1 : Aside (AG fa fb ds b9 b10 b1 g N F w1) := A6.out.grown hg1 LT5.out
      clear hat hrg1 hg1 hs1 hlx AX hwx hwc RG G A6
      by_cases hc : k + 1 < N
      · have hcz : (k : Int) + 1 < (N : Int) := by omega
        have FH := Lib.hid (FF.out.hit HAX.out hc)
        have fk := FF.out.1 (k + 1) (by omega)
        have REL := fun W => lrelease_any fb x W FB.out x0 x1
        have CAR := fun W hW => carries_any fa ds (Lp.rl fb x) b1 W hW
        have cb := Lp.car_bd fa ds (Lp.rl fb x)
        have cg := A1.out.2.2.2.cell (i := k + 1) (by omega)
        obtain ⟨rv, hrv⟩ : ∃ rv, Lp.rl fb x = rv := ⟨_, rfl⟩
        have hrv2 : fb.ph + x * fb.pe = rv := hrv
        have FHo := FH.out
        rw [hrv] at CAR cb FHo
        rw [hrv2] at REL
        generalize Lp.car fa ds rv = cv at CAR cb FHo
        generalize hfv : F (k + 1) = fv at fk cg
        obtain ⟨f0, f1, -⟩ := fk
        obtain ⟨cb0, cb1⟩ := cb
        have HFV := Lib.hid hfv
        have HFH := Lib.hid FHo
        clear hrv hrv2 hfv FH FHo
        go_wp2_with fail
        have mixed : Try.prog.follows .mixedOrders = true := by kernel_rfl
        have z1 : IntKind.i64.wrap ((k : Int) + 1) = (k : Int) + 1 := IntWalk.i64_in _ (by omega)
        have z2 : IntKind.i64.wrap (cv + 1) = cv + 1 := IntWalk.i64_in _ (by omega)
        have z3 : (0 : Int) ≤ (k : Int) + 1 := by omega
        have z4 : ((k : Int) + 1).toNat = k + 1 := by omega
        have z5 : (k : Int) + 1 < (N : Int) + 1 := by omega
        have y0 := fun dq oq => cell_regrown ((A1.out.2.1) 0 _ rfl) dq oq; have y1 := fun dq oq => cell_regrown ((A1.out.2.1) 1 _ rfl) dq oq; have y2 := fun dq oq => cell_regrown ((A1.out.2.1) 2 _ rfl) dq oq; have y3 := fun dq oq => cell_regrown ((A1.out.2.1) 3 _ rfl) dq oq; have y4 := fun dq oq => cell_regrown ((A1.out.2.1) 4 _ rfl) dq oq; have y5 := fun dq oq => cell_regrown ((A1.out.2.1) 5 _ rfl) dq oq; (try simp only [Nat.add_zero] at y0); (try simp only [Nat.zero_add] at y0 y1 y2 y3 y4 y5)
        have cq := fun d os => cell_regrown cg d os
        have CAR2 := fun d os => CAR (Go.Sort.grow (redrawn w1 d) os) (A1.out.2.2.1.gr (Gr.regrown (Gr.refl _) d os))
        clear cg CAR
        refine QT.wp_region_tail 16 (by assumption) (by kernel_rfl) ?_; simp only [List.take_succ_cons, List.take_zero, List.drop_succ_cons, List.drop_zero]; (repeat (quiet_step ((first | (go_at_call 52; with_reducible exact Gr.meet (REL _)) | (go_at_call 50; with_reducible exact Gr.meet (CAR2 _ _)))))); refine wpQuiet_nil ?_; intro _ hw'; obtain ⟨⟨nq, osq⟩, hw''⟩ := hw'; subst hw''; have gq := Gr.regrown (Gr.refl (w1)) nq osq; generalize Go.Sort.grow (redrawn (w1) nq) osq = w2 at gq ⊢
        have A2 : Aside (AG fa fb ds b9 b10 b1 g N F w2) := A1.out.gr gq
        have G2 : Aside (Gr w w2) := G1.out.trans gq
        have RG2 := Lib.hid (ranges_gr RG1.out gq)
        have cg : w2.cell? ⟨g, k + 1, none⟩ = some (.int .i64 fv) := by rw [← HFV.out]; exact A2.out.2.2.2.cell (by omega)
        have fz := A2.out.2.2.2.frozen (k + 1)
        clear gq cq y0 y1 y2 y3 y4 y5 REL CAR2 A1 G1 RG1
        have FE : (fun i => if i = k + 1 then max (F i) (cv + 1) else F i) = (fun i => if i = k + 1 then max fv (cv + 1) else F i) := by
          funext i
          by_cases e : i = k + 1
          · subst e; simp only [if_true]; rw [HFV.out]
          · simp only [if_neg e]
        have FH' := HFH.out
        rw [FE] at FH'
        have FH2 := Lib.hid FH'
        clear FE HFH FH'
        go_wp2_with fail
        go_roundg cnt1
        case measure => omega
        case rel => exact ⟨_, cnt1, (fun i => if i = k + 1 then max fv (cv + 1) else F i), Nat.le_refl _, (show World.ranges _ _ _ _ _ _ _ _ _ _ from ranges_blk RG2.out (Go.Deep.blk_setCell_other _ _ _ _ NE2.out) (Go.Deep.blk_setCell_other _ _ _ _ (Ne.symm GB5.out))), (show Gr _ _ from Gr.setCell G2.out GW.out _), (show AG _ _ _ _ _ _ _ _ _ _ from A2.out.set NE.out (k + 1) (max fv (cv + 1))), FH2.out⟩
      · have hcz : ¬ (k : Int) + 1 < (N : Int) := by omega
        have FM := Lib.hid (FF.out.miss HAX.out hc)
        go_wp2_with fail
        go_roundg cnt1
        case measure => omega
        case rel => exact ⟨_, cnt1, F, Nat.le_refl _, RG1.out, G1.out, A1.out, FM.out⟩
end Go.Proofs.Ytckkjiaoaeaaoaa
