/- The contracts of Late: package loop's, and the reference's. (Printed by mklate.py.) -/
import Derived.Test.YtckkjiaoaeaaoaaR50E
import Derived.Test.YtckkjiaoaeaaoaaLopH
namespace Go.Proofs.Ytckkjiaoaeaaoaa
open Go.RowKit Go.Sort
set_option linter.unusedVariables false

namespace Lp
/-- the places among the first k that hold more than g -/
def late (g : Int) (L : List Int) (k : Nat) : List Int := ((List.range k).filter fun i => decide (g < L.getD i 0)).map fun i : Nat => (i : Int)
theorem late_hit {g x : Int} {L : List Int} {k : Nat} (hx : L[k]? = some x) (h : g < x) : late g L (k + 1) = late g L k ++ [(k : Int)] := by
  unfold late
  rw [List.range_succ, List.filter_append, List.map_append]
  congr 1
  have : L.getD k 0 = x := by rw [List.getD_eq_getElem?_getD, hx]; rfl
  simp only [List.filter_cons, this, decide_eq_true h, if_true, List.filter_nil, List.map_cons, List.map_nil]
theorem late_miss {g x : Int} {L : List Int} {k : Nat} (hx : L[k]? = some x) (h : ¬ g < x) : late g L (k + 1) = late g L k := by
  unfold late
  rw [List.range_succ, List.filter_append, List.map_append]
  have : L.getD k 0 = x := by rw [List.getD_eq_getElem?_getD, hx]; rfl
  rw [List.filter_cons, this, decide_eq_false h]
  simp
theorem late_le (g : Int) (L : List Int) (k : Nat) : (late g L k).length ≤ k := by
  unfold late
  rw [List.length_map]
  exact Nat.le_trans (List.length_filter_le _ _) (by simp)
theorem late_none {g : Int} {L : List Int} {k : Nat} (h : ∀ i x, i < k → L[i]? = some x → x ≤ g) (hk : k ≤ L.length) : late g L k = [] := by
  unfold late
  rw [List.map_eq_nil_iff, List.filter_eq_nil_iff]
  intro i hi
  rw [List.mem_range] at hi
  have hx : L[i]? = some L[i] := List.getElem?_eq_getElem (by omega)
  have := h i _ hi hx
  rw [List.getD_eq_getElem?_getD, hx]
  simp only [Option.getD_some, decide_eq_true_eq]
  omega
def lateR (l : Lo) (s : Sp) (ds : List Dv) (t : Int) : List Int := late l.ag (ageR l s ds t) (ageR l s ds t).length
theorem lateR_no {l : Lo} {s : Sp} {ds : List Dv} {t : Int} (h : ¬ chkA l s ds.length t = 0) : lateR l s ds t = [] := by
  unfold lateR
  rw [show ageR l s ds t = [] from if_neg h]
  rfl
end Lp
theorem map_int_append (l : List Int) (k : Int) : (l ++ [k]).map (Value.int .i64) = l.map (Value.int .i64) ++ [.int .i64 k] := by rw [List.map_append]; rfl

set_option maxHeartbeats 8000000 in
set_option maxRecDepth 100000 in
theorem late_any (l : Lo) (s : Sp) (v : Value) (ds : List Dv) (t : Int) (w : World) (h : Rows 3 encD w v ds) :
    Calls Try.prog 25 #[.agg #[.int .i64 l.id, .int .i64 l.se, .int .i64 l.co, .int .i64 l.ac, .int .i64 l.pe, .int .i64 l.ph, .int .i64 l.ag], .agg #[.int .i64 s.s, .int .i64 s.a], v, .int .i64 t] w (IePost (Lp.chkA l s ds.length t) (Lp.lateR l s ds t) w) := by
  obtain ⟨i0, hi, hz0, hz1, hz2⟩ := info_parts infoI
  have HD := Lib.hid h
  obtain ⟨A, c, rfl⟩ := h.slice
  have C1 := fun W => lcheckA_any l s A ds.length c t W
  clear h
  rcases Lp.chkA_cases l s ds.length t with hk | hk
  · obtain ⟨hr, ⟨t0, t1⟩, hn⟩ := Lp.chkA_inv hk
    obtain ⟨n, rfl⟩ : ∃ N : Nat, t = (N : Int) := ⟨t.toNat, by omega⟩
    have C2 := fun W g => ages_any l s (.slice A ds.length c) ds n W hr (HD.out.gr (w := W) g) (by omega) (by omega)
    have R : Hid (Lp.lateR l s ds (n : Int) = Lp.late l.ag (Lp.ageL (Lp.fa l s) (Lp.fb l s) ds n) n) := (show _ = _ by unfold Lp.lateR; rw [show Lp.ageR l s ds (n : Int) = Lp.ageL (Lp.fa l s) (Lp.fb l s) ds n from if_pos hk, Lp.ageL_len])
    have HN : Hid ((Lp.ageL (Lp.fa l s) (Lp.fb l s) ds n).length = n) := (show _ = _ from Lp.ageL_len _ _ _ _)
    generalize Lp.ageL (Lp.fa l s) (Lp.fb l s) ds n = L at C2 R HN
    rw [hk] at C1 ⊢
    have C2' := Lib.hid C2
    clear hk hr C2
    go_enter Try.func25, Try.ntmps25
    go_wp2_with fail
    refine (C1 _).mono ?_
    rintro e w1 ⟨rfl, g1⟩
    obtain ⟨L1, S1⟩ := boxed2 (enc := encL) (enc2 := encP) (x := l) (y := s) g1
    have u0 := (L1) 0 _ rfl; have u1 := (L1) 1 _ rfl; have u2 := (L1) 2 _ rfl; have u3 := (L1) 3 _ rfl; have u4 := (L1) 4 _ rfl; have u5 := (L1) 5 _ rfl; have u6 := (L1) 6 _ rfl; (try simp only [Nat.add_zero] at u0); (try simp only [Nat.zero_add] at u0 u1 u2 u3 u4 u5 u6)
    have v0 := (S1) 0 _ rfl; have v1 := (S1) 1 _ rfl; (try simp only [Nat.add_zero] at v0); (try simp only [Nat.zero_add] at v0 v1)
    have hz := L1.lt rfl
    have hzs := S1.lt rfl
    have LL := Lib.hid L1
    have G1 : Aside (Gr w w1) := (Gr.alloc (Gr.alloc (Gr.refl _) _) _).trans g1
    clear g1 L1 S1 C1
    go_wp2_with fail
    refine (C2'.out _ G1.out).mono ?_
    rintro e w2 ⟨vr, rfl, rr, g2⟩
    have G2 : Aside (Gr w w2) := G1.out.trans g2
    have LG : Aside (w2.cell? ⟨w.heap.size, 6, none⟩ = some (.int .i64 l.ag)) := held_keep g2 u6
    obtain ⟨A2, c2, rfl⟩ := rr.slice
    have RR : Hid (Rows 1 encI w2 (.slice A2 n c2) L) := by rw [HN.out] at rr; exact rr
    rw [HN.out]
    clear g2 u0 u1 u2 u3 u4 u5 u6 v0 v1 hz hzs rr LL
    go_wp2_with fail
    go_loopg [11, 12, 13, 28] n (fun gg s11 _ _ s28 wr => ∃ kk : Nat, kk ≤ n ∧ n - kk ≤ gg ∧ s28 = .int .i64 (kk : Int) ∧ Aside (Gr w2 wr) ∧ Aside (wr.ownsRow w2.heap.size 3 1 s11 (Lp.late l.ag L kk).length ((Lp.late l.ag L kk).map (Value.int .i64))))
    case atStart => exact ⟨0, Nat.zero_le _, by omega, rfl, Gr.refl _, World.ownsRow_nil _ _ _ _⟩
    case round =>
      obtain ⟨kk, hkk, hgg, rfl, GX, O⟩ := hrel
      have GO : Aside (Gr w wr) := G2.out.trans GX.out
      by_cases hlt : kk < n
      · have hltz : (kk : Int) < (n : Int) := by omega
        obtain ⟨x, hx⟩ : ∃ x, L[kk]? = some x := ⟨_, List.getElem?_eq_getElem (by rw [HN.out]; exact hlt)⟩
        rcases RR.out with ⟨h, _⟩ | ⟨b, off, ca, hb, hv, hc⟩
        · rw [h] at hx; simp at hx
        simp only [Value.slice.injEq] at hv
        obtain ⟨rfl, -, rfl⟩ := hv
        have ck := held_keep GX.out (hc kk x hx 0 _ rfl)
        rw [Nat.mul_one, Nat.add_zero] at ck
        have hbr := block_lt_of_cell ck
        have l6 : wr.cell? ⟨w.heap.size, 6, none⟩ = some (.int .i64 l.ag) := held_keep GX.out LG.out
        have hlr := block_lt_of_cell l6
        have LE := Lp.late_le l.ag L kk
        clear hc hb
        by_cases hq : l.ag < x
        · have LH := Lib.hid (Lp.late_hit hx hq)
          generalize Lp.late l.ag L kk = la at LE O LH
          clear hx
          go_wp2_with (at_builtin; refine wpList_append_own _ rfl _ _ 30 rfl w2.heap.size 3 i0 (.int .i64 0) 1 8 Try.underlying30 hi hz0 hz1 hz2 rfl (by decide) _ _ _ rfl (O.out.alloc _) ⟨wr.heap.size, 0, none⟩ 1 1 [.int .i64 (kk : Int)] rfl rfl ?qa1 ?qa2 ?qa3 ?qa4 ?qa5 ?_)
          try (case qa1 => intro j u hj; rw [Addr.add_lit, Nat.zero_add, World.cell?_alloc_new]; simpa using hj)
          case qa2 => simp [Value.oneCell']
          case qa3 => unfold maxLen; omega
          case qa4 => omega
          case qa5 => have := (GX.out).size; simp at this ⊢; omega
          intro v' w' hown' hgrow _
          have HO := Lib.hid hown'
          have GG1 : Aside (Gr w2 w') := ((GX.out).alloc _).append hgrow (fun k hk => (O.out.lt k hk).1)
          clear hown' hgrow
          go_wp2_with fail
          go_roundg (n - (kk + 1))
          case measure => omega
          case rel => exact ⟨kk + 1, by omega, by omega, by go_num, GG1.out, (show World.ownsRow _ _ _ _ _ _ _ by rw [LH.out, map_int_append, List.length_append]; exact HO.out)⟩
        · have LM := Lib.hid (Lp.late_miss hx hq)
          clear hx
          go_wp2_with fail
          go_roundg (n - (kk + 1))
          case measure => omega
          case rel => exact ⟨kk + 1, by omega, by omega, by go_num, (show Gr _ _ from GX.out), (show World.ownsRow _ _ _ _ _ _ _ by rw [LM.out]; exact O.out)⟩
      · have hltz : ¬ (kk : Int) < (n : Int) := by omega
        have hkn : kk = n := by omega
        subst hkn
        go_wp2_with fail
        go_ret2
        exact ⟨u11, ret_vi rfl rfl, by rw [R.out]; exact Rows.ints_of_owns O.out, GO.out⟩
  · have R : Hid (Lp.lateR l s ds t = []) := (show _ = _ from Lp.lateR_no (by simpa using hk))
    generalize Lp.chkA l s ds.length t = E at *
    go_enter Try.func25, Try.ntmps25
    go_wp2_with fail
    refine (C1 _).mono ?_
    rintro e w1 ⟨rfl, g1⟩
    have G1 : Aside (Gr w w1) := (Gr.alloc (Gr.alloc (Gr.refl _) _) _).trans g1
    clear g1 C1
    go_wp2_with fail
    go_ret2
    exact ⟨.slice none 0 0, rfl, by rw [R.out]; exact Rows.nil _ _, G1.out⟩

set_option maxHeartbeats 8000000 in
set_option maxRecDepth 100000 in
theorem rlate_any (l : Lo) (s : Sp) (v : Value) (ds : List Dv) (t : Int) (w : World) (h : Rows 3 encD w v ds) (hbig : ds.length ≤ 1048575) :
    Calls Try.prog 34 #[.agg #[.int .i64 l.id, .int .i64 l.se, .int .i64 l.co, .int .i64 l.ac, .int .i64 l.pe, .int .i64 l.ph, .int .i64 l.ag], .agg #[.int .i64 s.s, .int .i64 s.a], v, .int .i64 t] w (IePost (Lp.chkA l s ds.length t) (Lp.lateR l s ds t) w) := by
  obtain ⟨i0, hi, hz0, hz1, hz2⟩ := info_parts infoI
  have HD := Lib.hid h
  obtain ⟨A, c, rfl⟩ := h.slice
  have C1 := Lib.hid (fun (W : World) (g : Gr w W) => ragesE_any l s (.slice A ds.length c) ds t W (HD.out.gr g) hbig)
  clear h hbig
  rcases Lp.chkA_cases l s ds.length t with hk | hk
  · obtain ⟨hr, ⟨t0, t1⟩, hn⟩ := Lp.chkA_inv hk
    obtain ⟨n, hnt⟩ : ∃ N : Nat, t = (N : Int) := ⟨t.toNat, by omega⟩
    have AL : Lp.ageR l s ds t = Lp.ageL (Lp.fa l s) (Lp.fb l s) ds n := by subst hnt; exact if_pos hk
    have R : Hid (Lp.lateR l s ds t = Lp.late l.ag (Lp.ageL (Lp.fa l s) (Lp.fb l s) ds n) n) := (show _ = _ by unfold Lp.lateR; rw [AL, Lp.ageL_len])
    have HN : Hid ((Lp.ageL (Lp.fa l s) (Lp.fb l s) ds n).length = n) := (show _ = _ from Lp.ageL_len _ _ _ _)
    rw [AL] at C1
    generalize Lp.ageL (Lp.fa l s) (Lp.fb l s) ds n = L at C1 R HN
    rw [hk] at C1 ⊢
    have hn4 : n ≤ 4096 := by omega
    clear hk hr AL hnt
    go_enter Try.func34, Try.ntmps34
    go_wp2_with fail
    have LL := (boxed2 (enc := encL) (enc2 := encP) (x := l) (y := s) (Gr.refl ((w.alloc (Obj.cells (encL l).toArray 23)).alloc (Obj.cells (encP s).toArray 25)))).1
    have u6 := LL 6 _ rfl
    refine (C1.out _ (Gr.alloc (Gr.alloc (Gr.refl _) _) _)).mono ?_
    rintro e w2 ⟨vr, rfl, rr, g2⟩
    have G2 : Aside (Gr w w2) := (Gr.alloc (Gr.alloc (Gr.refl _) _) _).trans g2
    have LG : Aside (w2.cell? ⟨w.heap.size, 6, none⟩ = some (.int .i64 l.ag)) := held_keep g2 u6
    obtain ⟨A2, c2, rfl⟩ := rr.slice
    have RR : Hid (Rows 1 encI w2 (.slice A2 n c2) L) := by rw [HN.out] at rr; exact rr
    rw [HN.out]
    clear g2 u6 LL rr
    go_wp2_with fail
    go_loopg [12, 13] n (fun gg s12 s13 wr => ∃ kk : Nat, kk ≤ n ∧ n - kk ≤ gg ∧ s13 = .int .i64 (kk : Int) ∧ Aside (Gr w2 wr) ∧ Aside (wr.ownsRow w2.heap.size 3 1 s12 (Lp.late l.ag L kk).length ((Lp.late l.ag L kk).map (Value.int .i64))))
    case atStart => exact ⟨0, Nat.zero_le _, by omega, rfl, Gr.refl _, World.ownsRow_nil _ _ _ _⟩
    case round =>
      obtain ⟨kk, hkk, hgg, rfl, GX, O⟩ := hrel
      have GO : Aside (Gr w wr) := G2.out.trans GX.out
      by_cases hlt : kk < n
      · have hltz : (kk : Int) < (n : Int) := by omega
        obtain ⟨x, hx⟩ : ∃ x, L[kk]? = some x := ⟨_, List.getElem?_eq_getElem (by rw [HN.out]; exact hlt)⟩
        rcases RR.out with ⟨h, _⟩ | ⟨b, off, ca, hb, hv, hc⟩
        · rw [h] at hx; simp at hx
        simp only [Value.slice.injEq] at hv
        obtain ⟨rfl, -, rfl⟩ := hv
        have ck := held_keep GX.out (hc kk x hx 0 _ rfl)
        rw [Nat.mul_one, Nat.add_zero] at ck
        have hbr := block_lt_of_cell ck
        have l6 : wr.cell? ⟨w.heap.size, 6, none⟩ = some (.int .i64 l.ag) := held_keep GX.out LG.out
        have hlr := block_lt_of_cell l6
        have LE := Lp.late_le l.ag L kk
        clear hc hb
        by_cases hq : l.ag < x
        · have LH := Lib.hid (Lp.late_hit hx hq)
          generalize Lp.late l.ag L kk = la at LE O LH
          clear hx
          go_wp2_with fail
          go_quiet (fail)
          have GZ : Aside (Gr w2 (wr.drewN nq)) := GX.out.drewN _
          have OZ := Lib.hid (owns_gr O.out (Gr.drewN (Gr.refl wr) nq))
          generalize wr.drewN nq = wz at GZ OZ ⊢
          go_wp2_with (at_builtin; refine wpList_append_own _ rfl _ _ 30 rfl w2.heap.size 3 i0 (.int .i64 0) 1 8 Try.underlying30 hi hz0 hz1 hz2 rfl (by decide) _ _ _ rfl (OZ.out.alloc _) ⟨wz.heap.size, 0, none⟩ 1 1 [.int .i64 (kk : Int)] rfl rfl ?qa1 ?qa2 ?qa3 ?qa4 ?qa5 ?_)
          try (case qa1 => intro j u hj; rw [Addr.add_lit, Nat.zero_add, World.cell?_alloc_new]; simpa using hj)
          case qa2 => simp [Value.oneCell']
          case qa3 => unfold maxLen; omega
          case qa4 => omega
          case qa5 => have := (GZ.out).size; simp at this ⊢; omega
          intro v' w' hown' hgrow _
          have HO := Lib.hid hown'
          have GG1 : Aside (Gr w2 w') := ((GZ.out).alloc _).append hgrow (fun k hk => (O.out.lt k hk).1)
          clear hown' hgrow
          go_wp2_with fail
          go_roundg (n - (kk + 1))
          case measure => omega
          case rel => exact ⟨kk + 1, by omega, by omega, by go_num, GG1.out, (show World.ownsRow _ _ _ _ _ _ _ by rw [LH.out, map_int_append, List.length_append]; exact HO.out)⟩
        · have LM := Lib.hid (Lp.late_miss hx hq)
          clear hx
          go_wp2_with fail
          go_quiet (fail)
          have GZ : Aside (Gr w2 (wr.drewN nq)) := GX.out.drewN _
          have OZ := Lib.hid (owns_gr O.out (Gr.drewN (Gr.refl wr) nq))
          generalize wr.drewN nq = wz at GZ OZ ⊢
          go_wp2_with fail
          go_roundg (n - (kk + 1))
          case measure => omega
          case rel => exact ⟨kk + 1, by omega, by omega, by go_num, (show Gr _ _ from GZ.out), (show World.ownsRow _ _ _ _ _ _ _ by rw [LM.out]; exact OZ.out)⟩
      · have hltz : ¬ (kk : Int) < (n : Int) := by omega
        have hkn : kk = n := by omega
        subst hkn
        go_wp2_with fail
        go_ret2
        exact ⟨u12, ret_vi rfl rfl, by rw [R.out]; exact Rows.ints_of_owns O.out, GO.out⟩
  · have R : Hid (Lp.lateR l s ds t = []) := (show _ = _ from Lp.lateR_no (by simpa using hk))
    generalize Lp.ageR l s ds t = L at C1
    generalize Lp.chkA l s ds.length t = E at *
    go_enter Try.func34, Try.ntmps34
    go_wp2_with fail
    refine (C1.out _ (Gr.alloc (Gr.alloc (Gr.refl _) _) _)).mono ?_
    rintro e w2 ⟨vr, rfl, rr, g2⟩
    have G2 : Aside (Gr w w2) := (Gr.alloc (Gr.alloc (Gr.refl _) _) _).trans g2
    clear g2 rr
    go_wp2_with fail
    go_ret2
    exact ⟨.slice none 0 0, rfl, by rw [R.out]; exact Rows.nil _ _, G2.out⟩
end Go.Proofs.Ytckkjiaoaeaaoaa
