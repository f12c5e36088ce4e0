/- The contracts of allocate's Pass and of the reference's Same. -/
import Derived.Test.YtkhanjhjcfhhiaaAlcAwake
import Derived.Test.YtkhanjhjcfhhiaaAlcLst
import Derived.Test.YtkhanjhjcfhhiaaIndexU
import Derived.Test.YtkhanjhjcfhhiaaCloneU
import Derived.Test.YtkhanjhjcfhhiaaPut
import Derived.ChangeAlike
import Derived.RegionTactic
import Derived.BigRegion
namespace Go.Proofs.Ytkhanjhjcfhhiaa
open Go.RowKit Go.Sort
set_option linter.unusedVariables false

/-- usages and an error come back -/
def UsPost (E : Int) (L : List Us) (w : World) (e : Ending) (w' : World) : Prop := ∃ v, e = .returned (.tuple #[v, .int .i64 E]) ∧ Rows 9 encU w' v L ∧ Gr w w'

set_option maxHeartbeats 400000 in
theorem pass1_any (x : Us) (s : Int) (A : Nat) (w : World) (cA : w.cell? ⟨A, 0, none⟩ = some (.int .i64 s)) :
    Calls Try.prog 44 #[.agg #[.int .i64 x.c.s, .int .i64 x.c.o, .int .i64 x.c.k, .bool x.c.b, .int .i64 x.c.p, .int .i64 x.c.f, .int .i64 x.pa, .int .i64 x.us, .int .i64 x.wo], .pointer (some ⟨A, 0, none⟩)] w fun e w' => e = .returned (.bool (Al.atSlot s x)) ∧ Gr w w' := by
  have hA := block_lt_of_cell cA
  go_enter Try.func44, Try.ntmps44
  go_wp2_with fail
  go_ret
  exact ⟨rfl, by repeat (first | (with_reducible exact Gr.refl _) | (with_reducible assumption) | (with_reducible refine Gr.alloc ?_ _) | (with_reducible refine Gr.drewN ?_ _) | (with_reducible refine Gr.drew ?_) | (with_reducible refine Gr.grown ?_ _ _) | (with_reducible refine Gr.regrown ?_ _ _) | (with_reducible refine Gr.setCell ?_ (by first | omega | (simp; omega) | simp) _) | (with_reducible refine Gr.trans ?_ (by with_reducible assumption)))⟩

theorem pas_cases (l : List Us) (s : Int) : (l.any (Al.atSlot s) = false ∧ ixL (Al.atSlot s) l = -1) ∨ (∃ (k : Nat) (x : Us), l[k]? = some x ∧ x.c.s = s ∧ l.any (Al.atSlot s) = true ∧ ixL (Al.atSlot s) l = k) := by
  cases ha : l.any (Al.atSlot s) with
  | false => exact .inl ⟨rfl, by unfold ixL; rw [ha]; rfl⟩
  | true =>
    have hl : l.findIdx (Al.atSlot s) < l.length := List.findIdx_lt_length_of_exists (List.any_eq_true.1 ha)
    refine .inr ⟨l.findIdx (Al.atSlot s), l[l.findIdx (Al.atSlot s)], List.getElem?_eq_getElem hl, ?_, rfl, by unfold ixL; rw [ha]; rfl⟩
    have := List.findIdx_getElem (w := hl)
    unfold Al.atSlot at this ⊢
    simpa using this

set_option maxHeartbeats 4000000 in
set_option maxRecDepth 100000 in
theorem pass_any (v : Value) (l : List Us) (s : Int) (u wk : Bool) (w : World) (h : Rows 9 encU w v l) (hbig : (l.length : Int) ≤ 4611686018427387904) :
    Calls Try.prog 28 #[v, .int .i64 s, .bool u, .bool wk] w (UsPost (Al.pasE l s u wk) (Al.pasL l s u wk) w) := by
  have C1 := fun W g => check_any v l W (h.gr (w := W) g) hbig
  have C2 := fun W g cb => indexU_any 44 #[.pointer (some ⟨w.heap.size, 0, none⟩)] (Al.atSlot s) v l W (h.gr (w := W) g) hbig (enters_of Try.func44 (by kernel_rfl) rfl) (fun W2 i x g2 hi => pass1_any x s w.heap.size W2 (held_keep g2 cb))
  have HR := Lib.hid h
  obtain ⟨A, c, rfl⟩ := h.slice
  clear h
  rcases Al.chk_cases l with hc | hc
  · rw [hc] at C1
    have C1' := Lib.hid C1
    rcases pas_cases l s with ⟨ha, hix⟩ | ⟨k, x, hx, hs, ha, hix⟩
    · have R := Lib.hid (Al.pas_not (u := u) (w := wk) hc ha)
      rw [hix] at C2
      have C2' := Lib.hid C2
      clear hc ha hix C1 C2
      go_enter Try.func28, Try.ntmps28
      go_wp2_with fail
      have K0 : Aside ((w.alloc (Obj.cells #[.int .i64 s] 3)).cell? ⟨w.heap.size, 0, none⟩ = some (.int .i64 s)) := by show _ = _; go_simp
      refine (C1'.out _ (Gr.alloc (Gr.refl _) _)).mono ?_
      rintro e w1 ⟨rfl, g1⟩
      have G1 : Aside (Gr w w1) := (Gr.alloc (Gr.refl _) _).trans g1
      have K1 : Aside (w1.cell? ⟨w.heap.size, 0, none⟩ = some (.int .i64 s)) := held_keep g1 K0.out
      clear g1 K0
      go_wp2_with fail
      refine (C2'.out _ G1.out K1.out).mono ?_
      rintro e w2 ⟨rfl, g2⟩
      have G2 : Aside (Gr w w2) := G1.out.trans g2
      clear g2 K1
      go_wp2_with fail
      go_ret2
      exact ⟨.slice none 0 0, ret_vi rfl R.out.1.symm, by rw [R.out.2]; exact Rows.nil _ _, G2.out⟩
    · rw [hix] at C2
      have C2' := Lib.hid C2
      have hk : k < l.length := (List.getElem?_eq_some_iff.1 hx).1
      have HL := Lib.hid (Al.chk_inv hc).1
      have i1 : decide ((k : Int) < 0) = false := bf (by omega)
      have i2 : (k : Int) < (l.length : Int) := by omega
      by_cases hst : (wk && !u) = true
      · have R := Lib.hid (Al.pas_state hc ha hst)
        simp only [Bool.and_eq_true, Bool.not_eq_true'] at hst
        obtain ⟨rfl, rfl⟩ := hst
        clear hc ha hix C1 C2 hx hs
        go_enter Try.func28, Try.ntmps28
        go_wp2_with fail
        have K0 : Aside ((w.alloc (Obj.cells #[.int .i64 s] 3)).cell? ⟨w.heap.size, 0, none⟩ = some (.int .i64 s)) := by show _ = _; go_simp
        refine (C1'.out _ (Gr.alloc (Gr.refl _) _)).mono ?_
        rintro e w1 ⟨rfl, g1⟩
        have G1 : Aside (Gr w w1) := (Gr.alloc (Gr.refl _) _).trans g1
        have K1 : Aside (w1.cell? ⟨w.heap.size, 0, none⟩ = some (.int .i64 s)) := held_keep g1 K0.out
        clear g1 K0
        go_wp2_with fail
        refine (C2'.out _ G1.out K1.out).mono ?_
        rintro e w2 ⟨rfl, g2⟩
        have G2 : Aside (Gr w w2) := G1.out.trans g2
        clear g2 K1
        go_wp2_with fail
        go_ret2
        exact ⟨.slice none 0 0, ret_vi rfl R.out.1.symm, by rw [R.out.2]; exact Rows.nil _ _, G2.out⟩
      · have hst' : (wk && !u) = false := by simpa using hst
        have R := Lib.hid (Al.pas_ok hc hx hs hst')
        have nm := Al.chk_num hc hx
        have C3 := fun W g => cloneCloneU_any (.slice A l.length c) l W (HR.out.gr (w := W) g) (by have := HL.out; omega)
        have C3' := Lib.hid C3
        have HX := Lib.hid hx
        have HK := Lib.hid hk
        obtain ⟨cc, pa, us, wo⟩ := x
        unfold Al.okN at nm
        dsimp only at nm hs
        obtain ⟨-, -, ⟨n1, n2⟩, ⟨n3, n4⟩, ⟨n5, n6⟩⟩ := nm
        have n4' : us ≤ 64 := by omega
        have n6' : wo ≤ 64 := by omega
        have HN0 : Aside (l.length ≠ 0) := by show _ ≠ _; omega
        clear hc ha hix C1 C2 hx hs C3 n4 n6 hst
        by_cases h64 : pa = 64
        · subst h64
          cases u <;> cases wk
          · clear hst'
            have BU : Hid (Al.bump ⟨cc, 64, us, wo⟩ false false = ⟨cc, 33, us / 2, wo / 2⟩) := (show _ = _ by unfold Al.bump; simp)
            have R' : Hid (Al.pasE l s false false = 0 ∧ Al.pasL l s false false = l.set k ⟨cc, 33, us / 2, wo / 2⟩) := (show _ ∧ _ from ⟨R.out.1, by rw [R.out.2, BU.out]⟩)
            clear R BU
            go_enter Try.func28, Try.ntmps28
            go_wp2_with fail
            have K0 : Aside ((w.alloc (Obj.cells #[.int .i64 s] 3)).cell? ⟨w.heap.size, 0, none⟩ = some (.int .i64 s)) := by show _ = _; go_simp
            refine (C1'.out _ (Gr.alloc (Gr.refl _) _)).mono ?_
            rintro e w1 ⟨rfl, g1⟩
            have G1 : Aside (Gr w w1) := (Gr.alloc (Gr.refl _) _).trans g1
            have K1 : Aside (w1.cell? ⟨w.heap.size, 0, none⟩ = some (.int .i64 s)) := held_keep g1 K0.out
            clear g1 K0
            go_wp2_with fail
            refine (C2'.out _ G1.out K1.out).mono ?_
            rintro e w2 ⟨rfl, g2⟩
            have G2 : Aside (Gr w w2) := G1.out.trans g2
            clear g2 K1
            go_wp2_with fail
            refine (C3'.out _ G2.out).mono ?_
            rintro e w3 ⟨vo, rfl, O, g3⟩
            have G3 : Aside (Gr w w3) := G2.out.trans g3
            have O3 := Lib.hid O
            have hgw0 := G2.out.size
            clear g3 O
            rcases O3.out.2 with ⟨_, hz⟩ | ⟨g, cap, cur, rfl, hgb, _⟩
            · exact absurd hz HN0.out
            have hgw : w.heap.size ≤ g := Nat.le_trans hgw0 hgb
            clear hgb hgw0
            have u6 := owns_cell encU_len O3.out HX.out (j := 6) rfl
            have u7 := owns_cell encU_len O3.out HX.out (j := 7) rfl
            have u8 := owns_cell encU_len O3.out HX.out (j := 8) rfl
            have fz := fun j => O3.out.frozenAt j
            dsimp only at u6 u7 u8
            go_wp2_with fail
            have P0 := owns_set0 O3.out HX.out
            have P1 := owns_put2 encU_len P0 HK.out 6 (.int .i64 (32)) ⟨cc, 32, us, wo⟩ (by decide) rfl
            have P2 := owns_put2 encU_len P1 HK.out 7 (.int .i64 (us / 2)) ⟨cc, 32, us / 2, wo⟩ (by decide) rfl
            have P3 := owns_put2 encU_len P2 HK.out 8 (.int .i64 (wo / 2)) ⟨cc, 32, us / 2, wo / 2⟩ (by decide) rfl
            have O4 := Lib.hid (owns_gr P3 (Gr.drew (Gr.refl _)))
            have G4 : Aside (Gr w (((w3.setCell ⟨g, k * 9 + 6, none⟩ (.int .i64 32)).setCell ⟨g, k * 9 + 7, none⟩ (.int .i64 (us / 2))).setCell ⟨g, k * 9 + 8, none⟩ (.int .i64 (wo / 2))).drew) := by refine Gr.drew ?_; (repeat (first | (with_reducible exact (G3).out) | (with_reducible refine Gr.alloc ?_ _) | ((with_reducible refine Gr.setCell ?_ ?_ _); rotate_left; exact hgw)))
            clear P0 P1 P2 P3
            go_region
            generalize (((w3.setCell ⟨g, k * 9 + 6, none⟩ (.int .i64 32)).setCell ⟨g, k * 9 + 7, none⟩ (.int .i64 (us / 2))).setCell ⟨g, k * 9 + 8, none⟩ (.int .i64 (wo / 2))).drew = w4 at O4 G4 ⊢
            clear u6 u7 u8 fz O3
            have HX4 : Hid ((l.set k ⟨cc, 32, us / 2, wo / 2⟩)[k]? = some ⟨cc, 32, us / 2, wo / 2⟩) := (show _ = _ by rw [List.getElem?_set, if_pos rfl, if_pos HK.out])
            have u6 := owns_cell encU_len O4.out HX4.out (j := 6) rfl
            have u7 := owns_cell encU_len O4.out HX4.out (j := 7) rfl
            have u8 := owns_cell encU_len O4.out HX4.out (j := 8) rfl
            have fz := fun j => O4.out.frozenAt j
            dsimp only at u6 u7 u8
            go_wp2_with fail
            go_ret2
            have P3 := O4.out
            have P4 := owns_put2 encU_len P3 HK.out 6 (.int .i64 (33)) ⟨cc, 33, us / 2, wo / 2⟩ (by decide) rfl
            refine ⟨.slice (some ⟨g, 0, none⟩) l.length cap, ret_vi rfl R'.out.1.symm, ?_, ?_⟩
            · rw [R'.out.2]; exact (owns_rows encU_len P4 (by simp))
            · (repeat (first | (with_reducible exact (G4).out) | (with_reducible refine Gr.alloc ?_ _) | ((with_reducible refine Gr.setCell ?_ ?_ _); rotate_left; exact hgw)))
          · exact absurd hst' (by decide)
          · clear hst'
            have BU : Hid (Al.bump ⟨cc, 64, us, wo⟩ true false = ⟨cc, 33, us / 2 + 1, wo / 2⟩) := (show _ = _ by unfold Al.bump; simp)
            have R' : Hid (Al.pasE l s true false = 0 ∧ Al.pasL l s true false = l.set k ⟨cc, 33, us / 2 + 1, wo / 2⟩) := (show _ ∧ _ from ⟨R.out.1, by rw [R.out.2, BU.out]⟩)
            clear R BU
            go_enter Try.func28, Try.ntmps28
            go_wp2_with fail
            have K0 : Aside ((w.alloc (Obj.cells #[.int .i64 s] 3)).cell? ⟨w.heap.size, 0, none⟩ = some (.int .i64 s)) := by show _ = _; go_simp
            refine (C1'.out _ (Gr.alloc (Gr.refl _) _)).mono ?_
            rintro e w1 ⟨rfl, g1⟩
            have G1 : Aside (Gr w w1) := (Gr.alloc (Gr.refl _) _).trans g1
            have K1 : Aside (w1.cell? ⟨w.heap.size, 0, none⟩ = some (.int .i64 s)) := held_keep g1 K0.out
            clear g1 K0
            go_wp2_with fail
            refine (C2'.out _ G1.out K1.out).mono ?_
            rintro e w2 ⟨rfl, g2⟩
            have G2 : Aside (Gr w w2) := G1.out.trans g2
            clear g2 K1
            go_wp2_with fail
            refine (C3'.out _ G2.out).mono ?_
            rintro e w3 ⟨vo, rfl, O, g3⟩
            have G3 : Aside (Gr w w3) := G2.out.trans g3
            have O3 := Lib.hid O
            have hgw0 := G2.out.size
            clear g3 O
            rcases O3.out.2 with ⟨_, hz⟩ | ⟨g, cap, cur, rfl, hgb, _⟩
            · exact absurd hz HN0.out
            have hgw : w.heap.size ≤ g := Nat.le_trans hgw0 hgb
            clear hgb hgw0
            have u6 := owns_cell encU_len O3.out HX.out (j := 6) rfl
            have u7 := owns_cell encU_len O3.out HX.out (j := 7) rfl
            have u8 := owns_cell encU_len O3.out HX.out (j := 8) rfl
            have fz := fun j => O3.out.frozenAt j
            dsimp only at u6 u7 u8
            go_wp2_with fail
            have P0 := owns_set0 O3.out HX.out
            have P1 := owns_put2 encU_len P0 HK.out 6 (.int .i64 (32)) ⟨cc, 32, us, wo⟩ (by decide) rfl
            have P2 := owns_put2 encU_len P1 HK.out 7 (.int .i64 (us / 2)) ⟨cc, 32, us / 2, wo⟩ (by decide) rfl
            have P3 := owns_put2 encU_len P2 HK.out 8 (.int .i64 (wo / 2)) ⟨cc, 32, us / 2, wo / 2⟩ (by decide) rfl
            have O4 := Lib.hid (owns_gr P3 (Gr.drew (Gr.refl _)))
            have G4 : Aside (Gr w (((w3.setCell ⟨g, k * 9 + 6, none⟩ (.int .i64 32)).setCell ⟨g, k * 9 + 7, none⟩ (.int .i64 (us / 2))).setCell ⟨g, k * 9 + 8, none⟩ (.int .i64 (wo / 2))).drew) := by refine Gr.drew ?_; (repeat (first | (with_reducible exact (G3).out) | (with_reducible refine Gr.alloc ?_ _) | ((with_reducible refine Gr.setCell ?_ ?_ _); rotate_left; exact hgw)))
            clear P0 P1 P2 P3
            go_region
            generalize (((w3.setCell ⟨g, k * 9 + 6, none⟩ (.int .i64 32)).setCell ⟨g, k * 9 + 7, none⟩ (.int .i64 (us / 2))).setCell ⟨g, k * 9 + 8, none⟩ (.int .i64 (wo / 2))).drew = w4 at O4 G4 ⊢
            clear u6 u7 u8 fz O3
            have HX4 : Hid ((l.set k ⟨cc, 32, us / 2, wo / 2⟩)[k]? = some ⟨cc, 32, us / 2, wo / 2⟩) := (show _ = _ by rw [List.getElem?_set, if_pos rfl, if_pos HK.out])
            have u6 := owns_cell encU_len O4.out HX4.out (j := 6) rfl
            have u7 := owns_cell encU_len O4.out HX4.out (j := 7) rfl
            have u8 := owns_cell encU_len O4.out HX4.out (j := 8) rfl
            have fz := fun j => O4.out.frozenAt j
            dsimp only at u6 u7 u8
            go_wp2_with fail
            go_ret2
            have P3 := O4.out
            have P4 := owns_put2 encU_len P3 HK.out 6 (.int .i64 (33)) ⟨cc, 33, us / 2, wo / 2⟩ (by decide) rfl
            have P5 := owns_put2 encU_len P4 HK.out 7 (.int .i64 (us / 2 + 1)) ⟨cc, 33, us / 2 + 1, wo / 2⟩ (by decide) rfl
            refine ⟨.slice (some ⟨g, 0, none⟩) l.length cap, ret_vi rfl R'.out.1.symm, ?_, ?_⟩
            · rw [R'.out.2]; exact (owns_rows encU_len P5 (by simp))
            · (repeat (first | (with_reducible exact (G4).out) | (with_reducible refine Gr.alloc ?_ _) | ((with_reducible refine Gr.setCell ?_ ?_ _); rotate_left; exact hgw)))
          · clear hst'
            have BU : Hid (Al.bump ⟨cc, 64, us, wo⟩ true true = ⟨cc, 33, us / 2 + 1, wo / 2 + 1⟩) := (show _ = _ by unfold Al.bump; simp)
            have R' : Hid (Al.pasE l s true true = 0 ∧ Al.pasL l s true true = l.set k ⟨cc, 33, us / 2 + 1, wo / 2 + 1⟩) := (show _ ∧ _ from ⟨R.out.1, by rw [R.out.2, BU.out]⟩)
            clear R BU
            go_enter Try.func28, Try.ntmps28
            go_wp2_with fail
            have K0 : Aside ((w.alloc (Obj.cells #[.int .i64 s] 3)).cell? ⟨w.heap.size, 0, none⟩ = some (.int .i64 s)) := by show _ = _; go_simp
            refine (C1'.out _ (Gr.alloc (Gr.refl _) _)).mono ?_
            rintro e w1 ⟨rfl, g1⟩
            have G1 : Aside (Gr w w1) := (Gr.alloc (Gr.refl _) _).trans g1
            have K1 : Aside (w1.cell? ⟨w.heap.size, 0, none⟩ = some (.int .i64 s)) := held_keep g1 K0.out
            clear g1 K0
            go_wp2_with fail
            refine (C2'.out _ G1.out K1.out).mono ?_
            rintro e w2 ⟨rfl, g2⟩
            have G2 : Aside (Gr w w2) := G1.out.trans g2
            clear g2 K1
            go_wp2_with fail
            refine (C3'.out _ G2.out).mono ?_
            rintro e w3 ⟨vo, rfl, O, g3⟩
            have G3 : Aside (Gr w w3) := G2.out.trans g3
            have O3 := Lib.hid O
            have hgw0 := G2.out.size
            clear g3 O
            rcases O3.out.2 with ⟨_, hz⟩ | ⟨g, cap, cur, rfl, hgb, _⟩
            · exact absurd hz HN0.out
            have hgw : w.heap.size ≤ g := Nat.le_trans hgw0 hgb
            clear hgb hgw0
            have u6 := owns_cell encU_len O3.out HX.out (j := 6) rfl
            have u7 := owns_cell encU_len O3.out HX.out (j := 7) rfl
            have u8 := owns_cell encU_len O3.out HX.out (j := 8) rfl
            have fz := fun j => O3.out.frozenAt j
            dsimp only at u6 u7 u8
            go_wp2_with fail
            have P0 := owns_set0 O3.out HX.out
            have P1 := owns_put2 encU_len P0 HK.out 6 (.int .i64 (32)) ⟨cc, 32, us, wo⟩ (by decide) rfl
            have P2 := owns_put2 encU_len P1 HK.out 7 (.int .i64 (us / 2)) ⟨cc, 32, us / 2, wo⟩ (by decide) rfl
            have P3 := owns_put2 encU_len P2 HK.out 8 (.int .i64 (wo / 2)) ⟨cc, 32, us / 2, wo / 2⟩ (by decide) rfl
            have O4 := Lib.hid (owns_gr P3 (Gr.drew (Gr.refl _)))
            have G4 : Aside (Gr w (((w3.setCell ⟨g, k * 9 + 6, none⟩ (.int .i64 32)).setCell ⟨g, k * 9 + 7, none⟩ (.int .i64 (us / 2))).setCell ⟨g, k * 9 + 8, none⟩ (.int .i64 (wo / 2))).drew) := by refine Gr.drew ?_; (repeat (first | (with_reducible exact (G3).out) | (with_reducible refine Gr.alloc ?_ _) | ((with_reducible refine Gr.setCell ?_ ?_ _); rotate_left; exact hgw)))
            clear P0 P1 P2 P3
            go_region
            generalize (((w3.setCell ⟨g, k * 9 + 6, none⟩ (.int .i64 32)).setCell ⟨g, k * 9 + 7, none⟩ (.int .i64 (us / 2))).setCell ⟨g, k * 9 + 8, none⟩ (.int .i64 (wo / 2))).drew = w4 at O4 G4 ⊢
            clear u6 u7 u8 fz O3
            have HX4 : Hid ((l.set k ⟨cc, 32, us / 2, wo / 2⟩)[k]? = some ⟨cc, 32, us / 2, wo / 2⟩) := (show _ = _ by rw [List.getElem?_set, if_pos rfl, if_pos HK.out])
            have u6 := owns_cell encU_len O4.out HX4.out (j := 6) rfl
            have u7 := owns_cell encU_len O4.out HX4.out (j := 7) rfl
            have u8 := owns_cell encU_len O4.out HX4.out (j := 8) rfl
            have fz := fun j => O4.out.frozenAt j
            dsimp only at u6 u7 u8
            go_wp2_with fail
            go_ret2
            have P3 := O4.out
            have P4 := owns_put2 encU_len P3 HK.out 6 (.int .i64 (33)) ⟨cc, 33, us / 2, wo / 2⟩ (by decide) rfl
            have P5 := owns_put2 encU_len P4 HK.out 7 (.int .i64 (us / 2 + 1)) ⟨cc, 33, us / 2 + 1, wo / 2⟩ (by decide) rfl
            have P6 := owns_put2 encU_len P5 HK.out 8 (.int .i64 (wo / 2 + 1)) ⟨cc, 33, us / 2 + 1, wo / 2 + 1⟩ (by decide) rfl
            refine ⟨.slice (some ⟨g, 0, none⟩) l.length cap, ret_vi rfl R'.out.1.symm, ?_, ?_⟩
            · rw [R'.out.2]; exact (owns_rows encU_len P6 (by simp))
            · (repeat (first | (with_reducible exact (G4).out) | (with_reducible refine Gr.alloc ?_ _) | ((with_reducible refine Gr.setCell ?_ ?_ _); rotate_left; exact hgw)))
        · have q64 : (pa == 64) = false := by simpa using h64
          cases u <;> cases wk
          · clear hst'
            have BU : Hid (Al.bump ⟨cc, pa, us, wo⟩ false false = ⟨cc, pa + 1, us, wo⟩) := (show _ = _ by unfold Al.bump; simp [h64])
            have R' : Hid (Al.pasE l s false false = 0 ∧ Al.pasL l s false false = l.set k ⟨cc, pa + 1, us, wo⟩) := (show _ ∧ _ from ⟨R.out.1, by rw [R.out.2, BU.out]⟩)
            clear R BU h64
            go_enter Try.func28, Try.ntmps28
            go_wp2_with fail
            have K0 : Aside ((w.alloc (Obj.cells #[.int .i64 s] 3)).cell? ⟨w.heap.size, 0, none⟩ = some (.int .i64 s)) := by show _ = _; go_simp
            refine (C1'.out _ (Gr.alloc (Gr.refl _) _)).mono ?_
            rintro e w1 ⟨rfl, g1⟩
            have G1 : Aside (Gr w w1) := (Gr.alloc (Gr.refl _) _).trans g1
            have K1 : Aside (w1.cell? ⟨w.heap.size, 0, none⟩ = some (.int .i64 s)) := held_keep g1 K0.out
            clear g1 K0
            go_wp2_with fail
            refine (C2'.out _ G1.out K1.out).mono ?_
            rintro e w2 ⟨rfl, g2⟩
            have G2 : Aside (Gr w w2) := G1.out.trans g2
            clear g2 K1
            go_wp2_with fail
            refine (C3'.out _ G2.out).mono ?_
            rintro e w3 ⟨vo, rfl, O, g3⟩
            have G3 : Aside (Gr w w3) := G2.out.trans g3
            have O3 := Lib.hid O
            have hgw0 := G2.out.size
            clear g3 O
            rcases O3.out.2 with ⟨_, hz⟩ | ⟨g, cap, cur, rfl, hgb, _⟩
            · exact absurd hz HN0.out
            have hgw : w.heap.size ≤ g := Nat.le_trans hgw0 hgb
            clear hgb hgw0
            have u6 := owns_cell encU_len O3.out HX.out (j := 6) rfl
            have u7 := owns_cell encU_len O3.out HX.out (j := 7) rfl
            have u8 := owns_cell encU_len O3.out HX.out (j := 8) rfl
            have fz := fun j => O3.out.frozenAt j
            dsimp only at u6 u7 u8
            go_wp2_with fail
            have P0 := owns_set0 O3.out HX.out
            clear P0
            go_ret2
            have P0 := owns_set0 O3.out HX.out
            have P1 := owns_put2 encU_len P0 HK.out 6 (.int .i64 (pa + 1)) ⟨cc, pa + 1, us, wo⟩ (by decide) rfl
            refine ⟨.slice (some ⟨g, 0, none⟩) l.length cap, ret_vi rfl R'.out.1.symm, ?_, ?_⟩
            · rw [R'.out.2]; exact (owns_rows encU_len P1 (by simp))
            · (repeat (first | (with_reducible exact (G3).out) | (with_reducible refine Gr.alloc ?_ _) | ((with_reducible refine Gr.setCell ?_ ?_ _); rotate_left; exact hgw)))
          · exact absurd hst' (by decide)
          · clear hst'
            have BU : Hid (Al.bump ⟨cc, pa, us, wo⟩ true false = ⟨cc, pa + 1, us + 1, wo⟩) := (show _ = _ by unfold Al.bump; simp [h64])
            have R' : Hid (Al.pasE l s true false = 0 ∧ Al.pasL l s true false = l.set k ⟨cc, pa + 1, us + 1, wo⟩) := (show _ ∧ _ from ⟨R.out.1, by rw [R.out.2, BU.out]⟩)
            clear R BU h64
            go_enter Try.func28, Try.ntmps28
            go_wp2_with fail
            have K0 : Aside ((w.alloc (Obj.cells #[.int .i64 s] 3)).cell? ⟨w.heap.size, 0, none⟩ = some (.int .i64 s)) := by show _ = _; go_simp
            refine (C1'.out _ (Gr.alloc (Gr.refl _) _)).mono ?_
            rintro e w1 ⟨rfl, g1⟩
            have G1 : Aside (Gr w w1) := (Gr.alloc (Gr.refl _) _).trans g1
            have K1 : Aside (w1.cell? ⟨w.heap.size, 0, none⟩ = some (.int .i64 s)) := held_keep g1 K0.out
            clear g1 K0
            go_wp2_with fail
            refine (C2'.out _ G1.out K1.out).mono ?_
            rintro e w2 ⟨rfl, g2⟩
            have G2 : Aside (Gr w w2) := G1.out.trans g2
            clear g2 K1
            go_wp2_with fail
            refine (C3'.out _ G2.out).mono ?_
            rintro e w3 ⟨vo, rfl, O, g3⟩
            have G3 : Aside (Gr w w3) := G2.out.trans g3
            have O3 := Lib.hid O
            have hgw0 := G2.out.size
            clear g3 O
            rcases O3.out.2 with ⟨_, hz⟩ | ⟨g, cap, cur, rfl, hgb, _⟩
            · exact absurd hz HN0.out
            have hgw : w.heap.size ≤ g := Nat.le_trans hgw0 hgb
            clear hgb hgw0
            have u6 := owns_cell encU_len O3.out HX.out (j := 6) rfl
            have u7 := owns_cell encU_len O3.out HX.out (j := 7) rfl
            have u8 := owns_cell encU_len O3.out HX.out (j := 8) rfl
            have fz := fun j => O3.out.frozenAt j
            dsimp only at u6 u7 u8
            go_wp2_with fail
            have P0 := owns_set0 O3.out HX.out
            clear P0
            go_ret2
            have P0 := owns_set0 O3.out HX.out
            have P1 := owns_put2 encU_len P0 HK.out 6 (.int .i64 (pa + 1)) ⟨cc, pa + 1, us, wo⟩ (by decide) rfl
            have P2 := owns_put2 encU_len P1 HK.out 7 (.int .i64 (us + 1)) ⟨cc, pa + 1, us + 1, wo⟩ (by decide) rfl
            refine ⟨.slice (some ⟨g, 0, none⟩) l.length cap, ret_vi rfl R'.out.1.symm, ?_, ?_⟩
            · rw [R'.out.2]; exact (owns_rows encU_len P2 (by simp))
            · (repeat (first | (with_reducible exact (G3).out) | (with_reducible refine Gr.alloc ?_ _) | ((with_reducible refine Gr.setCell ?_ ?_ _); rotate_left; exact hgw)))
          · clear hst'
            have BU : Hid (Al.bump ⟨cc, pa, us, wo⟩ true true = ⟨cc, pa + 1, us + 1, wo + 1⟩) := (show _ = _ by unfold Al.bump; simp [h64])
            have R' : Hid (Al.pasE l s true true = 0 ∧ Al.pasL l s true true = l.set k ⟨cc, pa + 1, us + 1, wo + 1⟩) := (show _ ∧ _ from ⟨R.out.1, by rw [R.out.2, BU.out]⟩)
            clear R BU h64
            go_enter Try.func28, Try.ntmps28
            go_wp2_with fail
            have K0 : Aside ((w.alloc (Obj.cells #[.int .i64 s] 3)).cell? ⟨w.heap.size, 0, none⟩ = some (.int .i64 s)) := by show _ = _; go_simp
            refine (C1'.out _ (Gr.alloc (Gr.refl _) _)).mono ?_
            rintro e w1 ⟨rfl, g1⟩
            have G1 : Aside (Gr w w1) := (Gr.alloc (Gr.refl _) _).trans g1
            have K1 : Aside (w1.cell? ⟨w.heap.size, 0, none⟩ = some (.int .i64 s)) := held_keep g1 K0.out
            clear g1 K0
            go_wp2_with fail
            refine (C2'.out _ G1.out K1.out).mono ?_
            rintro e w2 ⟨rfl, g2⟩
            have G2 : Aside (Gr w w2) := G1.out.trans g2
            clear g2 K1
            go_wp2_with fail
            refine (C3'.out _ G2.out).mono ?_
            rintro e w3 ⟨vo, rfl, O, g3⟩
            have G3 : Aside (Gr w w3) := G2.out.trans g3
            have O3 := Lib.hid O
            have hgw0 := G2.out.size
            clear g3 O
            rcases O3.out.2 with ⟨_, hz⟩ | ⟨g, cap, cur, rfl, hgb, _⟩
            · exact absurd hz HN0.out
            have hgw : w.heap.size ≤ g := Nat.le_trans hgw0 hgb
            clear hgb hgw0
            have u6 := owns_cell encU_len O3.out HX.out (j := 6) rfl
            have u7 := owns_cell encU_len O3.out HX.out (j := 7) rfl
            have u8 := owns_cell encU_len O3.out HX.out (j := 8) rfl
            have fz := fun j => O3.out.frozenAt j
            dsimp only at u6 u7 u8
            go_wp2_with fail
            have P0 := owns_set0 O3.out HX.out
            clear P0
            go_ret2
            have P0 := owns_set0 O3.out HX.out
            have P1 := owns_put2 encU_len P0 HK.out 6 (.int .i64 (pa + 1)) ⟨cc, pa + 1, us, wo⟩ (by decide) rfl
            have P2 := owns_put2 encU_len P1 HK.out 7 (.int .i64 (us + 1)) ⟨cc, pa + 1, us + 1, wo⟩ (by decide) rfl
            have P3 := owns_put2 encU_len P2 HK.out 8 (.int .i64 (wo + 1)) ⟨cc, pa + 1, us + 1, wo + 1⟩ (by decide) rfl
            refine ⟨.slice (some ⟨g, 0, none⟩) l.length cap, ret_vi rfl R'.out.1.symm, ?_, ?_⟩
            · rw [R'.out.2]; exact (owns_rows encU_len P3 (by simp))
            · (repeat (first | (with_reducible exact (G3).out) | (with_reducible refine Gr.alloc ?_ _) | ((with_reducible refine Gr.setCell ?_ ?_ _); rotate_left; exact hgw)))
  · have RCHK := Lib.hid (Al.pas_chk (l := l) (s := s) (u := u) (w := wk) (by simpa using hc))
    have C1' := Lib.hid C1
    clear C1 C2 HR
    go_enter Try.func28, Try.ntmps28
    go_wp2_with fail
    refine (C1'.out _ (Gr.alloc (Gr.refl _) _)).mono ?_
    rintro e w1 ⟨rfl, g1⟩
    have G1 : Aside (Gr w w1) := (Gr.alloc (Gr.refl _) _).trans g1
    clear g1
    go_wp2_with fail
    go_ret2
    exact ⟨.slice none 0 0, ret_vi rfl RCHK.out.1.symm, by rw [RCHK.out.2]; exact Rows.nil _ _, G1.out⟩
end Go.Proofs.Ytkhanjhjcfhhiaa
