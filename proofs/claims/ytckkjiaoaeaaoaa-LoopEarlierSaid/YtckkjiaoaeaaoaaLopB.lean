/- The contracts of package loop's fits, right, Worst, flows, Flows. -/
import Derived.Test.YtckkjiaoaeaaoaaLopA
import Derived.Deep.QuietTactic
import Derived.BigQuiet
import Derived.Lib.Hide
namespace Go.Proofs.Ytckkjiaoaeaaoaa
open Go.RowKit Go.Sort
set_option linter.unusedVariables false

/-- a box, behind growth -/
theorem boxed {α : Type} {enc : α → List Value} {w w1 : World} {x : α} {t : TypeId} (g : Gr (w.alloc (Obj.cells (enc x).toArray t)) w1) : At enc w1 w.heap.size 0 x := (At.new enc w x t).gr g
theorem boxed2 {α β : Type} {enc : α → List Value} {enc2 : β → List Value} {w w1 : World} {x : α} {y : β} {t t2 : TypeId} (g : Gr ((w.alloc (Obj.cells (enc x).toArray t)).alloc (Obj.cells (enc2 y).toArray t2)) w1) : At enc w1 w.heap.size 0 x ∧ At enc2 w1 (w.heap.size + 1) 0 y := by
  refine ⟨((At.new enc w x t).gr (Gr.alloc (Gr.refl _) _)).gr g, ?_⟩
  have h := At.new enc2 (w.alloc (Obj.cells (enc x).toArray t)) y t2
  rw [World.size_alloc] at h
  exact h.gr g
theorem At.lt {α : Type} {enc : α → List Value} {W : World} {b o : Nat} {x : α} (h : At enc W b o x) {u : Value} (hu : (enc x)[0]? = some u) : b < W.heap.size := block_lt_of_cell (h 0 u hu)

set_option maxHeartbeats 4000000 in
set_option maxRecDepth 100000 in
theorem fits_any (l : Lo) (s : Sp) (w : World) (ho : Lp.okR 32 l) :
    Calls Try.prog 55 #[.agg #[.int .i64 l.id, .int .i64 l.se, .int .i64 l.co, .int .i64 l.ac, .int .i64 l.pe, .int .i64 l.ph, .int .i64 l.ag], .agg #[.int .i64 s.s, .int .i64 s.a]] w fun e w' => e = .returned (.bool (decide (Lp.fit l s))) ∧ Gr w w' := by
  obtain ⟨-, ⟨p1, p2⟩, -, ⟨g1, g2⟩⟩ := ho
  by_cases h1 : 1 ≤ s.s
  · have b1 := bt h1
    by_cases h2 : 1 ≤ s.a
    · have b2 := bt h2
      by_cases h3 : s.s ≤ l.pe
      · have b3 := bt h3
        by_cases h4 : s.a ≤ l.pe
        · have b4 := bt h4
          by_cases h5 : s.s + s.a ≤ l.pe
          · have b5 := bt h5
            have WST := fun W => worst_in l s W p1 p2 h1 h3 h2 h4
            have D : Hid (decide (Lp.wst l s ≤ l.ag) = decide (Lp.fit l s)) := (show _ = _ by unfold Lp.fit Lp.wst; simp only [h1, h2, h3, h4, h5, true_and])
            obtain ⟨q, hq⟩ : ∃ q, decide (Lp.wst l s ≤ l.ag) = q := ⟨_, rfl⟩
            rw [hq] at D
            generalize Lp.wst l s = ws at hq WST
            have mixed : Try.prog.follows .mixedOrders = true := by kernel_rfl
            go_enter Try.func55, Try.ntmps55
            go_wp2_with fail
            have BX := boxed2 (enc := encL) (enc2 := encP) (x := l) (y := s) (Gr.refl ((w.alloc (Obj.cells (encL l).toArray 23)).alloc (Obj.cells (encP s).toArray 25)))
            have G2 : Aside (Gr w ((w.alloc (Obj.cells (encL l).toArray 23)).alloc (Obj.cells (encP s).toArray 25))) := Gr.alloc (Gr.alloc (Gr.refl _) _) _
            generalize ((w.alloc (Obj.cells (encL l).toArray 23)).alloc (Obj.cells (encP s).toArray 25)) = W2 at BX G2 ⊢
            have L2 := Lib.hid BX.1
            have S2 := Lib.hid BX.2
            clear BX
            have u0 := fun dq oq => cell_regrown ((L2.out) 0 _ rfl) dq oq; have u1 := fun dq oq => cell_regrown ((L2.out) 1 _ rfl) dq oq; have u2 := fun dq oq => cell_regrown ((L2.out) 2 _ rfl) dq oq; have u3 := fun dq oq => cell_regrown ((L2.out) 3 _ rfl) dq oq; have u4 := fun dq oq => cell_regrown ((L2.out) 4 _ rfl) dq oq; have u5 := fun dq oq => cell_regrown ((L2.out) 5 _ rfl) dq oq; have u6 := fun dq oq => cell_regrown ((L2.out) 6 _ rfl) dq oq; (try simp only [Nat.add_zero] at u0); (try simp only [Nat.zero_add] at u0 u1 u2 u3 u4 u5 u6)
            have v0 := fun dq oq => cell_regrown ((S2.out) 0 _ rfl) dq oq; have v1 := fun dq oq => cell_regrown ((S2.out) 1 _ rfl) dq oq; (try simp only [Nat.add_zero] at v0); (try simp only [Nat.zero_add] at v0 v1)
            have ew : IntKind.i64.wrap (s.s + s.a) = s.s + s.a := IntWalk.i64_in _ (by omega)
            refine wp_region_quiet_below (by assumption) (by kernel_rfl) ?_; (repeat (first | go_big_quiet_skip | quiet_step ((first | (go_at_call 37; with_reducible exact Gr.meet (WST _)))))); refine wpQuiet_nil ?_; intro _ hw'; obtain ⟨⟨nq, osq⟩, hw''⟩ := hw'; subst hw''
            go_wp2_with fail
            go_ret
            exact ⟨ret_bool D.out, by have hgg := G2.out; repeat (first | (with_reducible exact Gr.refl _) | (with_reducible assumption) | (with_reducible refine Gr.alloc ?_ _) | (with_reducible refine Gr.drewN ?_ _) | (with_reducible refine Gr.drew ?_) | (with_reducible refine Gr.grown ?_ _ _) | (with_reducible refine Gr.regrown ?_ _ _) | (with_reducible refine Gr.setCell ?_ (by first | omega | (simp; omega) | simp) _) | (with_reducible refine Gr.trans ?_ (by with_reducible assumption)))⟩
          · have b5 := bf h5
            have D : Hid (false = decide (Lp.fit l s)) := (show _ = _ from (bf (fun k => h5 k.2.2.2.2.1)).symm)
            clear h5
            go_enter Try.func55, Try.ntmps55
            go_wp2_with fail
            go_quiet (fail)
            go_wp2_with fail
            go_ret
            exact ⟨ret_bool D.out, by repeat (first | (with_reducible exact Gr.refl _) | (with_reducible assumption) | (with_reducible refine Gr.alloc ?_ _) | (with_reducible refine Gr.drewN ?_ _) | (with_reducible refine Gr.drew ?_) | (with_reducible refine Gr.grown ?_ _ _) | (with_reducible refine Gr.regrown ?_ _ _) | (with_reducible refine Gr.setCell ?_ (by first | omega | (simp; omega) | simp) _) | (with_reducible refine Gr.trans ?_ (by with_reducible assumption)))⟩
        · have b4 := bf h4
          have D : Hid (false = decide (Lp.fit l s)) := (show _ = _ from (bf (fun k => h4 k.2.2.2.1)).symm)
          clear h4
          go_enter Try.func55, Try.ntmps55
          go_wp2_with fail
          go_quiet (fail)
          go_wp2_with fail
          go_ret
          exact ⟨ret_bool D.out, by repeat (first | (with_reducible exact Gr.refl _) | (with_reducible assumption) | (with_reducible refine Gr.alloc ?_ _) | (with_reducible refine Gr.drewN ?_ _) | (with_reducible refine Gr.drew ?_) | (with_reducible refine Gr.grown ?_ _ _) | (with_reducible refine Gr.regrown ?_ _ _) | (with_reducible refine Gr.setCell ?_ (by first | omega | (simp; omega) | simp) _) | (with_reducible refine Gr.trans ?_ (by with_reducible assumption)))⟩
      · have b3 := bf h3
        have D : Hid (false = decide (Lp.fit l s)) := (show _ = _ from (bf (fun k => h3 k.2.2.1)).symm)
        clear h3
        go_enter Try.func55, Try.ntmps55
        go_wp2_with fail
        go_quiet (fail)
        go_wp2_with fail
        go_ret
        exact ⟨ret_bool D.out, by repeat (first | (with_reducible exact Gr.refl _) | (with_reducible assumption) | (with_reducible refine Gr.alloc ?_ _) | (with_reducible refine Gr.drewN ?_ _) | (with_reducible refine Gr.drew ?_) | (with_reducible refine Gr.grown ?_ _ _) | (with_reducible refine Gr.regrown ?_ _ _) | (with_reducible refine Gr.setCell ?_ (by first | omega | (simp; omega) | simp) _) | (with_reducible refine Gr.trans ?_ (by with_reducible assumption)))⟩
    · have b2 := bf h2
      have D : Hid (false = decide (Lp.fit l s)) := (show _ = _ from (bf (fun k => h2 k.2.1)).symm)
      clear h2
      go_enter Try.func55, Try.ntmps55
      go_wp2_with fail
      go_quiet (fail)
      go_wp2_with fail
      go_ret
      exact ⟨ret_bool D.out, by repeat (first | (with_reducible exact Gr.refl _) | (with_reducible assumption) | (with_reducible refine Gr.alloc ?_ _) | (with_reducible refine Gr.drewN ?_ _) | (with_reducible refine Gr.drew ?_) | (with_reducible refine Gr.grown ?_ _ _) | (with_reducible refine Gr.regrown ?_ _ _) | (with_reducible refine Gr.setCell ?_ (by first | omega | (simp; omega) | simp) _) | (with_reducible refine Gr.trans ?_ (by with_reducible assumption)))⟩
  · have b1 := bf h1
    have D : Hid (false = decide (Lp.fit l s)) := (show _ = _ from (bf (fun k => h1 k.1)).symm)
    clear h1
    go_enter Try.func55, Try.ntmps55
    go_wp2_with fail
    go_quiet (fail)
    go_wp2_with fail
    go_ret
    exact ⟨ret_bool D.out, by repeat (first | (with_reducible exact Gr.refl _) | (with_reducible assumption) | (with_reducible refine Gr.alloc ?_ _) | (with_reducible refine Gr.drewN ?_ _) | (with_reducible refine Gr.drew ?_) | (with_reducible refine Gr.grown ?_ _ _) | (with_reducible refine Gr.regrown ?_ _ _) | (with_reducible refine Gr.setCell ?_ (by first | omega | (simp; omega) | simp) _) | (with_reducible refine Gr.trans ?_ (by with_reducible assumption)))⟩

set_option maxHeartbeats 1000000 in
theorem right_any (l : Lo) (s : Sp) (w : World) :
    Calls Try.prog 36 #[.agg #[.int .i64 l.id, .int .i64 l.se, .int .i64 l.co, .int .i64 l.ac, .int .i64 l.pe, .int .i64 l.ph, .int .i64 l.ag], .agg #[.int .i64 s.s, .int .i64 s.a]] w fun e w' => e = .returned (.int .i64 (Lp.rgt l s)) ∧ Gr w w' := by
  rcases Lp.flt_cases 32 l with h | h
  · have C1 := fun W => fault_any 32 l W
    have C2 := fun W => fits_any l s W (Lp.flt_inv h).1
    rw [h] at C1
    by_cases hf : Lp.fit l s
    · have R := Lib.hid (Lp.rgt_ok h hf)
      rw [bt hf] at C2
      clear h hf
      go_enter Try.func36, Try.ntmps36
      go_wp2_with fail
      refine (C1 _).mono ?_
      rintro e w1 ⟨rfl, g1⟩
      obtain ⟨L1, S1⟩ := boxed2 (enc := encL) (enc2 := encP) (x := l) (y := s) g1
      have u0 := (L1) 0 _ rfl; have u1 := (L1) 1 _ rfl; have u2 := (L1) 2 _ rfl; have u3 := (L1) 3 _ rfl; have u4 := (L1) 4 _ rfl; have u5 := (L1) 5 _ rfl; have u6 := (L1) 6 _ rfl; (try simp only [Nat.add_zero] at u0); (try simp only [Nat.zero_add] at u0 u1 u2 u3 u4 u5 u6)
      have v0 := (S1) 0 _ rfl; have v1 := (S1) 1 _ rfl; (try simp only [Nat.add_zero] at v0); (try simp only [Nat.zero_add] at v0 v1)
      have hz := L1.lt rfl
      have hz2 := S1.lt rfl
      have G1 : Aside (Gr w w1) := (Gr.alloc (Gr.alloc (Gr.refl _) _) _).trans g1
      clear g1 L1 S1 C1
      go_wp2_with fail
      refine (C2 _).mono ?_
      rintro e w2 ⟨rfl, g2⟩
      have G2 : Aside (Gr w w2) := G1.out.trans g2
      clear g2 C2 u0 u1 u2 u3 u4 u5 u6 v0 v1 hz hz2
      go_wp2_with fail
      go_ret
      exact ⟨ret_int R.out.symm, G2.out⟩
    · have R := Lib.hid (Lp.rgt_fit h hf)
      rw [bf hf] at C2
      clear h hf
      go_enter Try.func36, Try.ntmps36
      go_wp2_with fail
      refine (C1 _).mono ?_
      rintro e w1 ⟨rfl, g1⟩
      obtain ⟨L1, S1⟩ := boxed2 (enc := encL) (enc2 := encP) (x := l) (y := s) g1
      have u0 := (L1) 0 _ rfl; have u1 := (L1) 1 _ rfl; have u2 := (L1) 2 _ rfl; have u3 := (L1) 3 _ rfl; have u4 := (L1) 4 _ rfl; have u5 := (L1) 5 _ rfl; have u6 := (L1) 6 _ rfl; (try simp only [Nat.add_zero] at u0); (try simp only [Nat.zero_add] at u0 u1 u2 u3 u4 u5 u6)
      have v0 := (S1) 0 _ rfl; have v1 := (S1) 1 _ rfl; (try simp only [Nat.add_zero] at v0); (try simp only [Nat.zero_add] at v0 v1)
      have hz := L1.lt rfl
      have hz2 := S1.lt rfl
      have G1 : Aside (Gr w w1) := (Gr.alloc (Gr.alloc (Gr.refl _) _) _).trans g1
      clear g1 L1 S1 C1
      go_wp2_with fail
      refine (C2 _).mono ?_
      rintro e w2 ⟨rfl, g2⟩
      have G2 : Aside (Gr w w2) := G1.out.trans g2
      clear g2 C2 u0 u1 u2 u3 u4 u5 u6 v0 v1 hz hz2
      go_wp2_with fail
      go_ret
      exact ⟨ret_int R.out.symm, G2.out⟩
  · have R := Lib.hid (Lp.rgt_flt (l := l) (s := s) (by simpa using h))
    have C1 := fun W => fault_any 32 l W
    generalize Lp.flt 32 l = E at *
    go_enter Try.func36, Try.ntmps36
    go_wp2_with fail
    refine (C1 _).mono ?_
    rintro e w1 ⟨rfl, g1⟩
    have G1 : Aside (Gr w w1) := (Gr.alloc (Gr.alloc (Gr.refl _) _) _).trans g1
    clear g1 C1
    go_wp2_with fail
    go_ret
    exact ⟨ret_int R.out.symm, G1.out⟩

set_option maxHeartbeats 1000000 in
theorem worst_any (l : Lo) (s : Sp) (w : World) :
    Calls Try.prog 12 #[.agg #[.int .i64 l.id, .int .i64 l.se, .int .i64 l.co, .int .i64 l.ac, .int .i64 l.pe, .int .i64 l.ph, .int .i64 l.ag], .agg #[.int .i64 s.s, .int .i64 s.a]] w fun e w' => e = .returned (.tuple #[.int .i64 (Lp.wstN l s), .int .i64 (Lp.rgt l s)]) ∧ Gr w w' := by
  have C1 := fun W => right_any l s W
  rcases Lp.rgt_cases l s with h | h
  · have hi := Lp.rgt_inv h
    obtain ⟨⟨⟨-, ⟨p1, p2⟩, -⟩, -⟩, f1, f2, f3, f4, -⟩ := hi
    have C2 := fun W => worst_in l s W p1 p2 f1 f3 f2 f4
    have R : Hid (Lp.wstN l s = Lp.wst l s) := (show _ = _ from if_pos h)
    rw [h] at C1 ⊢
    clear h p1 p2 f1 f2 f3 f4
    go_enter Try.func12, Try.ntmps12
    go_wp2_with fail
    refine (C1 _).mono ?_
    rintro e w1 ⟨rfl, g1⟩
    obtain ⟨L1, S1⟩ := boxed2 (enc := encL) (enc2 := encP) (x := l) (y := s) g1
    have u0 := (L1) 0 _ rfl; have u1 := (L1) 1 _ rfl; have u2 := (L1) 2 _ rfl; have u3 := (L1) 3 _ rfl; have u4 := (L1) 4 _ rfl; have u5 := (L1) 5 _ rfl; have u6 := (L1) 6 _ rfl; (try simp only [Nat.add_zero] at u0); (try simp only [Nat.zero_add] at u0 u1 u2 u3 u4 u5 u6)
    have v0 := (S1) 0 _ rfl; have v1 := (S1) 1 _ rfl; (try simp only [Nat.add_zero] at v0); (try simp only [Nat.zero_add] at v0 v1)
    have hz := L1.lt rfl
    have hz2 := S1.lt rfl
    have G1 : Aside (Gr w w1) := (Gr.alloc (Gr.alloc (Gr.refl _) _) _).trans g1
    clear g1 L1 S1 C1
    go_wp2_with fail
    refine (C2 _).mono ?_
    rintro e w2 ⟨rfl, g2⟩
    have G2 : Aside (Gr w w2) := G1.out.trans g2
    clear g2 C2 u0 u1 u2 u3 u4 u5 u6 v0 v1 hz hz2
    go_wp2_with fail
    go_ret2
    exact ⟨ret_int2 R.out.symm rfl, G2.out⟩
  · have R : Hid (Lp.wstN l s = 0) := (show _ = _ from if_neg (by simpa using h))
    generalize Lp.rgt l s = E at *
    go_enter Try.func12, Try.ntmps12
    go_wp2_with fail
    refine (C1 _).mono ?_
    rintro e w1 ⟨rfl, g1⟩
    have G1 : Aside (Gr w w1) := (Gr.alloc (Gr.alloc (Gr.refl _) _) _).trans g1
    clear g1 C1
    go_wp2_with fail
    go_ret2
    exact ⟨ret_int2 R.out.symm rfl, G1.out⟩
end Go.Proofs.Ytckkjiaoaeaaoaa
