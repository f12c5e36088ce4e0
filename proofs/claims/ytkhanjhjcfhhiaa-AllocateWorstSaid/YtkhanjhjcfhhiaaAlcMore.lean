/- The contracts of AllocateWorst's closures. -/
import Derived.Test.YtkhanjhjcfhhiaaAlcAwake
import Derived.Test.YtkhanjhjcfhhiaaIndexU
import Derived.Test.YtkhanjhjcfhhiaaAlcLaw
namespace Go.Proofs.Ytkhanjhjcfhhiaa
open Go.RowKit Go.Sort
set_option linter.unusedVariables false

set_option maxHeartbeats 1000000 in
theorem more1_any (a b : Us) (ha : Al.okN a) (hb : Al.okN b) (w : World) :
    Calls Try.prog 19 #[.agg #[.int .i64 a.c.s, .int .i64 a.c.o, .int .i64 a.c.k, .bool a.c.b, .int .i64 a.c.p, .int .i64 a.c.f, .int .i64 a.pa, .int .i64 a.us, .int .i64 a.wo], .agg #[.int .i64 b.c.s, .int .i64 b.c.o, .int .i64 b.c.k, .bool b.c.b, .int .i64 b.c.p, .int .i64 b.c.f, .int .i64 b.pa, .int .i64 b.us, .int .i64 b.wo], .int .i64 1] w fun e w' => e = .returned (.bool (Al.more a b 1)) ∧ Gr w w' := by
  obtain ⟨p1, p2⟩ := pr_bd ha hb
  obtain ⟨q1, q2⟩ := pr_bd hb ha
  have a1 : 0 ≤ a.wo := ha.2.2.2.2.1
  have a2 : a.wo ≤ 64 := by unfold Al.okN at ha; omega
  clear ha hb
  by_cases h8 : 8 ≤ b.us
  · have D : Hid (decide (a.wo * b.us < b.wo * a.us) = Al.more a b 1) := (show _ = _ by unfold Al.more; rw [Int.one_mul, Bool.eq_iff_iff]; simp [h8])
    go_enter Try.func19, Try.ntmps19
    go_wp2_with fail
    go_ret
    exact ⟨ret_bool (by rw [← D.out]; try simp), by repeat (first | (with_reducible exact Gr.refl _) | (with_reducible assumption) | (with_reducible refine Gr.alloc ?_ _) | (with_reducible refine Gr.drewN ?_ _) | (with_reducible refine Gr.drew ?_) | (with_reducible refine Gr.grown ?_ _ _) | (with_reducible refine Gr.regrown ?_ _ _) | (with_reducible refine Gr.setCell ?_ (by first | omega | (simp; omega) | simp) _) | (with_reducible refine Gr.trans ?_ (by with_reducible assumption)))⟩
  · have D : Hid (Al.more a b 1 = false) := (show _ = _ by unfold Al.more; exact bf (fun h => h8 h.1))
    have h9 := bf h8
    go_enter Try.func19, Try.ntmps19
    go_wp2_with fail
    go_ret
    exact ⟨ret_bool (by rw [D.out]; try simp), by repeat (first | (with_reducible exact Gr.refl _) | (with_reducible assumption) | (with_reducible refine Gr.alloc ?_ _) | (with_reducible refine Gr.drewN ?_ _) | (with_reducible refine Gr.drew ?_) | (with_reducible refine Gr.grown ?_ _ _) | (with_reducible refine Gr.regrown ?_ _ _) | (with_reducible refine Gr.setCell ?_ (by first | omega | (simp; omega) | simp) _) | (with_reducible refine Gr.trans ?_ (by with_reducible assumption)))⟩
set_option maxHeartbeats 1000000 in
theorem more2_any (a b : Us) (ha : Al.okN a) (hb : Al.okN b) (w : World) :
    Calls Try.prog 19 #[.agg #[.int .i64 a.c.s, .int .i64 a.c.o, .int .i64 a.c.k, .bool a.c.b, .int .i64 a.c.p, .int .i64 a.c.f, .int .i64 a.pa, .int .i64 a.us, .int .i64 a.wo], .agg #[.int .i64 b.c.s, .int .i64 b.c.o, .int .i64 b.c.k, .bool b.c.b, .int .i64 b.c.p, .int .i64 b.c.f, .int .i64 b.pa, .int .i64 b.us, .int .i64 b.wo], .int .i64 2] w fun e w' => e = .returned (.bool (Al.more a b 2)) ∧ Gr w w' := by
  obtain ⟨p1, p2⟩ := pr_bd ha hb
  obtain ⟨q1, q2⟩ := pr_bd hb ha
  have a1 : 0 ≤ a.wo := ha.2.2.2.2.1
  have a2 : a.wo ≤ 64 := by unfold Al.okN at ha; omega
  have e : 2 * a.wo * b.us = 2 * (a.wo * b.us) := Int.mul_assoc _ _ _
  have p3 : 0 ≤ 2 * a.wo * b.us := by omega
  have p4 : 2 * a.wo * b.us ≤ 8192 := by omega
  clear ha hb e
  by_cases h8 : 8 ≤ b.us
  · have D : Hid (decide (2 * a.wo * b.us < b.wo * a.us) = Al.more a b 2) := (show _ = _ by unfold Al.more; rw [Bool.eq_iff_iff]; simp [h8])
    go_enter Try.func19, Try.ntmps19
    go_wp2_with fail
    go_ret
    exact ⟨ret_bool (by rw [← D.out]; try simp), by repeat (first | (with_reducible exact Gr.refl _) | (with_reducible assumption) | (with_reducible refine Gr.alloc ?_ _) | (with_reducible refine Gr.drewN ?_ _) | (with_reducible refine Gr.drew ?_) | (with_reducible refine Gr.grown ?_ _ _) | (with_reducible refine Gr.regrown ?_ _ _) | (with_reducible refine Gr.setCell ?_ (by first | omega | (simp; omega) | simp) _) | (with_reducible refine Gr.trans ?_ (by with_reducible assumption)))⟩
  · have D : Hid (Al.more a b 2 = false) := (show _ = _ by unfold Al.more; exact bf (fun h => h8 h.1))
    have h9 := bf h8
    go_enter Try.func19, Try.ntmps19
    go_wp2_with fail
    go_ret
    exact ⟨ret_bool (by rw [D.out]; try simp), by repeat (first | (with_reducible exact Gr.refl _) | (with_reducible assumption) | (with_reducible refine Gr.alloc ?_ _) | (with_reducible refine Gr.drewN ?_ _) | (with_reducible refine Gr.drew ?_) | (with_reducible refine Gr.grown ?_ _ _) | (with_reducible refine Gr.regrown ?_ _ _) | (with_reducible refine Gr.setCell ?_ (by first | omega | (simp; omega) | simp) _) | (with_reducible refine Gr.trans ?_ (by with_reducible assumption)))⟩

/-- the function value of more -/
abbrev moreV : Value := .func (.func 19) #[] #[]

set_option maxHeartbeats 1000000 in
theorem worst21_any (a b : Us) (ha : Al.okN a) (hb : Al.okN b) (B C : Nat) (w : World) (cB : w.cell? ⟨B, 0, none⟩ = some moreV) (cC : UAt w C 0 a) :
    Calls Try.prog 22 #[.agg #[.int .i64 b.c.s, .int .i64 b.c.o, .int .i64 b.c.k, .bool b.c.b, .int .i64 b.c.p, .int .i64 b.c.f, .int .i64 b.pa, .int .i64 b.us, .int .i64 b.wo], .pointer (some ⟨B, 0, none⟩), .pointer (some ⟨C, 0, none⟩)] w fun e w' => e = .returned (.bool (Al.more a b 2)) ∧ Gr w w' := by
  have L := fun W => more2_any a b ha hb W
  have c0 := (cC) 0 _ rfl; have c1 := (cC) 1 _ rfl; have c2 := (cC) 2 _ rfl; have c3 := (cC) 3 _ rfl; have c4 := (cC) 4 _ rfl; have c5 := (cC) 5 _ rfl; have c6 := (cC) 6 _ rfl; have c7 := (cC) 7 _ rfl; have c8 := (cC) 8 _ rfl; (try simp only [Nat.add_zero] at c0); (try simp only [Nat.zero_add] at c0 c1 c2 c3 c4 c5 c6 c7 c8)
  have hB : B < w.heap.size := block_lt_of_cell cB
  have hC : C < w.heap.size := block_lt_of_cell c0
  clear cC ha hb
  go_enter Try.func22, Try.ntmps22
  go_wp2_with fail
  refine (L _).mono ?_
  rintro e w1 ⟨rfl, g1⟩
  go_wp2_with fail
  go_ret
  exact ⟨rfl, by repeat (first | (with_reducible exact Gr.refl _) | (with_reducible assumption) | (with_reducible refine Gr.alloc ?_ _) | (with_reducible refine Gr.drewN ?_ _) | (with_reducible refine Gr.drew ?_) | (with_reducible refine Gr.grown ?_ _ _) | (with_reducible refine Gr.regrown ?_ _ _) | (with_reducible refine Gr.setCell ?_ (by first | omega | (simp; omega) | simp) _) | (with_reducible refine Gr.trans ?_ (by with_reducible assumption)))⟩

set_option maxHeartbeats 1000000 in
theorem worst2_any (a : Us) (l : List Us) (v : Value) (NUM : ∀ (j : Nat) x, l[j]? = some x → Al.okN x) (ha : Al.okN a) (A B : Nat) (w : World) (h : Rows 9 encU w v l) (hbig : (l.length : Int) ≤ 4611686018427387904) (cA : w.cell? ⟨A, 0, none⟩ = some v) (cB : w.cell? ⟨B, 0, none⟩ = some moreV) :
    Calls Try.prog 21 #[.agg #[.int .i64 a.c.s, .int .i64 a.c.o, .int .i64 a.c.k, .bool a.c.b, .int .i64 a.c.p, .int .i64 a.c.f, .int .i64 a.pa, .int .i64 a.us, .int .i64 a.wo], .pointer (some ⟨A, 0, none⟩), .pointer (some ⟨B, 0, none⟩)] w fun e w' => e = .returned (.bool (decide (8 ≤ a.us) && l.any (fun b => Al.more a b 2))) ∧ Gr w w' := by
  have hA : A < w.heap.size := block_lt_of_cell cA
  have hB : B < w.heap.size := block_lt_of_cell cB
  obtain ⟨A', c, rfl⟩ := h.slice
  have HR := Lib.hid h
  have HA := Lib.hid ha
  have N := Lib.hid NUM
  have CB := Lib.hid cB
  clear h ha NUM
  by_cases h8 : 8 ≤ a.us
  · go_enter Try.func21, Try.ntmps21
    go_wp2_with fail
    have G0 : Aside (Gr w (w.alloc (Obj.cells (encU a).toArray 39))) := Gr.alloc (Gr.refl _) _
    have U0 : Aside (UAt (w.alloc (Obj.cells (encU a).toArray 39)) w.heap.size 0 a) := UAt.new _ _ _
    refine (containsU_any 22 #[.pointer (some ⟨B, 0, none⟩), .pointer (some ⟨w.heap.size, 0, none⟩)] (fun b => Al.more a b 2) _ l _ (HR.out.gr G0.out) hbig (enters_of Try.func22 (by kernel_rfl) rfl) (fun W i b g hi => worst21_any a b HA.out (N.out i b hi) B w.heap.size W (held_keep (G0.out.trans g) CB.out) (U0.out.gr g))).mono ?_
    rintro e w1 ⟨rfl, g1⟩
    go_wp2_with fail
    go_ret
    exact ⟨by simp [h8], by repeat (first | (with_reducible exact Gr.refl _) | (with_reducible assumption) | (with_reducible refine Gr.alloc ?_ _) | (with_reducible refine Gr.drewN ?_ _) | (with_reducible refine Gr.drew ?_) | (with_reducible refine Gr.grown ?_ _ _) | (with_reducible refine Gr.regrown ?_ _ _) | (with_reducible refine Gr.setCell ?_ (by first | omega | (simp; omega) | simp) _) | (with_reducible refine Gr.trans ?_ (by with_reducible assumption)))⟩
  · have h9 := bf h8
    go_enter Try.func21, Try.ntmps21
    go_wp2_with fail
    go_ret
    exact ⟨by simp; try omega, by repeat (first | (with_reducible exact Gr.refl _) | (with_reducible assumption) | (with_reducible refine Gr.alloc ?_ _) | (with_reducible refine Gr.drewN ?_ _) | (with_reducible refine Gr.drew ?_) | (with_reducible refine Gr.grown ?_ _ _) | (with_reducible refine Gr.regrown ?_ _ _) | (with_reducible refine Gr.setCell ?_ (by first | omega | (simp; omega) | simp) _) | (with_reducible refine Gr.trans ?_ (by with_reducible assumption)))⟩

set_option maxHeartbeats 1000000 in
theorem worst3_any (b : Us) (l : List Us) (v : Value) (k : Nat) (x : Us) (hx : l[k]? = some x) (hxn : Al.okN x) (hb : Al.okN b) (A B C : Nat) (w : World) (h : Rows 9 encU w v l) (hbig : (l.length : Int) ≤ 4611686018427387904) (cA : w.cell? ⟨A, 0, none⟩ = some v) (cB : w.cell? ⟨B, 0, none⟩ = some moreV) (cC : w.cell? ⟨C, 0, none⟩ = some (.int .i64 (k : Int))) :
    Calls Try.prog 23 #[.agg #[.int .i64 b.c.s, .int .i64 b.c.o, .int .i64 b.c.k, .bool b.c.b, .int .i64 b.c.p, .int .i64 b.c.f, .int .i64 b.pa, .int .i64 b.us, .int .i64 b.wo], .pointer (some ⟨B, 0, none⟩), .pointer (some ⟨A, 0, none⟩), .pointer (some ⟨C, 0, none⟩)] w fun e w' => e = .returned (.bool (Al.more x b 2)) ∧ Gr w w' := by
  have L := fun W => more2_any x b hxn hb W
  have hk : k < l.length := (List.getElem?_eq_some_iff.1 hx).1
  rcases h.usl with h0 | ⟨bb, off, ⟨c, rfl⟩, hbb, hU⟩
  · omega
  have UX := Lib.hid (hU k x hx)
  have hA : A < w.heap.size := block_lt_of_cell cA
  have hB : B < w.heap.size := block_lt_of_cell cB
  have hC : C < w.heap.size := block_lt_of_cell cC
  have i1 : (k : Int) < (l.length : Int) := by omega
  have CA := Lib.hid cA
  have CB := Lib.hid cB
  have CC := Lib.hid cC
  have mixed : Try.prog.follows .mixedOrders = true := by kernel_rfl
  clear h hU hx cA cB cC
  generalize l.length = n at *
  go_enter Try.func23, Try.ntmps23
  go_wp2_with fail
  generalize hW2 : w.alloc (Obj.cells #[.int .i64 b.c.s, .int .i64 b.c.o, .int .i64 b.c.k, .bool b.c.b, .int .i64 b.c.p, .int .i64 b.c.f, .int .i64 b.pa, .int .i64 b.us, .int .i64 b.wo] 39) = W2
  have U8 : Aside (UAt W2 w.heap.size 0 b) := by rw [← hW2]; exact UAt.new _ _ _
  have G2 : Aside (Gr w W2) := by rw [← hW2]; exact Gr.alloc (Gr.refl _) _
  clear hW2
  have u0 := fun dq oq => cell_regrown ((U8.out) 0 _ rfl) dq oq; have u1 := fun dq oq => cell_regrown ((U8.out) 1 _ rfl) dq oq; have u2 := fun dq oq => cell_regrown ((U8.out) 2 _ rfl) dq oq; have u3 := fun dq oq => cell_regrown ((U8.out) 3 _ rfl) dq oq; have u4 := fun dq oq => cell_regrown ((U8.out) 4 _ rfl) dq oq; have u5 := fun dq oq => cell_regrown ((U8.out) 5 _ rfl) dq oq; have u6 := fun dq oq => cell_regrown ((U8.out) 6 _ rfl) dq oq; have u7 := fun dq oq => cell_regrown ((U8.out) 7 _ rfl) dq oq; have u8 := fun dq oq => cell_regrown ((U8.out) 8 _ rfl) dq oq; (try simp only [Nat.add_zero] at u0); (try simp only [Nat.zero_add] at u0 u1 u2 u3 u4 u5 u6 u7 u8)
  have v0 := fun dq oq => cell_regrown ((UX.out.gr G2.out) 0 _ rfl) dq oq; have v1 := fun dq oq => cell_regrown ((UX.out.gr G2.out) 1 _ rfl) dq oq; have v2 := fun dq oq => cell_regrown ((UX.out.gr G2.out) 2 _ rfl) dq oq; have v3 := fun dq oq => cell_regrown ((UX.out.gr G2.out) 3 _ rfl) dq oq; have v4 := fun dq oq => cell_regrown ((UX.out.gr G2.out) 4 _ rfl) dq oq; have v5 := fun dq oq => cell_regrown ((UX.out.gr G2.out) 5 _ rfl) dq oq; have v6 := fun dq oq => cell_regrown ((UX.out.gr G2.out) 6 _ rfl) dq oq; have v7 := fun dq oq => cell_regrown ((UX.out.gr G2.out) 7 _ rfl) dq oq; have v8 := fun dq oq => cell_regrown ((UX.out.gr G2.out) 8 _ rfl) dq oq; (try simp only [Nat.add_zero] at v0); (try simp only [Nat.zero_add] at v0 v1 v2 v3 v4 v5 v6 v7 v8)
  have ca := fun dq oq => cell_regrown (held_keep G2.out CA.out) dq oq
  have cb := fun dq oq => cell_regrown (held_keep G2.out CB.out) dq oq
  have cc := fun dq oq => cell_regrown (held_keep G2.out CC.out) dq oq
  refine wp_region_quiet_below (by assumption) (by kernel_rfl) ?_; (repeat (quiet_step ((first | (go_at_call 19; with_reducible exact Gr.meet (L _)))))); refine wpQuiet_nil ?_; intro _ hw'; obtain ⟨⟨nq, osq⟩, hw''⟩ := hw'; subst hw''
  go_wp2_with fail
  go_ret
  exact ⟨rfl, by have hgg := G2.out; repeat (first | (with_reducible exact Gr.refl _) | (with_reducible assumption) | (with_reducible refine Gr.alloc ?_ _) | (with_reducible refine Gr.drewN ?_ _) | (with_reducible refine Gr.drew ?_) | (with_reducible refine Gr.grown ?_ _ _) | (with_reducible refine Gr.regrown ?_ _ _) | (with_reducible refine Gr.setCell ?_ (by first | omega | (simp; omega) | simp) _) | (with_reducible refine Gr.trans ?_ (by with_reducible assumption)))⟩
end Go.Proofs.Ytkhanjhjcfhhiaa
