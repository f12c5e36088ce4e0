/- The law package's own example holds: awake returns true; the contracts of usage and Few. No condition. -/
import Derived.Test.YtkhanjhjcfhhiaaAlcE
namespace Go.Proofs.Ytkhanjhjcfhhiaa
open Go.RowKit Go.Sort
set_option linter.unusedVariables false

/-- a usage of a cell to the node 3 -/
def mkU (s p u k : Int) : Us := ⟨⟨s, 0, 2, true, 3, -1⟩, p, u, k⟩
set_option maxHeartbeats 1000000 in
theorem usage_any (s p u k : Int) (w : World) :
    Calls Try.prog 35 #[.int .i64 s, .int .i64 p, .int .i64 u, .int .i64 k] w fun e w' => e = .returned (.agg #[.int .i64 s, .int .i64 0, .int .i64 2, .bool true, .int .i64 3, .int .i64 (-1), .int .i64 p, .int .i64 u, .int .i64 k]) ∧ Gr w w' := by
  go_enter Try.func35, Try.ntmps35
  go_wp2_with fail
  refine bodyPost_ret (v := .agg #[.int .i64 s, .int .i64 0, .int .i64 2, .bool true, .int .i64 3, .int .i64 (-1), .int .i64 p, .int .i64 u, .int .i64 k]) (by simp [results, Try.results35, go_sem]) rfl ⟨rfl, ?_⟩
  repeat (first | (with_reducible exact Gr.refl _) | (with_reducible assumption) | (with_reducible refine Gr.alloc ?_ _) | (with_reducible refine Gr.drewN ?_ _) | (with_reducible refine Gr.drew ?_) | (with_reducible refine Gr.grown ?_ _ _) | (with_reducible refine Gr.regrown ?_ _ _) | (with_reducible refine Gr.setCell ?_ (by first | omega | (simp; omega) | simp) _) | (with_reducible refine Gr.trans ?_ (by with_reducible assumption)))
set_option maxHeartbeats 400000 in
theorem few_any (n : Nat) (A : Option Addr) (c : Nat) (w : World) :
    Calls Try.prog 11 #[.slice A n c] w fun e w' => e = .returned (.bool (decide ((n : Int) ≤ 70))) ∧ w = w' := by
  go_enter Try.func11, Try.ntmps11
  go_wp2_with fail
  go_ret
  exact ⟨rfl, rfl⟩
theorem rows2 {W : World} {b c : Nat} {x y : Us} (hb : b < W.heap.size) (h : ∀ i v, ((encU x ++ encU y).toArray)[i]? = some v → W.cell? ⟨b, i, none⟩ = some v) : Rows 9 encU W (.slice (some ⟨b, 0, none⟩) 2 c) [x, y] := by
  refine Rows.take hb rfl (fun i z hi j u hj => ?_)
  have hj9 : j < 9 := (List.getElem?_eq_some_iff.1 hj).1
  have hi2 : i < 2 := (List.getElem?_eq_some_iff.1 hi).1
  have hi3 : i = 0 ∨ i = 1 := by omega
  rw [Nat.zero_add]
  apply h
  rw [List.getElem?_toArray]
  rcases hi3 with rfl | rfl
  · simp at hi; subst hi
    rw [Nat.zero_mul, Nat.zero_add, List.getElem?_append_left (by simpa using hj9)]
    exact hj
  · simp at hi; subst hi
    rw [List.getElem?_append_right (by simp)]
    simpa using hj
theorem aw_1 (b c : Nat) (W : World) (hb : b < W.heap.size) (h : ∀ i v, ((encU (mkU 1 16 12 12) ++ encU (mkU 2 16 13 13)).toArray)[i]? = some v → W.cell? ⟨b, i, none⟩ = some v) :
    Calls Try.prog 14 #[.slice (some ⟨b, 0, none⟩) 2 c, .int .i64 0, .int .i64 0, .int .i64 9] W fun e w' => e = .returned (.tuple #[.int .i64 1, .int .i64 1, .int .i64 0]) ∧ Gr W w' :=
  (decideA_any _ [mkU 1 16 12 12, mkU 2 16 13 13] 0 0 9 W (rows2 hb h) (by decide)).mono fun e w' ⟨h, g⟩ => ⟨h.trans (ret_int3 (by decide +kernel) (by decide +kernel) (by decide +kernel)), g⟩
theorem aw_2 (b c : Nat) (W : World) (h : Rows 9 encU W (.slice (some ⟨b, 0, none⟩) 2 c) [mkU 1 20 10 9, mkU 2 20 10 3]) :
    Calls Try.prog 12 #[.slice (some ⟨b, 0, none⟩) 2 c] W fun e w' => e = .returned (.tuple #[.int .i64 1, .bool true]) ∧ Gr W w' :=
  (worst_any _ [mkU 1 20 10 9, mkU 2 20 10 3] W h (by decide)).mono fun e w' ⟨h, g⟩ => ⟨h.trans (ret_ib (by decide +kernel) (by decide +kernel)), g⟩
theorem aw_3 (b c : Nat) (W : World) (h : Rows 9 encU W (.slice (some ⟨b, 0, none⟩) 2 c) [mkU 1 20 10 9, mkU 2 20 10 3]) :
    Calls Try.prog 14 #[.slice (some ⟨b, 0, none⟩) 2 c, .int .i64 0, .int .i64 0, .int .i64 9] W fun e w' => e = .returned (.tuple #[.int .i64 3, .int .i64 1, .int .i64 0]) ∧ Gr W w' :=
  (decideA_any _ [mkU 1 20 10 9, mkU 2 20 10 3] 0 0 9 W h (by decide)).mono fun e w' ⟨h, g⟩ => ⟨h.trans (ret_int3 (by decide +kernel) (by decide +kernel) (by decide +kernel)), g⟩
theorem aw_4 (W : World) : Calls Try.prog 16 #[.int .i64 1, .int .i64 6, .int .i64 0, .int .i64 64] W fun e w' => e = .returned (.tuple #[.int .i64 9, .int .i64 0]) ∧ Gr W w' :=
  (settle_any 1 6 0 64 W).mono fun e w' ⟨h, g⟩ => ⟨h.trans (ret_int2 (by decide +kernel) (by decide +kernel)), g⟩
theorem aw_5 (W : World) : Calls Try.prog 16 #[.int .i64 40, .int .i64 6, .int .i64 0, .int .i64 64] W fun e w' => e = .returned (.tuple #[.int .i64 24, .int .i64 0]) ∧ Gr W w' :=
  (settle_any 40 6 0 64 W).mono fun e w' ⟨h, g⟩ => ⟨h.trans (ret_int2 (by decide +kernel) (by decide +kernel)), g⟩

set_option maxHeartbeats 4000000 in
theorem awake_any (w : World) :
    Calls Try.prog 10 #[] w fun e w' => e = .returned (.bool true) ∧ Gr w w' := by
  go_enter Try.func10, Try.ntmps10
  go_wp2_with fail
  refine (usage_any _ _ _ _ _).mono ?_
  rintro e w1 ⟨rfl, g1⟩
  go_wp2_with fail
  refine (usage_any _ _ _ _ _).mono ?_
  rintro e w2 ⟨rfl, g2⟩
  have G2 : Aside (Gr w w2) := g1.trans g2
  clear g1 g2
  go_wp2_with fail
  refine (aw_1 _ _ _ (by simp) (fun i v hi => by rw [World.cell?_alloc_new]; exact hi)).mono ?_
  rintro e w3 ⟨rfl, g3⟩
  have G3 : Aside (Gr w w3) := (G2.out.alloc _).trans g3
  clear g3
  go_wp2_with fail
  refine (usage_any _ _ _ _ _).mono ?_
  rintro e w4 ⟨rfl, g4⟩
  go_wp2_with fail
  refine (usage_any _ _ _ _ _).mono ?_
  rintro e w5 ⟨rfl, g5⟩
  have G5 : Aside (Gr w w5) := (G3.out.trans g4).trans g5
  clear g4 g5
  go_wp2_with fail
  generalize hW : w5.alloc _ = W
  have R6 : Aside (∀ c, Rows 9 encU W (.slice (some ⟨w5.heap.size, 0, none⟩) 2 c) [mkU 1 20 10 9, mkU 2 20 10 3]) := fun c => rows2 (by rw [← hW]; simp) (fun i v hi => by rw [← hW, World.cell?_alloc_new]; exact hi)
  have G6 : Aside (Gr w W) := by rw [← hW]; exact G5.out.alloc _
  clear hW
  refine (aw_2 _ _ _ (R6.out _)).mono ?_
  rintro e w7 ⟨rfl, g7⟩
  go_wp2_with fail
  refine (aw_3 _ _ _ ((R6.out _).gr g7)).mono ?_
  rintro e w8 ⟨rfl, g8⟩
  have G8 : Aside (Gr w w8) := (G6.out.trans g7).trans g8
  clear g7 g8
  go_wp2_with fail
  refine (aw_4 _).mono ?_
  rintro e w9 ⟨rfl, g9⟩
  go_wp2_with fail
  refine (aw_5 _).mono ?_
  rintro e w10 ⟨rfl, g10⟩
  have G10 : Aside (Gr w w10) := (G8.out.trans g9).trans g10
  clear g9 g10
  go_wp2_with fail
  go_ret
  exact ⟨by first | rfl | simp, G10.out⟩
end Go.Proofs.Ytkhanjhjcfhhiaa
