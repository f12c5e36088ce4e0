/- The contracts of allocate's rules as a slice, of decide and its closure. -/
import Derived.Test.YtkhanjhjcfhhiaaAlcR
import Derived.Test.YtkhanjhjcfhhiaaIndexR
import Derived.Test.YtkhanjhjcfhhiaaHeld
namespace Go.Proofs.Ytkhanjhjcfhhiaa
open Go.RowKit Go.Sort
set_option linter.unusedVariables false

/-- facts lie in a block -/
def FAt (W : World) (B : Nat) (x : Fx) : Prop := ∀ (j : Nat) u, ([.int .i64 x.n, .int .i64 x.bk, .int .i64 x.lo, .int .i64 x.hi, .int .i64 x.us, .int .i64 x.pa, .bool x.w] : List Value)[j]? = some u → W.cell? ⟨B, j, none⟩ = some u
theorem FAt.gr {W W' : World} {B : Nat} {x : Fx} (h : FAt W B x) (g : Gr W W') : FAt W' B x := fun j u hj => held_keep g (h j u hj)
theorem FAt.new (W : World) (x : Fx) (t) : FAt (W.alloc (Obj.cells #[.int .i64 x.n, .int .i64 x.bk, .int .i64 x.lo, .int .i64 x.hi, .int .i64 x.us, .int .i64 x.pa, .bool x.w] t)) W.heap.size x := fun j u hj => by
  rw [World.cell?_alloc_new]
  simpa using hj
theorem lt9 {k : Nat} (h : k < 9) : k = 0 ∨ k = 1 ∨ k = 2 ∨ k = 3 ∨ k = 4 ∨ k = 5 ∨ k = 6 ∨ k = 7 ∨ k = 8 := by omega
def RulesPost (w : World) (e : Ending) (w' : World) : Prop := ∃ v, e = .returned v ∧ Rows 3 encR w' v (List.range 9) ∧ Gr w w'

set_option maxHeartbeats 1000000 in
theorem decide1_any (k : Nat) (hk : k < 9) (x : Fx) (hx : FxB x) (B : Nat) (W : World) (hB : FAt W B x) :
    Calls Try.prog 48 #[.agg #[rv0 k, .int .i64 (Al.rk k), rv2 k], .pointer (some ⟨B, 0, none⟩)] W fun e w' => e = .returned (.bool (Al.rp x k)) ∧ Gr W w' := by
  have f0 := hB 0 _ rfl
  have f1 := hB 1 _ rfl
  have f2 := hB 2 _ rfl
  have f3 := hB 3 _ rfl
  have f4 := hB 4 _ rfl
  have f5 := hB 5 _ rfl
  have f6 := hB 6 _ rfl
  have hbl : B < W.heap.size := block_lt_of_cell f0
  clear hB
  rcases lt9 hk with rfl | rfl | rfl | rfl | rfl | rfl | rfl | rfl | rfl
  · clear hk
    simp only [rv0, rv2, Al.rk]
    have R := fun W => rule0_any x hx W
    go_enter Try.func48, Try.ntmps48
    go_wp2_with fail
    refine (R _).mono ?_
    rintro e w1 ⟨rfl, g1⟩
    go_wp2_with fail
    go_ret
    exact ⟨rfl, by repeat (first | (with_reducible exact Gr.refl _) | (with_reducible assumption) | (with_reducible refine Gr.alloc ?_ _) | (with_reducible refine Gr.drewN ?_ _) | (with_reducible refine Gr.drew ?_) | (with_reducible refine Gr.grown ?_ _ _) | (with_reducible refine Gr.regrown ?_ _ _) | (with_reducible refine Gr.setCell ?_ (by first | omega | (simp; omega) | simp) _) | (with_reducible refine Gr.trans ?_ (by with_reducible assumption)))⟩
  · clear hk
    simp only [rv0, rv2, Al.rk]
    have R := fun W => rule1_any x hx W
    go_enter Try.func48, Try.ntmps48
    go_wp2_with fail
    refine (R _).mono ?_
    rintro e w1 ⟨rfl, g1⟩
    go_wp2_with fail
    go_ret
    exact ⟨rfl, by repeat (first | (with_reducible exact Gr.refl _) | (with_reducible assumption) | (with_reducible refine Gr.alloc ?_ _) | (with_reducible refine Gr.drewN ?_ _) | (with_reducible refine Gr.drew ?_) | (with_reducible refine Gr.grown ?_ _ _) | (with_reducible refine Gr.regrown ?_ _ _) | (with_reducible refine Gr.setCell ?_ (by first | omega | (simp; omega) | simp) _) | (with_reducible refine Gr.trans ?_ (by with_reducible assumption)))⟩
  · clear hk
    simp only [rv0, rv2, Al.rk]
    have R := fun W => rule2_any x hx W
    go_enter Try.func48, Try.ntmps48
    go_wp2_with fail
    refine (R _).mono ?_
    rintro e w1 ⟨rfl, g1⟩
    go_wp2_with fail
    go_ret
    exact ⟨rfl, by repeat (first | (with_reducible exact Gr.refl _) | (with_reducible assumption) | (with_reducible refine Gr.alloc ?_ _) | (with_reducible refine Gr.drewN ?_ _) | (with_reducible refine Gr.drew ?_) | (with_reducible refine Gr.grown ?_ _ _) | (with_reducible refine Gr.regrown ?_ _ _) | (with_reducible refine Gr.setCell ?_ (by first | omega | (simp; omega) | simp) _) | (with_reducible refine Gr.trans ?_ (by with_reducible assumption)))⟩
  · clear hk
    simp only [rv0, rv2, Al.rk]
    have R := fun W => rule3_any x hx W
    go_enter Try.func48, Try.ntmps48
    go_wp2_with fail
    refine (R _).mono ?_
    rintro e w1 ⟨rfl, g1⟩
    go_wp2_with fail
    go_ret
    exact ⟨rfl, by repeat (first | (with_reducible exact Gr.refl _) | (with_reducible assumption) | (with_reducible refine Gr.alloc ?_ _) | (with_reducible refine Gr.drewN ?_ _) | (with_reducible refine Gr.drew ?_) | (with_reducible refine Gr.grown ?_ _ _) | (with_reducible refine Gr.regrown ?_ _ _) | (with_reducible refine Gr.setCell ?_ (by first | omega | (simp; omega) | simp) _) | (with_reducible refine Gr.trans ?_ (by with_reducible assumption)))⟩
  · clear hk
    simp only [rv0, rv2, Al.rk]
    have R := fun W => rule4_any x hx W
    go_enter Try.func48, Try.ntmps48
    go_wp2_with fail
    refine (R _).mono ?_
    rintro e w1 ⟨rfl, g1⟩
    go_wp2_with fail
    go_ret
    exact ⟨rfl, by repeat (first | (with_reducible exact Gr.refl _) | (with_reducible assumption) | (with_reducible refine Gr.alloc ?_ _) | (with_reducible refine Gr.drewN ?_ _) | (with_reducible refine Gr.drew ?_) | (with_reducible refine Gr.grown ?_ _ _) | (with_reducible refine Gr.regrown ?_ _ _) | (with_reducible refine Gr.setCell ?_ (by first | omega | (simp; omega) | simp) _) | (with_reducible refine Gr.trans ?_ (by with_reducible assumption)))⟩
  · clear hk
    simp only [rv0, rv2, Al.rk]
    have R := fun W => rule5_any x hx W
    go_enter Try.func48, Try.ntmps48
    go_wp2_with fail
    refine (R _).mono ?_
    rintro e w1 ⟨rfl, g1⟩
    go_wp2_with fail
    go_ret
    exact ⟨rfl, by repeat (first | (with_reducible exact Gr.refl _) | (with_reducible assumption) | (with_reducible refine Gr.alloc ?_ _) | (with_reducible refine Gr.drewN ?_ _) | (with_reducible refine Gr.drew ?_) | (with_reducible refine Gr.grown ?_ _ _) | (with_reducible refine Gr.regrown ?_ _ _) | (with_reducible refine Gr.setCell ?_ (by first | omega | (simp; omega) | simp) _) | (with_reducible refine Gr.trans ?_ (by with_reducible assumption)))⟩
  · clear hk
    simp only [rv0, rv2, Al.rk]
    have R := fun W => rule6_any x hx W
    go_enter Try.func48, Try.ntmps48
    go_wp2_with fail
    refine (R _).mono ?_
    rintro e w1 ⟨rfl, g1⟩
    go_wp2_with fail
    go_ret
    exact ⟨rfl, by repeat (first | (with_reducible exact Gr.refl _) | (with_reducible assumption) | (with_reducible refine Gr.alloc ?_ _) | (with_reducible refine Gr.drewN ?_ _) | (with_reducible refine Gr.drew ?_) | (with_reducible refine Gr.grown ?_ _ _) | (with_reducible refine Gr.regrown ?_ _ _) | (with_reducible refine Gr.setCell ?_ (by first | omega | (simp; omega) | simp) _) | (with_reducible refine Gr.trans ?_ (by with_reducible assumption)))⟩
  · clear hk
    simp only [rv0, rv2, Al.rk]
    have R := fun W => rule7_any x hx W
    go_enter Try.func48, Try.ntmps48
    go_wp2_with fail
    refine (R _).mono ?_
    rintro e w1 ⟨rfl, g1⟩
    go_wp2_with fail
    go_ret
    exact ⟨rfl, by repeat (first | (with_reducible exact Gr.refl _) | (with_reducible assumption) | (with_reducible refine Gr.alloc ?_ _) | (with_reducible refine Gr.drewN ?_ _) | (with_reducible refine Gr.drew ?_) | (with_reducible refine Gr.grown ?_ _ _) | (with_reducible refine Gr.regrown ?_ _ _) | (with_reducible refine Gr.setCell ?_ (by first | omega | (simp; omega) | simp) _) | (with_reducible refine Gr.trans ?_ (by with_reducible assumption)))⟩
  · clear hk
    simp only [rv0, rv2, Al.rk]
    have R := fun W => rule8_any x hx W
    go_enter Try.func48, Try.ntmps48
    go_wp2_with fail
    refine (R _).mono ?_
    rintro e w1 ⟨rfl, g1⟩
    go_wp2_with fail
    go_ret
    exact ⟨rfl, by repeat (first | (with_reducible exact Gr.refl _) | (with_reducible assumption) | (with_reducible refine Gr.alloc ?_ _) | (with_reducible refine Gr.drewN ?_ _) | (with_reducible refine Gr.drew ?_) | (with_reducible refine Gr.grown ?_ _ _) | (with_reducible refine Gr.regrown ?_ _ _) | (with_reducible refine Gr.setCell ?_ (by first | omega | (simp; omega) | simp) _) | (with_reducible refine Gr.trans ?_ (by with_reducible assumption)))⟩

set_option maxHeartbeats 1000000 in
theorem rules_any (w : World) : Calls Try.prog 46 #[] w (RulesPost w) := by
  go_enter Try.func46, Try.ntmps46
  go_wp2_with fail
  go_ret
  refine ⟨_, rfl, Rows.take (by simp) (by simp) (fun i y hi j u hj => ?_), by repeat (first | (with_reducible exact Gr.refl _) | (with_reducible assumption) | (with_reducible refine Gr.alloc ?_ _) | (with_reducible refine Gr.drewN ?_ _) | (with_reducible refine Gr.drew ?_) | (with_reducible refine Gr.grown ?_ _ _) | (with_reducible refine Gr.regrown ?_ _ _) | (with_reducible refine Gr.setCell ?_ (by first | omega | (simp; omega) | simp) _) | (with_reducible refine Gr.trans ?_ (by with_reducible assumption)))⟩
  have hi2 : i < 9 := by
    have := (List.getElem?_eq_some_iff.1 hi).1
    simpa using this
  have hj2 : j < 3 := (List.getElem?_eq_some_iff.1 hj).1
  rw [List.getElem?_range hi2] at hi
  simp only [Option.some.injEq] at hi
  subst hi
  rw [World.cell?_alloc_new, Nat.zero_add, ← hj]
  have hj3 : j = 0 ∨ j = 1 ∨ j = 2 := by omega
  rcases lt9 hi2 with rfl | rfl | rfl | rfl | rfl | rfl | rfl | rfl | rfl <;> rcases hj3 with rfl | rfl | rfl <;> rfl

theorem ixL_ri (x : Fx) : ixL (Al.rp x) (List.range 9) = Al.ri x := by
  have h := Al.ri_hit x
  have hl := Al.ri_lt x
  refine (ixL_hit (x := Al.ri x) (by rw [List.getElem?_range hl]) h.1 (fun j hj y hy => ?_)).1
  rw [List.getElem?_range (by omega)] at hy
  simp only [Option.some.injEq] at hy
  subst hy
  exact h.2 j hj

set_option maxHeartbeats 2000000 in
theorem decide_any (x : Fx) (hx : FxB x) (w : World) :
    Calls Try.prog 41 #[.agg #[.int .i64 x.n, .int .i64 x.bk, .int .i64 x.lo, .int .i64 x.hi, .int .i64 x.us, .int .i64 x.pa, .bool x.w]] w fun e w' => e = .returned (.tuple #[.int .i64 (Al.dk x), .int .i64 (Al.dc x)]) ∧ Gr w w' := by
  go_enter Try.func41, Try.ntmps41
  go_wp2_with fail
  have F0 : Aside (FAt (w.alloc (Obj.cells #[.int .i64 x.n, .int .i64 x.bk, .int .i64 x.lo, .int .i64 x.hi, .int .i64 x.us, .int .i64 x.pa, .bool x.w] 60)) w.heap.size x) := FAt.new _ _ _
  refine (rules_any _).mono ?_
  rintro e w1 ⟨v, rfl, hv, g1⟩
  have G1 : Aside (Gr w w1) := (Gr.alloc (Gr.refl w) _).trans g1
  have F1 : Aside (FAt w1 w.heap.size x) := F0.out.gr g1
  obtain ⟨A, c, rfl⟩ := hv.slice
  have HV : Aside (Rows 3 encR w1 (.slice A 9 c) (List.range 9)) := hv
  have hsz : w.heap.size < w1.heap.size := by have := g1.size; simp at this; omega
  have HS := Lib.hid hsz
  clear hv g1 F0
  go_wp2_with fail
  refine (indexR_any 48 #[.pointer (some ⟨w.heap.size, 0, none⟩)] (Al.rp x) _ (List.range 9) w1 HV.out (by simp) (enters_of Try.func48 (by kernel_rfl) rfl) (fun W i y g hy => ?_)).mono ?_
  · have hy2 : y < 9 := by
      have hi := (List.getElem?_eq_some_iff.1 hy).1
      rw [List.getElem?_range (by simpa using hi)] at hy
      simp only [Option.some.injEq] at hy
      subst hy
      simpa using hi
    exact decide1_any y hy2 x hx w.heap.size W (F1.out.gr g)
  rintro e w2 ⟨rfl, g2⟩
  rw [ixL_ri]
  have G2 : Aside (Gr w w2) := G1.out.trans g2
  have F2 : Aside (FAt w2 w.heap.size x) := F1.out.gr g2
  have HV2 := HV.out.gr g2
  have HK := Lib.hid (Al.ri_lt x)
  have HR := Lib.hid (Al.ri_hit x).1
  have D : Hid (Al.dk x = Al.rk (Al.ri x) ∧ Al.dc x = Al.rc x (Al.ri x)) := (show _ ∧ _ from ⟨rfl, rfl⟩)
  generalize Al.ri x = k at HK HR D ⊢
  rcases HV2 with ⟨h0, _⟩ | ⟨b, off, c', hb, hv, hc⟩
  · exact absurd h0 (by simp)
  simp only [Value.slice.injEq, List.length_range] at hv
  obtain ⟨rfl, -, rfl⟩ := hv
  have l0 := hc k k (by rw [List.getElem?_range HK.out]) 0 _ rfl
  have l1 := hc k k (by rw [List.getElem?_range HK.out]) 1 _ rfl
  have l2 := hc k k (by rw [List.getElem?_range HK.out]) 2 _ rfl
  simp only [Nat.add_zero] at l0
  have k0 : (k : Int) < 9 := by have := HK.out; omega
  have hsz2 : w.heap.size < w2.heap.size := by have := HS.out; have := g2.size; omega
  have HS2 := Lib.hid hsz2
  clear hc g2 hsz2
  rcases lt9 HK.out with rfl | rfl | rfl | rfl | rfl | rfl | rfl | rfl | rfl
  · simp only [rv0, rv2, Al.rk, Nat.zero_mul, Nat.add_zero] at l0 l1 l2 D ⊢
    go_wp2_with fail
    have mixed : Try.prog.follows .mixedOrders = true := by kernel_rfl
    generalize hW3 : w2.alloc (Obj.cells #[.func (.func 51) #[] #[], .int .i64 1, .func (.func 52) #[] #[]] 69) = W3
    have G3 : Aside (Gr w W3) := by rw [← hW3]; exact Gr.alloc G2.out _
    have F3 : Aside (FAt W3 w.heap.size x) := by rw [← hW3]; exact F2.out.gr (Gr.alloc (Gr.refl _) _)
    have b1 : W3.cell? ⟨w2.heap.size, 1, none⟩ = some (.int .i64 1) := by rw [← hW3, World.cell?_alloc_new]; rfl
    have b2 : W3.cell? ⟨w2.heap.size, 2, none⟩ = some (.func (.func 52) #[] #[]) := by rw [← hW3, World.cell?_alloc_new]; rfl
    clear hW3 l0 l1 l2
    have d1 := fun dq oq => cell_regrown b1 dq oq
    have d2 := fun dq oq => cell_regrown b2 dq oq
    have e0 := fun dq oq => cell_regrown (F3.out 0 _ rfl) dq oq
    have e1 := fun dq oq => cell_regrown (F3.out 1 _ rfl) dq oq
    have e2 := fun dq oq => cell_regrown (F3.out 2 _ rfl) dq oq
    have e3 := fun dq oq => cell_regrown (F3.out 3 _ rfl) dq oq
    have e4 := fun dq oq => cell_regrown (F3.out 4 _ rfl) dq oq
    have e5 := fun dq oq => cell_regrown (F3.out 5 _ rfl) dq oq
    have e6 := fun dq oq => cell_regrown (F3.out 6 _ rfl) dq oq
    clear b1 b2
    refine wp_region_quiet_below (by assumption) (by kernel_rfl) ?_; (repeat (first | go_big_quiet_skip | quiet_step ((first | (go_at_call 52; with_reducible exact Gr.meet (count4_any x hx HR.out _)))))); refine wpQuiet_nil ?_; intro _ hw'; obtain ⟨⟨nq, osq⟩, hw''⟩ := hw'; subst hw''
    go_wp2_with fail
    go_ret2
    exact ⟨ret_int2 D.out.1.symm D.out.2.symm, by have hgg := G3.out; repeat (first | (with_reducible exact Gr.refl _) | (with_reducible assumption) | (with_reducible refine Gr.alloc ?_ _) | (with_reducible refine Gr.drewN ?_ _) | (with_reducible refine Gr.drew ?_) | (with_reducible refine Gr.grown ?_ _ _) | (with_reducible refine Gr.regrown ?_ _ _) | (with_reducible refine Gr.setCell ?_ (by first | omega | (simp; omega) | simp) _) | (with_reducible refine Gr.trans ?_ (by with_reducible assumption)))⟩
  · simp only [rv0, rv2, Al.rk] at l0 l1 l2 D ⊢
    go_wp2_with fail
    have mixed : Try.prog.follows .mixedOrders = true := by kernel_rfl
    generalize hW3 : w2.alloc (Obj.cells #[.func (.func 53) #[] #[], .int .i64 1, .func (.func 49) #[] #[]] 69) = W3
    have G3 : Aside (Gr w W3) := by rw [← hW3]; exact Gr.alloc G2.out _
    have F3 : Aside (FAt W3 w.heap.size x) := by rw [← hW3]; exact F2.out.gr (Gr.alloc (Gr.refl _) _)
    have b1 : W3.cell? ⟨w2.heap.size, 1, none⟩ = some (.int .i64 1) := by rw [← hW3, World.cell?_alloc_new]; rfl
    have b2 : W3.cell? ⟨w2.heap.size, 2, none⟩ = some (.func (.func 49) #[] #[]) := by rw [← hW3, World.cell?_alloc_new]; rfl
    clear hW3 l0 l1 l2
    have d1 := fun dq oq => cell_regrown b1 dq oq
    have d2 := fun dq oq => cell_regrown b2 dq oq
    have e0 := fun dq oq => cell_regrown (F3.out 0 _ rfl) dq oq
    have e1 := fun dq oq => cell_regrown (F3.out 1 _ rfl) dq oq
    have e2 := fun dq oq => cell_regrown (F3.out 2 _ rfl) dq oq
    have e3 := fun dq oq => cell_regrown (F3.out 3 _ rfl) dq oq
    have e4 := fun dq oq => cell_regrown (F3.out 4 _ rfl) dq oq
    have e5 := fun dq oq => cell_regrown (F3.out 5 _ rfl) dq oq
    have e6 := fun dq oq => cell_regrown (F3.out 6 _ rfl) dq oq
    clear b1 b2
    refine wp_region_quiet_below (by assumption) (by kernel_rfl) ?_; (repeat (first | go_big_quiet_skip | quiet_step ((first | (go_at_call 49; with_reducible exact Gr.meet (count1_any x _)))))); refine wpQuiet_nil ?_; intro _ hw'; obtain ⟨⟨nq, osq⟩, hw''⟩ := hw'; subst hw''
    go_wp2_with fail
    go_ret2
    exact ⟨ret_int2 D.out.1.symm D.out.2.symm, by have hgg := G3.out; repeat (first | (with_reducible exact Gr.refl _) | (with_reducible assumption) | (with_reducible refine Gr.alloc ?_ _) | (with_reducible refine Gr.drewN ?_ _) | (with_reducible refine Gr.drew ?_) | (with_reducible refine Gr.grown ?_ _ _) | (with_reducible refine Gr.regrown ?_ _ _) | (with_reducible refine Gr.setCell ?_ (by first | omega | (simp; omega) | simp) _) | (with_reducible refine Gr.trans ?_ (by with_reducible assumption)))⟩
  · simp only [rv0, rv2, Al.rk] at l0 l1 l2 D ⊢
    go_wp2_with fail
    have mixed : Try.prog.follows .mixedOrders = true := by kernel_rfl
    generalize hW3 : w2.alloc (Obj.cells #[.func (.func 54) #[] #[], .int .i64 0, .func (.func 50) #[] #[]] 69) = W3
    have G3 : Aside (Gr w W3) := by rw [← hW3]; exact Gr.alloc G2.out _
    have F3 : Aside (FAt W3 w.heap.size x) := by rw [← hW3]; exact F2.out.gr (Gr.alloc (Gr.refl _) _)
    have b1 : W3.cell? ⟨w2.heap.size, 1, none⟩ = some (.int .i64 0) := by rw [← hW3, World.cell?_alloc_new]; rfl
    have b2 : W3.cell? ⟨w2.heap.size, 2, none⟩ = some (.func (.func 50) #[] #[]) := by rw [← hW3, World.cell?_alloc_new]; rfl
    clear hW3 l0 l1 l2
    have d1 := fun dq oq => cell_regrown b1 dq oq
    have d2 := fun dq oq => cell_regrown b2 dq oq
    have e0 := fun dq oq => cell_regrown (F3.out 0 _ rfl) dq oq
    have e1 := fun dq oq => cell_regrown (F3.out 1 _ rfl) dq oq
    have e2 := fun dq oq => cell_regrown (F3.out 2 _ rfl) dq oq
    have e3 := fun dq oq => cell_regrown (F3.out 3 _ rfl) dq oq
    have e4 := fun dq oq => cell_regrown (F3.out 4 _ rfl) dq oq
    have e5 := fun dq oq => cell_regrown (F3.out 5 _ rfl) dq oq
    have e6 := fun dq oq => cell_regrown (F3.out 6 _ rfl) dq oq
    clear b1 b2
    refine wp_region_quiet_below (by assumption) (by kernel_rfl) ?_; (repeat (first | go_big_quiet_skip | quiet_step ((first | (go_at_call 50; with_reducible exact Gr.meet (count2_any x _)))))); refine wpQuiet_nil ?_; intro _ hw'; obtain ⟨⟨nq, osq⟩, hw''⟩ := hw'; subst hw''
    go_wp2_with fail
    go_ret2
    exact ⟨ret_int2 D.out.1.symm D.out.2.symm, by have hgg := G3.out; repeat (first | (with_reducible exact Gr.refl _) | (with_reducible assumption) | (with_reducible refine Gr.alloc ?_ _) | (with_reducible refine Gr.drewN ?_ _) | (with_reducible refine Gr.drew ?_) | (with_reducible refine Gr.grown ?_ _ _) | (with_reducible refine Gr.regrown ?_ _ _) | (with_reducible refine Gr.setCell ?_ (by first | omega | (simp; omega) | simp) _) | (with_reducible refine Gr.trans ?_ (by with_reducible assumption)))⟩
  · simp only [rv0, rv2, Al.rk] at l0 l1 l2 D ⊢
    go_wp2_with fail
    have mixed : Try.prog.follows .mixedOrders = true := by kernel_rfl
    generalize hW3 : w2.alloc (Obj.cells #[.func (.func 55) #[] #[], .int .i64 1, .func (.func 56) #[] #[]] 69) = W3
    have G3 : Aside (Gr w W3) := by rw [← hW3]; exact Gr.alloc G2.out _
    have F3 : Aside (FAt W3 w.heap.size x) := by rw [← hW3]; exact F2.out.gr (Gr.alloc (Gr.refl _) _)
    have b1 : W3.cell? ⟨w2.heap.size, 1, none⟩ = some (.int .i64 1) := by rw [← hW3, World.cell?_alloc_new]; rfl
    have b2 : W3.cell? ⟨w2.heap.size, 2, none⟩ = some (.func (.func 56) #[] #[]) := by rw [← hW3, World.cell?_alloc_new]; rfl
    clear hW3 l0 l1 l2
    have d1 := fun dq oq => cell_regrown b1 dq oq
    have d2 := fun dq oq => cell_regrown b2 dq oq
    have e0 := fun dq oq => cell_regrown (F3.out 0 _ rfl) dq oq
    have e1 := fun dq oq => cell_regrown (F3.out 1 _ rfl) dq oq
    have e2 := fun dq oq => cell_regrown (F3.out 2 _ rfl) dq oq
    have e3 := fun dq oq => cell_regrown (F3.out 3 _ rfl) dq oq
    have e4 := fun dq oq => cell_regrown (F3.out 4 _ rfl) dq oq
    have e5 := fun dq oq => cell_regrown (F3.out 5 _ rfl) dq oq
    have e6 := fun dq oq => cell_regrown (F3.out 6 _ rfl) dq oq
    clear b1 b2
    refine wp_region_quiet_below (by assumption) (by kernel_rfl) ?_; (repeat (first | go_big_quiet_skip | quiet_step ((first | (go_at_call 56; with_reducible exact Gr.meet (count8_any x hx HR.out _)))))); refine wpQuiet_nil ?_; intro _ hw'; obtain ⟨⟨nq, osq⟩, hw''⟩ := hw'; subst hw''
    go_wp2_with fail
    go_ret2
    exact ⟨ret_int2 D.out.1.symm D.out.2.symm, by have hgg := G3.out; repeat (first | (with_reducible exact Gr.refl _) | (with_reducible assumption) | (with_reducible refine Gr.alloc ?_ _) | (with_reducible refine Gr.drewN ?_ _) | (with_reducible refine Gr.drew ?_) | (with_reducible refine Gr.grown ?_ _ _) | (with_reducible refine Gr.regrown ?_ _ _) | (with_reducible refine Gr.setCell ?_ (by first | omega | (simp; omega) | simp) _) | (with_reducible refine Gr.trans ?_ (by with_reducible assumption)))⟩
  · simp only [rv0, rv2, Al.rk] at l0 l1 l2 D ⊢
    go_wp2_with fail
    have mixed : Try.prog.follows .mixedOrders = true := by kernel_rfl
    generalize hW3 : w2.alloc (Obj.cells #[.func (.func 57) #[] #[], .int .i64 0, .func (.func 50) #[] #[]] 69) = W3
    have G3 : Aside (Gr w W3) := by rw [← hW3]; exact Gr.alloc G2.out _
    have F3 : Aside (FAt W3 w.heap.size x) := by rw [← hW3]; exact F2.out.gr (Gr.alloc (Gr.refl _) _)
    have b1 : W3.cell? ⟨w2.heap.size, 1, none⟩ = some (.int .i64 0) := by rw [← hW3, World.cell?_alloc_new]; rfl
    have b2 : W3.cell? ⟨w2.heap.size, 2, none⟩ = some (.func (.func 50) #[] #[]) := by rw [← hW3, World.cell?_alloc_new]; rfl
    clear hW3 l0 l1 l2
    have d1 := fun dq oq => cell_regrown b1 dq oq
    have d2 := fun dq oq => cell_regrown b2 dq oq
    have e0 := fun dq oq => cell_regrown (F3.out 0 _ rfl) dq oq
    have e1 := fun dq oq => cell_regrown (F3.out 1 _ rfl) dq oq
    have e2 := fun dq oq => cell_regrown (F3.out 2 _ rfl) dq oq
    have e3 := fun dq oq => cell_regrown (F3.out 3 _ rfl) dq oq
    have e4 := fun dq oq => cell_regrown (F3.out 4 _ rfl) dq oq
    have e5 := fun dq oq => cell_regrown (F3.out 5 _ rfl) dq oq
    have e6 := fun dq oq => cell_regrown (F3.out 6 _ rfl) dq oq
    clear b1 b2
    refine wp_region_quiet_below (by assumption) (by kernel_rfl) ?_; (repeat (first | go_big_quiet_skip | quiet_step ((first | (go_at_call 50; with_reducible exact Gr.meet (count2_any x _)))))); refine wpQuiet_nil ?_; intro _ hw'; obtain ⟨⟨nq, osq⟩, hw''⟩ := hw'; subst hw''
    go_wp2_with fail
    go_ret2
    exact ⟨ret_int2 D.out.1.symm D.out.2.symm, by have hgg := G3.out; repeat (first | (with_reducible exact Gr.refl _) | (with_reducible assumption) | (with_reducible refine Gr.alloc ?_ _) | (with_reducible refine Gr.drewN ?_ _) | (with_reducible refine Gr.drew ?_) | (with_reducible refine Gr.grown ?_ _ _) | (with_reducible refine Gr.regrown ?_ _ _) | (with_reducible refine Gr.setCell ?_ (by first | omega | (simp; omega) | simp) _) | (with_reducible refine Gr.trans ?_ (by with_reducible assumption)))⟩
  · simp only [rv0, rv2, Al.rk] at l0 l1 l2 D ⊢
    go_wp2_with fail
    have mixed : Try.prog.follows .mixedOrders = true := by kernel_rfl
    generalize hW3 : w2.alloc (Obj.cells #[.func (.func 58) #[] #[], .int .i64 1, .func (.func 49) #[] #[]] 69) = W3
    have G3 : Aside (Gr w W3) := by rw [← hW3]; exact Gr.alloc G2.out _
    have F3 : Aside (FAt W3 w.heap.size x) := by rw [← hW3]; exact F2.out.gr (Gr.alloc (Gr.refl _) _)
    have b1 : W3.cell? ⟨w2.heap.size, 1, none⟩ = some (.int .i64 1) := by rw [← hW3, World.cell?_alloc_new]; rfl
    have b2 : W3.cell? ⟨w2.heap.size, 2, none⟩ = some (.func (.func 49) #[] #[]) := by rw [← hW3, World.cell?_alloc_new]; rfl
    clear hW3 l0 l1 l2
    have d1 := fun dq oq => cell_regrown b1 dq oq
    have d2 := fun dq oq => cell_regrown b2 dq oq
    have e0 := fun dq oq => cell_regrown (F3.out 0 _ rfl) dq oq
    have e1 := fun dq oq => cell_regrown (F3.out 1 _ rfl) dq oq
    have e2 := fun dq oq => cell_regrown (F3.out 2 _ rfl) dq oq
    have e3 := fun dq oq => cell_regrown (F3.out 3 _ rfl) dq oq
    have e4 := fun dq oq => cell_regrown (F3.out 4 _ rfl) dq oq
    have e5 := fun dq oq => cell_regrown (F3.out 5 _ rfl) dq oq
    have e6 := fun dq oq => cell_regrown (F3.out 6 _ rfl) dq oq
    clear b1 b2
    refine wp_region_quiet_below (by assumption) (by kernel_rfl) ?_; (repeat (first | go_big_quiet_skip | quiet_step ((first | (go_at_call 49; with_reducible exact Gr.meet (count1_any x _)))))); refine wpQuiet_nil ?_; intro _ hw'; obtain ⟨⟨nq, osq⟩, hw''⟩ := hw'; subst hw''
    go_wp2_with fail
    go_ret2
    exact ⟨ret_int2 D.out.1.symm D.out.2.symm, by have hgg := G3.out; repeat (first | (with_reducible exact Gr.refl _) | (with_reducible assumption) | (with_reducible refine Gr.alloc ?_ _) | (with_reducible refine Gr.drewN ?_ _) | (with_reducible refine Gr.drew ?_) | (with_reducible refine Gr.grown ?_ _ _) | (with_reducible refine Gr.regrown ?_ _ _) | (with_reducible refine Gr.setCell ?_ (by first | omega | (simp; omega) | simp) _) | (with_reducible refine Gr.trans ?_ (by with_reducible assumption)))⟩
  · simp only [rv0, rv2, Al.rk] at l0 l1 l2 D ⊢
    go_wp2_with fail
    have mixed : Try.prog.follows .mixedOrders = true := by kernel_rfl
    generalize hW3 : w2.alloc (Obj.cells #[.func (.func 59) #[] #[], .int .i64 2, .func (.func 49) #[] #[]] 69) = W3
    have G3 : Aside (Gr w W3) := by rw [← hW3]; exact Gr.alloc G2.out _
    have F3 : Aside (FAt W3 w.heap.size x) := by rw [← hW3]; exact F2.out.gr (Gr.alloc (Gr.refl _) _)
    have b1 : W3.cell? ⟨w2.heap.size, 1, none⟩ = some (.int .i64 2) := by rw [← hW3, World.cell?_alloc_new]; rfl
    have b2 : W3.cell? ⟨w2.heap.size, 2, none⟩ = some (.func (.func 49) #[] #[]) := by rw [← hW3, World.cell?_alloc_new]; rfl
    clear hW3 l0 l1 l2
    have d1 := fun dq oq => cell_regrown b1 dq oq
    have d2 := fun dq oq => cell_regrown b2 dq oq
    have e0 := fun dq oq => cell_regrown (F3.out 0 _ rfl) dq oq
    have e1 := fun dq oq => cell_regrown (F3.out 1 _ rfl) dq oq
    have e2 := fun dq oq => cell_regrown (F3.out 2 _ rfl) dq oq
    have e3 := fun dq oq => cell_regrown (F3.out 3 _ rfl) dq oq
    have e4 := fun dq oq => cell_regrown (F3.out 4 _ rfl) dq oq
    have e5 := fun dq oq => cell_regrown (F3.out 5 _ rfl) dq oq
    have e6 := fun dq oq => cell_regrown (F3.out 6 _ rfl) dq oq
    clear b1 b2
    refine wp_region_quiet_below (by assumption) (by kernel_rfl) ?_; (repeat (first | go_big_quiet_skip | quiet_step ((first | (go_at_call 49; with_reducible exact Gr.meet (count1_any x _)))))); refine wpQuiet_nil ?_; intro _ hw'; obtain ⟨⟨nq, osq⟩, hw''⟩ := hw'; subst hw''
    go_wp2_with fail
    go_ret2
    exact ⟨ret_int2 D.out.1.symm D.out.2.symm, by have hgg := G3.out; repeat (first | (with_reducible exact Gr.refl _) | (with_reducible assumption) | (with_reducible refine Gr.alloc ?_ _) | (with_reducible refine Gr.drewN ?_ _) | (with_reducible refine Gr.drew ?_) | (with_reducible refine Gr.grown ?_ _ _) | (with_reducible refine Gr.regrown ?_ _ _) | (with_reducible refine Gr.setCell ?_ (by first | omega | (simp; omega) | simp) _) | (with_reducible refine Gr.trans ?_ (by with_reducible assumption)))⟩
  · simp only [rv0, rv2, Al.rk] at l0 l1 l2 D ⊢
    go_wp2_with fail
    have mixed : Try.prog.follows .mixedOrders = true := by kernel_rfl
    generalize hW3 : w2.alloc (Obj.cells #[.func (.func 60) #[] #[], .int .i64 3, .func (.func 49) #[] #[]] 69) = W3
    have G3 : Aside (Gr w W3) := by rw [← hW3]; exact Gr.alloc G2.out _
    have F3 : Aside (FAt W3 w.heap.size x) := by rw [← hW3]; exact F2.out.gr (Gr.alloc (Gr.refl _) _)
    have b1 : W3.cell? ⟨w2.heap.size, 1, none⟩ = some (.int .i64 3) := by rw [← hW3, World.cell?_alloc_new]; rfl
    have b2 : W3.cell? ⟨w2.heap.size, 2, none⟩ = some (.func (.func 49) #[] #[]) := by rw [← hW3, World.cell?_alloc_new]; rfl
    clear hW3 l0 l1 l2
    have d1 := fun dq oq => cell_regrown b1 dq oq
    have d2 := fun dq oq => cell_regrown b2 dq oq
    have e0 := fun dq oq => cell_regrown (F3.out 0 _ rfl) dq oq
    have e1 := fun dq oq => cell_regrown (F3.out 1 _ rfl) dq oq
    have e2 := fun dq oq => cell_regrown (F3.out 2 _ rfl) dq oq
    have e3 := fun dq oq => cell_regrown (F3.out 3 _ rfl) dq oq
    have e4 := fun dq oq => cell_regrown (F3.out 4 _ rfl) dq oq
    have e5 := fun dq oq => cell_regrown (F3.out 5 _ rfl) dq oq
    have e6 := fun dq oq => cell_regrown (F3.out 6 _ rfl) dq oq
    clear b1 b2
    refine wp_region_quiet_below (by assumption) (by kernel_rfl) ?_; (repeat (first | go_big_quiet_skip | quiet_step ((first | (go_at_call 49; with_reducible exact Gr.meet (count1_any x _)))))); refine wpQuiet_nil ?_; intro _ hw'; obtain ⟨⟨nq, osq⟩, hw''⟩ := hw'; subst hw''
    go_wp2_with fail
    go_ret2
    exact ⟨ret_int2 D.out.1.symm D.out.2.symm, by have hgg := G3.out; repeat (first | (with_reducible exact Gr.refl _) | (with_reducible assumption) | (with_reducible refine Gr.alloc ?_ _) | (with_reducible refine Gr.drewN ?_ _) | (with_reducible refine Gr.drew ?_) | (with_reducible refine Gr.grown ?_ _ _) | (with_reducible refine Gr.regrown ?_ _ _) | (with_reducible refine Gr.setCell ?_ (by first | omega | (simp; omega) | simp) _) | (with_reducible refine Gr.trans ?_ (by with_reducible assumption)))⟩
  · simp only [rv0, rv2, Al.rk] at l0 l1 l2 D ⊢
    go_wp2_with fail
    have mixed : Try.prog.follows .mixedOrders = true := by kernel_rfl
    generalize hW3 : w2.alloc (Obj.cells #[.func (.func 61) #[] #[], .int .i64 0, .func (.func 50) #[] #[]] 69) = W3
    have G3 : Aside (Gr w W3) := by rw [← hW3]; exact Gr.alloc G2.out _
    have F3 : Aside (FAt W3 w.heap.size x) := by rw [← hW3]; exact F2.out.gr (Gr.alloc (Gr.refl _) _)
    have b1 : W3.cell? ⟨w2.heap.size, 1, none⟩ = some (.int .i64 0) := by rw [← hW3, World.cell?_alloc_new]; rfl
    have b2 : W3.cell? ⟨w2.heap.size, 2, none⟩ = some (.func (.func 50) #[] #[]) := by rw [← hW3, World.cell?_alloc_new]; rfl
    clear hW3 l0 l1 l2
    have d1 := fun dq oq => cell_regrown b1 dq oq
    have d2 := fun dq oq => cell_regrown b2 dq oq
    have e0 := fun dq oq => cell_regrown (F3.out 0 _ rfl) dq oq
    have e1 := fun dq oq => cell_regrown (F3.out 1 _ rfl) dq oq
    have e2 := fun dq oq => cell_regrown (F3.out 2 _ rfl) dq oq
    have e3 := fun dq oq => cell_regrown (F3.out 3 _ rfl) dq oq
    have e4 := fun dq oq => cell_regrown (F3.out 4 _ rfl) dq oq
    have e5 := fun dq oq => cell_regrown (F3.out 5 _ rfl) dq oq
    have e6 := fun dq oq => cell_regrown (F3.out 6 _ rfl) dq oq
    clear b1 b2
    refine wp_region_quiet_below (by assumption) (by kernel_rfl) ?_; (repeat (first | go_big_quiet_skip | quiet_step ((first | (go_at_call 50; with_reducible exact Gr.meet (count2_any x _)))))); refine wpQuiet_nil ?_; intro _ hw'; obtain ⟨⟨nq, osq⟩, hw''⟩ := hw'; subst hw''
    go_wp2_with fail
    go_ret2
    exact ⟨ret_int2 D.out.1.symm D.out.2.symm, by have hgg := G3.out; repeat (first | (with_reducible exact Gr.refl _) | (with_reducible assumption) | (with_reducible refine Gr.alloc ?_ _) | (with_reducible refine Gr.drewN ?_ _) | (with_reducible refine Gr.drew ?_) | (with_reducible refine Gr.grown ?_ _ _) | (with_reducible refine Gr.regrown ?_ _ _) | (with_reducible refine Gr.setCell ?_ (by first | omega | (simp; omega) | simp) _) | (with_reducible refine Gr.trans ?_ (by with_reducible assumption)))⟩
end Go.Proofs.Ytkhanjhjcfhhiaa
