/- The contract of guard.Slots. -/
import Derived.Test.YthpcngglehgfjaaGrdB
import Derived.Test.YthpcngglehgfjaaSearch
namespace Go.Proofs.Ythpcngglehgfjaa
open Go.RowKit Go.Sort

set_option maxHeartbeats 400000 in
theorem more_any (a b dr k : Int) (B : Nat) (a0 : 0 ≤ a) (a1 : a ≤ 32) (b0 : 0 ≤ b) (b1 : b ≤ 32) (k0 : 0 ≤ k) (k1 : k < 4096) (d0 : 0 ≤ dr) (hd : dr ≤ 100000) (w : World)
    (c0 : w.cell? ⟨B, 0, none⟩ = some (.int .i64 a)) (c1 : w.cell? ⟨B, 1, none⟩ = some (.int .i64 b)) (c2 : w.cell? ⟨B, 2, none⟩ = some (.int .i64 dr)) :
    Calls Try.prog 45 #[.int .i64 k, .pointer (some ⟨B, 0, none⟩)] w fun e w' => e = .returned (.bool (decide (1100 < Gd.sp a b (k + 1) dr))) ∧ Gr w w' := by
  go_enter Try.func45, Try.ntmps45
  go_wp2_with (first | (go_at_call 43; refine (spread_any _ _ _ _ a0 a1 b0 b1 (by omega) (by omega) d0 hd _).mono ?_; rintro e w' ⟨rfl, hn⟩; (first | have hg' := Gr.trans hg hn | have hg' := Gr.trans (Gr.alloc hg _) hn | have hg' := Gr.trans (Gr.drewN hg _) hn | have hg' := Gr.trans (Gr.alloc (Gr.alloc hg _) _) hn | have hg' := hn); (try clear hr hf hr2 hf2 hz hz2); (try clear hg); have hg := hg'; clear hg'; have hr := hg.rules.1; have hf := hg.rules.2; have hr2 := hn.rules.1; have hf2 := hn.rules.2; have hz := hg.size; (try simp only [World.size_alloc] at hz); have hz2 := hn.size; (try simp only [World.size_alloc] at hz2); (try clear hy1); (try clear hy2); (try clear hy3); (try have hy1 : w.heap.size < w'.heap.size := by omega); (try have hy2 : w.heap.size + 1 < w'.heap.size := by omega); (try have hy3 : w.heap.size + 1 + 1 < w'.heap.size := by omega); clear hn))
  go_ret
  exact ⟨rfl, by repeat (first | (with_reducible exact Gr.refl _) | (with_reducible assumption) | (with_reducible refine Gr.alloc ?_ _) | (with_reducible refine Gr.drewN ?_ _) | (with_reducible refine Gr.drew ?_) | (with_reducible refine Gr.grown ?_ _ _) | (with_reducible refine Gr.setCell ?_ (by first | omega | (simp; omega) | simp) _) | (with_reducible refine Gr.trans ?_ (by with_reducible assumption)))⟩

theorem spread_at (a b dr : Int) (k : Nat) (r : Int) (h : Gd.Most a b dr r) (a0 : 0 ≤ a) (b0 : 0 ≤ b) (d0 : 0 ≤ dr) (hd : dr ≤ 100000) (hk : k < 4096) : decide (1100 < Gd.sp a b ((k : Int) + 1) dr) = decide (r ≤ (k : Int)) := by
  have h1 := h.k0
  have h2 := h.k1
  by_cases c : r ≤ (k : Int)
  · have h3 := h.more (by omega)
    have h4 := Gd.sp_mono a a b b (r + 1) ((k : Int) + 1) dr dr a0 (Int.le_refl _) b0 (Int.le_refl _) (by omega) (by omega) (by omega) d0 (Int.le_refl _) hd
    rw [decide_eq_true c, decide_eq_true (by omega)]
  · have h3 := h.fits
    have h4 := Gd.sp_mono a a b b ((k : Int) + 1) r dr dr a0 (Int.le_refl _) b0 (Int.le_refl _) (by omega) (by omega) (by omega) d0 (Int.le_refl _) hd
    rw [decide_eq_false c, decide_eq_false (by omega)]

set_option maxHeartbeats 1000000 in
theorem Slots_any (a b dr : Int) (w : World) :
    Calls Try.prog 20 #[.int .i64 a, .int .i64 b, .int .i64 dr] w fun e w' => e = .returned (.tuple #[.int .i64 (Gd.sloN a b dr), .int .i64 (Gd.sloE a b dr)]) ∧ Gr w w' := by
  have bk : decide ((0 : Int) ≤ 0 ∧ (0 : Int) ≤ 4096) = true := by decide
  by_cases hd : 0 ≤ a ∧ a ≤ 32 ∧ 0 ≤ b ∧ b ≤ 32 ∧ 0 ≤ dr ∧ dr ≤ 100000
  · have b1 := rgt_t hd
    obtain ⟨a0, a1, c0, c1, d0, d1⟩ := hd
    by_cases hs : Gd.sp a b 0 dr ≤ 1100
    · have N := Lib.hid (Gd.slo_ok (a := a) (b := b) (dr := dr) ⟨a0, a1, c0, c1, by decide, by decide, d0, d1⟩ hs)
      have M := Lib.hid (Gd.mo_most a b dr hs)
      have hq : ∀ (W : World), Gr (w.alloc (Obj.cells #[Value.int IntKind.i64 a, Value.int IntKind.i64 b, Value.int IntKind.i64 dr] 47)) W →
          Calls Try.prog 44 #[.int .i64 4096, .func (.func 45) #[] #[.pointer (some ⟨w.heap.size, 0, none⟩)]] W fun e w' => e = .returned (.int .i64 (Gd.mo a b dr)) ∧ Gr W w' := fun W hg => by
        have h := search_at 45 #[.pointer (some ⟨w.heap.size, 0, none⟩)] 4096 (fun i => decide (Gd.mo a b dr ≤ (i : Int))) (Gd.mo a b dr).toNat W (enters_of Try.func45 (by kernel_rfl) rfl) (by omega)
          (fun W2 i hg2 hi => by
            rw [← spread_at a b dr i _ M.out a0 c0 d0 d1 hi]
            exact more_any a b dr i w.heap.size a0 a1 c0 c1 (by omega) (by omega) d0 d1 W2
              (Eq.trans (Gr.cell (hg.trans hg2) (by simp)) (by go_simp)) (Eq.trans (Gr.cell (hg.trans hg2) (by simp)) (by go_simp)) (Eq.trans (Gr.cell (hg.trans hg2) (by simp)) (by go_simp)))
          (by have := M.out.k0; have := M.out.k1; omega)
          (fun t ht => by have := M.out.k0; simp; omega)
          (fun t ht htn => by have := M.out.k0; simp; omega)
        rw [show (((Gd.mo a b dr).toNat : Nat) : Int) = Gd.mo a b dr from Int.toNat_of_nonneg M.out.k0] at h
        exact h
      have HQ : Aside _ := hq
      clear hq
      go_enter Try.func20, Try.ntmps20
      go_wp2_with (first | (go_at_call 35; refine (gin_any _ _ _).mono ?_; rintro e w' ⟨rfl, rfl⟩) | (go_at_call 34; refine (right_any _ _ _ _).mono ?_; rintro e w' ⟨rfl, hn⟩; (first | have hg' := Gr.trans hg hn | have hg' := Gr.trans (Gr.alloc hg _) hn | have hg' := Gr.trans (Gr.drewN hg _) hn | have hg' := Gr.trans (Gr.alloc (Gr.alloc hg _) _) hn | have hg' := hn); (try clear hr hf hr2 hf2 hz hz2); (try clear hg); have hg := hg'; clear hg'; have hr := hg.rules.1; have hf := hg.rules.2; have hr2 := hn.rules.1; have hf2 := hn.rules.2; have hz := hg.size; (try simp only [World.size_alloc] at hz); have hz2 := hn.size; (try simp only [World.size_alloc] at hz2); (try clear hy1); (try clear hy2); (try clear hy3); (try have hy1 : w.heap.size < w'.heap.size := by omega); (try have hy2 : w.heap.size + 1 < w'.heap.size := by omega); (try have hy3 : w.heap.size + 1 + 1 < w'.heap.size := by omega); clear hn) | (go_at_call 43; refine (spread_any _ _ _ _ a0 a1 c0 c1 (by omega) (by omega) d0 d1 _).mono ?_; rintro e w' ⟨rfl, hn⟩; (first | have hg' := Gr.trans hg hn | have hg' := Gr.trans (Gr.alloc hg _) hn | have hg' := Gr.trans (Gr.drewN hg _) hn | have hg' := Gr.trans (Gr.alloc (Gr.alloc hg _) _) hn | have hg' := hn); (try clear hr hf hr2 hf2 hz hz2); (try clear hg); have hg := hg'; clear hg'; have hr := hg.rules.1; have hf := hg.rules.2; have hr2 := hn.rules.1; have hf2 := hn.rules.2; have hz := hg.size; (try simp only [World.size_alloc] at hz); have hz2 := hn.size; (try simp only [World.size_alloc] at hz2); (try clear hy1); (try clear hy2); (try clear hy3); (try have hy1 : w.heap.size < w'.heap.size := by omega); (try have hy2 : w.heap.size + 1 < w'.heap.size := by omega); (try have hy3 : w.heap.size + 1 + 1 < w'.heap.size := by omega); clear hn) | (go_at_call 39; go_in) | (go_at_call 44; refine (HQ.out _ (Gr.trans ((Gr.refl _).alloc _) hg)).mono ?_; rintro e w' ⟨rfl, hn⟩))
      go_ret2
      exact ⟨ret_int2 N.out.1.symm N.out.2.symm, by repeat (first | (with_reducible exact Gr.refl _) | (with_reducible assumption) | (with_reducible refine Gr.alloc ?_ _) | (with_reducible refine Gr.drewN ?_ _) | (with_reducible refine Gr.drew ?_) | (with_reducible refine Gr.grown ?_ _ _) | (with_reducible refine Gr.setCell ?_ (by first | omega | (simp; omega) | simp) _) | (with_reducible refine Gr.trans ?_ (by with_reducible assumption)))⟩
    · have N := Lib.hid (Gd.slo_far (a := a) (b := b) (dr := dr) ⟨a0, a1, c0, c1, by decide, by decide, d0, d1⟩ hs)
      go_enter Try.func20, Try.ntmps20
      go_wp2_with (first | (go_at_call 35; refine (gin_any _ _ _).mono ?_; rintro e w' ⟨rfl, rfl⟩) | (go_at_call 34; refine (right_any _ _ _ _).mono ?_; rintro e w' ⟨rfl, hn⟩; (first | have hg' := Gr.trans hg hn | have hg' := Gr.trans (Gr.alloc hg _) hn | have hg' := Gr.trans (Gr.drewN hg _) hn | have hg' := Gr.trans (Gr.alloc (Gr.alloc hg _) _) hn | have hg' := hn); (try clear hr hf hr2 hf2 hz hz2); (try clear hg); have hg := hg'; clear hg'; have hr := hg.rules.1; have hf := hg.rules.2; have hr2 := hn.rules.1; have hf2 := hn.rules.2; have hz := hg.size; (try simp only [World.size_alloc] at hz); have hz2 := hn.size; (try simp only [World.size_alloc] at hz2); (try clear hy1); (try clear hy2); (try clear hy3); (try have hy1 : w.heap.size < w'.heap.size := by omega); (try have hy2 : w.heap.size + 1 < w'.heap.size := by omega); (try have hy3 : w.heap.size + 1 + 1 < w'.heap.size := by omega); clear hn) | (go_at_call 43; refine (spread_any _ _ _ _ a0 a1 c0 c1 (by omega) (by omega) d0 d1 _).mono ?_; rintro e w' ⟨rfl, hn⟩; (first | have hg' := Gr.trans hg hn | have hg' := Gr.trans (Gr.alloc hg _) hn | have hg' := Gr.trans (Gr.drewN hg _) hn | have hg' := Gr.trans (Gr.alloc (Gr.alloc hg _) _) hn | have hg' := hn); (try clear hr hf hr2 hf2 hz hz2); (try clear hg); have hg := hg'; clear hg'; have hr := hg.rules.1; have hf := hg.rules.2; have hr2 := hn.rules.1; have hf2 := hn.rules.2; have hz := hg.size; (try simp only [World.size_alloc] at hz); have hz2 := hn.size; (try simp only [World.size_alloc] at hz2); (try clear hy1); (try clear hy2); (try clear hy3); (try have hy1 : w.heap.size < w'.heap.size := by omega); (try have hy2 : w.heap.size + 1 < w'.heap.size := by omega); (try have hy3 : w.heap.size + 1 + 1 < w'.heap.size := by omega); clear hn) | (go_at_call 39; go_in))
      go_ret2
      exact ⟨ret_int2 N.out.1.symm N.out.2.symm, by repeat (first | (with_reducible exact Gr.refl _) | (with_reducible assumption) | (with_reducible refine Gr.alloc ?_ _) | (with_reducible refine Gr.drewN ?_ _) | (with_reducible refine Gr.drew ?_) | (with_reducible refine Gr.grown ?_ _ _) | (with_reducible refine Gr.setCell ?_ (by first | omega | (simp; omega) | simp) _) | (with_reducible refine Gr.trans ?_ (by with_reducible assumption)))⟩
  · have b1 := rgt_f hd
    have N := Lib.hid (Gd.slo_no (a := a) (b := b) (dr := dr) (fun h => hd ⟨h.1, h.2.1, h.2.2.1, h.2.2.2.1, h.2.2.2.2.2.2⟩))
    clear hd
    go_enter Try.func20, Try.ntmps20
    go_wp2_with (first | (go_at_call 35; refine (gin_any _ _ _).mono ?_; rintro e w' ⟨rfl, rfl⟩) | (go_at_call 34; refine (right_any _ _ _ _).mono ?_; rintro e w' ⟨rfl, hn⟩; (first | have hg' := Gr.trans hg hn | have hg' := Gr.trans (Gr.alloc hg _) hn | have hg' := Gr.trans (Gr.drewN hg _) hn | have hg' := Gr.trans (Gr.alloc (Gr.alloc hg _) _) hn | have hg' := hn); (try clear hr hf hr2 hf2 hz hz2); (try clear hg); have hg := hg'; clear hg'; have hr := hg.rules.1; have hf := hg.rules.2; have hr2 := hn.rules.1; have hf2 := hn.rules.2; have hz := hg.size; (try simp only [World.size_alloc] at hz); have hz2 := hn.size; (try simp only [World.size_alloc] at hz2); (try clear hy1); (try clear hy2); (try clear hy3); (try have hy1 : w.heap.size < w'.heap.size := by omega); (try have hy2 : w.heap.size + 1 < w'.heap.size := by omega); (try have hy3 : w.heap.size + 1 + 1 < w'.heap.size := by omega); clear hn) | (go_at_call 39; go_in))
    go_ret2
    exact ⟨ret_int2 N.out.1.symm N.out.2.symm, by repeat (first | (with_reducible exact Gr.refl _) | (with_reducible assumption) | (with_reducible refine Gr.alloc ?_ _) | (with_reducible refine Gr.drewN ?_ _) | (with_reducible refine Gr.drew ?_) | (with_reducible refine Gr.grown ?_ _ _) | (with_reducible refine Gr.setCell ?_ (by first | omega | (simp; omega) | simp) _) | (with_reducible refine Gr.trans ?_ (by with_reducible assumption)))⟩
end Go.Proofs.Ythpcngglehgfjaa
