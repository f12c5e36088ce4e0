/- Plain definitions and laws of what flow.Frames computes. No condition. -/
import Derived.Test.YtabckmanijcndaaFlwPlain
namespace Go.Proofs.Ytabckmanijcndaa
namespace Fw

/-- how many frames are released ahead of a slot -/
def ahd (f : Fl) (s : Int) : Int := if f.ph < s then (s - f.ph + f.pe - 1) / f.pe else 0

theorem ahd_iff {f : Fl} {s n : Int} (hp : 1 ≤ f.pe) (_h0 : 0 ≤ f.ph) (hn : 0 ≤ n) : f.ph + n * f.pe < s ↔ n < ahd f s := by
  unfold ahd
  have hnp : 0 ≤ n * f.pe := Int.mul_nonneg hn (by omega)
  split
  · have e : n < (s - f.ph + f.pe - 1) / f.pe ↔ (n + 1) * f.pe ≤ s - f.ph + f.pe - 1 := by
      rw [← Int.le_ediv_iff_mul_le (by omega)]; omega
    rw [e, Int.add_mul]
    omega
  · omega
theorem ahd_0 {f : Fl} {s : Int} (hp : 1 ≤ f.pe) : 0 ≤ ahd f s := by
  unfold ahd
  split
  · exact Int.ediv_nonneg (by omega) (by omega)
  · omega
theorem ahd_le {f : Fl} {s : Int} (hp : 1 ≤ f.pe) (h : 0 ≤ s - f.ph) : ahd f s ≤ s - f.ph := by
  unfold ahd
  split
  · have h1 : s - f.ph + f.pe - 1 ≤ (s - f.ph) * f.pe := by
      have h3 : (s - f.ph - 1) * 1 ≤ (s - f.ph - 1) * f.pe := Int.mul_le_mul_of_nonneg_left hp (by omega)
      have e : (s - f.ph - 1) * f.pe = (s - f.ph) * f.pe - f.pe := by rw [Int.sub_mul, Int.one_mul]
      omega
    have := Int.ediv_le_ediv (c := f.pe) (by omega) h1
    rwa [Int.mul_ediv_cancel _ (by omega)] at this
  · omega
theorem ahd_mono {f : Fl} {a b : Int} (hp : 1 ≤ f.pe) (h0 : 0 ≤ f.ph) (h : a ≤ b) : ahd f a ≤ ahd f b := by
  by_cases c : ahd f a ≤ ahd f b
  · exact c
  · have h1 := ahd_0 (f := f) (s := b) hp
    have h2 := (ahd_iff (f := f) (s := a) hp h0 (n := ahd f b) h1).2 (by omega)
    have h3 := (ahd_iff (f := f) (s := b) hp h0 (n := ahd f b) h1).1 (by omega)
    omega
/-- in c - a slots at most c - a frames are released -/
theorem ahd_sub {f : Fl} {a b : Int} (hp : 1 ≤ f.pe) (h0 : 0 ≤ f.ph) (h : a ≤ b) : ahd f b - ahd f a ≤ b - a := by
  by_cases c : ahd f b - ahd f a ≤ b - a
  · exact c
  · have h1 := ahd_0 (f := f) (s := a) hp
    have h3 := (ahd_iff (f := f) (s := a) hp h0 (n := ahd f a) h1)
    have h4 := (ahd_iff (f := f) (s := b) hp h0 (n := ahd f a + (b - a)) (by omega)).2 (by omega)
    have h5 : (b - a) * 1 ≤ (b - a) * f.pe := Int.mul_le_mul_of_nonneg_left hp (by omega)
    rw [Int.add_mul] at h4
    omega

theorem ahd_eq {f : Fl} {s : Int} (hp : 1 ≤ f.pe) (h : f.ph ≤ s) : ahd f s = (s - f.ph + f.pe - 1) / f.pe := by
  unfold ahd
  split
  · rfl
  · rw [show s - f.ph + f.pe - 1 = f.pe - 1 by omega, Int.ediv_eq_zero_of_lt (by omega) (by omega)]
theorem ahd_shift {f : Fl} {s K : Int} (hp : 1 ≤ f.pe) (h : f.ph ≤ s) (hK : 0 ≤ K) (hd : K % f.pe = 0) : ahd f (s + K) = ahd f s + K / f.pe := by
  rw [ahd_eq hp h, ahd_eq hp (by omega)]
  have e : K = K / f.pe * f.pe := by have := Int.mul_ediv_add_emod K f.pe; rw [Int.mul_comm] at this; omega
  have e2 : s + K - f.ph + f.pe - 1 = s - f.ph + f.pe - 1 + K / f.pe * f.pe := by omega
  rw [e2, Int.add_mul_ediv_right _ _ (by omega)]
def rngOk (a b : Int) : Prop := 0 ≤ a ∧ a ≤ b ∧ b ≤ 1099511627776
instance (a b : Int) : Decidable (rngOk a b) := by unfold rngOk; infer_instance
/-- the error of Frames -/
def frE (f : Fl) (a b : Int) : Int := if chk 32 f = 0 then (if rngOk a b then (if ahd f b - ahd f a ≤ 1024 then 0 else 8) else 2) else 1
/-- how many frames Frames returns, and the first of them -/
def frC (f : Fl) (a b : Int) : Nat := if frE f a b = 0 then (ahd f b - ahd f a).toNat else 0
/-- what Frames returns -/
def frL (f : Fl) (a b : Int) : List Int := (List.range (frC f a b)).map fun (j : Nat) => ahd f a + (j : Int)
theorem frL_len (f : Fl) (a b : Int) : (frL f a b).length = frC f a b := by unfold frL; simp
theorem fr_ok {f : Fl} {a b : Int} (hc : chk 32 f = 0) (hr : rngOk a b) (h : ahd f b - ahd f a ≤ 1024) : frE f a b = 0 ∧ frC f a b = (ahd f b - ahd f a).toNat := by
  have e : frE f a b = 0 := by unfold frE; rw [if_pos hc, if_pos hr, if_pos h]
  exact ⟨e, if_pos e⟩
theorem fr_big {f : Fl} {a b : Int} (hc : chk 32 f = 0) (hr : rngOk a b) (h : ¬ ahd f b - ahd f a ≤ 1024) : frE f a b = 8 ∧ frL f a b = [] := by
  have e : frE f a b = 8 := by unfold frE; rw [if_pos hc, if_pos hr, if_neg h]
  refine ⟨e, ?_⟩
  unfold frL frC
  rw [e]; rfl
theorem fr_rng {f : Fl} {a b : Int} (hc : chk 32 f = 0) (hr : ¬ rngOk a b) : frE f a b = 2 ∧ frL f a b = [] := by
  have e : frE f a b = 2 := by unfold frE; rw [if_pos hc, if_neg hr]
  refine ⟨e, ?_⟩
  unfold frL frC
  rw [e]; rfl
theorem fr_bad {f : Fl} {a b : Int} (hc : ¬ chk 32 f = 0) : frE f a b = 1 ∧ frL f a b = [] := by
  have e : frE f a b = 1 := by unfold frE; rw [if_neg hc]
  refine ⟨e, ?_⟩
  unfold frL frC
  rw [e]; rfl
theorem fr_list {f : Fl} {a b : Int} (hc : chk 32 f = 0) (hr : rngOk a b) (h : ahd f b - ahd f a ≤ 1024) : frL f a b = (List.range (ahd f b - ahd f a).toNat).map fun (j : Nat) => ahd f a + (j : Int) := by
  unfold frL; rw [(fr_ok hc hr h).2]

theorem frL_le (f : Fl) (a b : Int) : ((frL f a b).length : Int) ≤ 1024 := by
  rw [frL_len]
  unfold frC
  split
  · rename_i h
    unfold frE at h
    split at h
    · split at h
      · split at h
        · omega
        · exact absurd h (by decide)
      · exact absurd h (by decide)
    · exact absurd h (by decide)
  · decide
/-- two stretches, one behind the other -/
theorem frL_append {f : Fl} {a b c : Int} (hc : chk 32 f = 0) (h0 : 0 ≤ a) (h1 : a ≤ b) (h2 : b ≤ c) (h3 : c ≤ 1099511627776) (h : frE f a c = 0) :
    frE f a b = 0 ∧ frE f b c = 0 ∧ frL f a c = frL f a b ++ frL f b c := by
  obtain ⟨⟨_, p1, p2, p3, _⟩, -⟩ := chk_inv hc
  have m1 := ahd_mono (f := f) p1 p3 h1
  have m2 := ahd_mono (f := f) p1 p3 h2
  have hle : ahd f c - ahd f a ≤ 1024 := by
    by_cases q : ahd f c - ahd f a ≤ 1024
    · exact q
    · rw [(fr_big hc ⟨h0, by omega, h3⟩ q).1] at h; exact absurd h (by decide)
  refine ⟨(fr_ok hc ⟨h0, h1, by omega⟩ (by omega)).1, (fr_ok hc ⟨by omega, h2, h3⟩ (by omega)).1, ?_⟩
  rw [fr_list hc ⟨h0, by omega, h3⟩ hle, fr_list hc ⟨h0, h1, by omega⟩ (by omega), fr_list hc ⟨by omega, h2, h3⟩ (by omega)]
  apply List.ext_getElem?
  intro i
  have hl : ((List.range (ahd f b - ahd f a).toNat).map fun (j : Nat) => ahd f a + (j : Int)).length = (ahd f b - ahd f a).toNat := by rw [List.length_map, List.length_range]
  rw [List.getElem?_append, hl]
  by_cases q : i < (ahd f b - ahd f a).toNat
  · rw [if_pos q]
    simp [List.getElem?_map, List.getElem?_range q, List.getElem?_range (show i < (ahd f c - ahd f a).toNat by omega)]
  · rw [if_neg q]
    by_cases q2 : i < (ahd f c - ahd f a).toNat
    · rw [List.getElem?_map, List.getElem?_map, List.getElem?_range q2, List.getElem?_range (by omega)]
      simp
      omega
    · rw [List.getElem?_eq_none (by simp; omega), List.getElem?_eq_none (by simp; omega)]
end Fw
end Go.Proofs.Ytabckmanijcndaa
