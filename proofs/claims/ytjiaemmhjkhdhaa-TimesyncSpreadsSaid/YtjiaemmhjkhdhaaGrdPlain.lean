/- Plain arithmetic of guard times: growth, length, step and spread, that they do not shrink, and the number of slots between corrections. No condition. -/
import Derived.Test.YtjiaemmhjkhdhaaClkPlain
namespace Go.Proofs.Ytjiaemmhjkhdhaa.Gd

def gr (t dr : Int) : Int := 2 * t * dr / 1000000000 + 2
def ln (k dr : Int) : Int := ((k * 10000 + 1) * 1000000000 + (1000000000 - dr) - 1) / (1000000000 - dr)
def st (k dr : Int) : Int := 1 + gr (ln k dr) dr
def sp (a b k dr : Int) : Int := (a + b) * st k dr

def rgt (a b dr : Int) : Bool := decide (0 ≤ a ∧ a ≤ 32 ∧ 0 ≤ b ∧ b ≤ 32 ∧ 0 ≤ dr ∧ dr ≤ 100000)

theorem ceil_le (A r L : Int) (hr : 0 < r) : (A + r - 1) / r ≤ L ↔ A ≤ L * r := by
  have h : (A + r - 1) / r < L + 1 ↔ A + r - 1 < (L + 1) * r := Int.ediv_lt_iff_lt_mul hr
  rw [Int.add_mul, Int.one_mul] at h
  omega

theorem ln_le (k dr L : Int) (hd : dr ≤ 100000) : ln k dr ≤ L ↔ (k * 10000 + 1) * 1000000000 ≤ L * (1000000000 - dr) := by
  unfold ln
  exact ceil_le _ _ _ (by omega)

theorem ln_ge (k dr : Int) (hd : dr ≤ 100000) : (k * 10000 + 1) * 1000000000 ≤ ln k dr * (1000000000 - dr) := (ln_le k dr _ hd).1 (Int.le_refl _)

theorem ln_bd (k dr : Int) (k0 : 0 ≤ k) (k1 : k ≤ 4096) (d0 : 0 ≤ dr) (hd : dr ≤ 100000) : 1 ≤ ln k dr ∧ k * 10000 ≤ ln k dr ∧ ln k dr ≤ 40965000 := by
  have h1 := ln_ge k dr hd
  have h2 : ln k dr ≤ 40965000 := by
    rw [ln_le k dr _ hd]
    omega
  have h3 : k * 10000 + 1 ≤ ln k dr := by
    by_cases c : k * 10000 + 1 ≤ ln k dr
    · exact c
    · have : ln k dr * (1000000000 - dr) ≤ ln k dr * 1000000000 ∨ ln k dr < 0 := by
        by_cases z : 0 ≤ ln k dr
        · exact .inl (Int.mul_le_mul_of_nonneg_left (by omega) z)
        · exact .inr (by omega)
      rcases this with t | t
      · omega
      · have : ln k dr * (1000000000 - dr) ≤ 0 := Int.mul_nonpos_of_nonpos_of_nonneg (by omega) (by omega)
        omega
  omega

theorem ln_mono (k k' dr dr' : Int) (k0 : 0 ≤ k) (hk : k ≤ k') (k1 : k' ≤ 4096) (d0 : 0 ≤ dr) (hd : dr ≤ dr') (hd' : dr' ≤ 100000) : ln k dr ≤ ln k' dr' := by
  rw [ln_le k dr _ (by omega)]
  have h := ln_ge k' dr' hd'
  have hb := ln_bd k' dr' (by omega) k1 (by omega) hd'
  have : ln k' dr' * (1000000000 - dr') ≤ ln k' dr' * (1000000000 - dr) := Int.mul_le_mul_of_nonneg_left (by omega) (by omega)
  omega

theorem mul_mono {a b c d : Int} (h1 : a ≤ c) (h2 : b ≤ d) (h3 : 0 ≤ b) (h4 : 0 ≤ c) : a * b ≤ c * d :=
  Int.mul_le_mul h1 h2 h3 h4

theorem pr_bd (t dr : Int) (t0 : 0 ≤ t) (t1 : t ≤ 1099511627776) (d0 : 0 ≤ dr) (hd : dr ≤ 100000) : 0 ≤ 2 * t * dr ∧ 2 * t * dr ≤ 219902325555200000 := by
  refine ⟨Int.mul_nonneg (by omega) d0, ?_⟩
  have := mul_mono (a := 2 * t) (b := dr) (c := 2199023255552) (d := 100000) (by omega) hd d0 (by omega)
  omega

theorem gr_mono (t t' dr dr' : Int) (t0 : 0 ≤ t) (ht : t ≤ t') (d0 : 0 ≤ dr) (hd : dr ≤ dr') : gr t dr ≤ gr t' dr' := by
  unfold gr
  have := mul_mono (a := 2 * t) (b := dr) (c := 2 * t') (d := dr') (by omega) hd d0 (by omega)
  omega

theorem gr_bd (t dr : Int) (t0 : 0 ≤ t) (t1 : t ≤ 1099511627776) (d0 : 0 ≤ dr) (hd : dr ≤ 100000) : 2 ≤ gr t dr ∧ gr t dr ≤ 219902327 := by
  unfold gr
  have := pr_bd t dr t0 t1 d0 hd
  omega

theorem st_mono (k k' dr dr' : Int) (k0 : 0 ≤ k) (hk : k ≤ k') (k1 : k' ≤ 4096) (d0 : 0 ≤ dr) (hd : dr ≤ dr') (hd' : dr' ≤ 100000) : st k dr ≤ st k' dr' := by
  unfold st
  have h1 := ln_mono k k' dr dr' k0 hk k1 d0 hd hd'
  have h2 := ln_bd k dr k0 (by omega) d0 (by omega)
  have := gr_mono (ln k dr) (ln k' dr') dr dr' (by omega) h1 d0 hd
  omega

theorem st_bd (k dr : Int) (k0 : 0 ≤ k) (k1 : k ≤ 4096) (d0 : 0 ≤ dr) (hd : dr ≤ 100000) : 3 ≤ st k dr ∧ st k dr ≤ 219902328 := by
  unfold st
  have h2 := ln_bd k dr k0 k1 d0 hd
  have := gr_bd (ln k dr) dr (by omega) (by omega) d0 hd
  omega

theorem sp_mono (a a' b b' k k' dr dr' : Int) (a0 : 0 ≤ a) (ha : a ≤ a') (b0 : 0 ≤ b) (hb : b ≤ b') (k0 : 0 ≤ k) (hk : k ≤ k') (k1 : k' ≤ 4096) (d0 : 0 ≤ dr) (hd : dr ≤ dr') (hd' : dr' ≤ 100000) :
    sp a b k dr ≤ sp a' b' k' dr' := by
  unfold sp
  have h1 := st_mono k k' dr dr' k0 hk k1 d0 hd hd'
  have h2 := st_bd k dr k0 (by omega) d0 (by omega)
  exact mul_mono (by omega) h1 (by omega) (by omega)

theorem sp_bd (a b k dr : Int) (a0 : 0 ≤ a) (a1 : a ≤ 32) (b0 : 0 ≤ b) (b1 : b ≤ 32) (k0 : 0 ≤ k) (k1 : k ≤ 4096) (d0 : 0 ≤ dr) (hd : dr ≤ 100000) : 0 ≤ sp a b k dr ∧ sp a b k dr ≤ 14073748992 := by
  unfold sp
  have h2 := st_bd k dr k0 k1 d0 hd
  refine ⟨Int.mul_nonneg (by omega) (by omega), ?_⟩
  have := mul_mono (a := a + b) (b := st k dr) (c := 64) (d := 219902328) (by omega) h2.2 (by omega) (by omega)
  omega

/-- how many slots may pass between corrections -/
structure Most (a b dr k : Int) : Prop where
  k0 : 0 ≤ k
  k1 : k ≤ 4096
  fits : sp a b k dr ≤ 1100
  more : k < 4096 → 1100 < sp a b (k + 1) dr

theorem Most.le {a a' b b' dr dr' k k' : Int} (h : Most a b dr k) (h' : Most a' b' dr' k') (a0 : 0 ≤ a) (ha : a ≤ a') (b0 : 0 ≤ b) (hb : b ≤ b') (d0 : 0 ≤ dr) (hd : dr ≤ dr') (hd' : dr' ≤ 100000) : k' ≤ k := by
  by_cases c : k' ≤ k
  · exact c
  · have h1 := h.more (by have := h'.k1; omega)
    have h2 := h'.fits
    have := sp_mono a a' b b' (k + 1) k' dr dr' a0 ha b0 hb (by have := h.k0; omega) (by omega) h'.k1 d0 hd hd'
    omega

theorem Most.unique {a b dr k k' : Int} (h : Most a b dr k) (h' : Most a b dr k') (a0 : 0 ≤ a) (b0 : 0 ≤ b) (d0 : 0 ≤ dr) (hd : dr ≤ 100000) : k = k' := by
  have h1 := h.le h' a0 (Int.le_refl _) b0 (Int.le_refl _) d0 (Int.le_refl _) hd
  have h2 := h'.le h a0 (Int.le_refl _) b0 (Int.le_refl _) d0 (Int.le_refl _) hd
  omega

/-- what Growth, Length, Step and Spread return -/
def groOk (t dr : Int) : Prop := 0 ≤ t ∧ t ≤ 1099511627776 ∧ 0 ≤ dr ∧ dr ≤ 100000
def lenOk (k dr : Int) : Prop := 0 ≤ k ∧ k ≤ 4096 ∧ 0 ≤ dr ∧ dr ≤ 100000
def sprOk (a b k dr : Int) : Prop := 0 ≤ a ∧ a ≤ 32 ∧ 0 ≤ b ∧ b ≤ 32 ∧ lenOk k dr
instance (t dr : Int) : Decidable (groOk t dr) := by unfold groOk; infer_instance
instance (k dr : Int) : Decidable (lenOk k dr) := by unfold lenOk; infer_instance
instance (a b k dr : Int) : Decidable (sprOk a b k dr) := by unfold sprOk; infer_instance
def groN (t dr : Int) : Int := if groOk t dr then gr t dr else 0
def groE (t dr : Int) : Int := if groOk t dr then 0 else 2
def lenN (k dr : Int) : Int := if lenOk k dr then ln k dr else 0
def lenE (k dr : Int) : Int := if lenOk k dr then 0 else 2
def steN (k dr : Int) : Int := if lenOk k dr then st k dr else 0
def sprN (a b k dr : Int) : Int := if sprOk a b k dr then sp a b k dr else 0
def sprE (a b k dr : Int) : Int := if sprOk a b k dr then 0 else 2
theorem gro_ok {t dr : Int} (h : groOk t dr) : groN t dr = gr t dr ∧ groE t dr = 0 := ⟨if_pos h, if_pos h⟩
theorem gro_no {t dr : Int} (h : ¬ groOk t dr) : groN t dr = 0 ∧ groE t dr = 2 := ⟨if_neg h, if_neg h⟩
theorem len_ok {k dr : Int} (h : lenOk k dr) : lenN k dr = ln k dr ∧ lenE k dr = 0 := ⟨if_pos h, if_pos h⟩
theorem len_no {k dr : Int} (h : ¬ lenOk k dr) : lenN k dr = 0 ∧ lenE k dr = 2 := ⟨if_neg h, if_neg h⟩
theorem ste_ok {k dr : Int} (h : lenOk k dr) : steN k dr = st k dr ∧ lenE k dr = 0 := ⟨if_pos h, if_pos h⟩
theorem ste_no {k dr : Int} (h : ¬ lenOk k dr) : steN k dr = 0 ∧ lenE k dr = 2 := ⟨if_neg h, if_neg h⟩
theorem spr_ok {a b k dr : Int} (h : sprOk a b k dr) : sprN a b k dr = sp a b k dr ∧ sprE a b k dr = 0 := ⟨if_pos h, if_pos h⟩
theorem spr_no {a b k dr : Int} (h : ¬ sprOk a b k dr) : sprN a b k dr = 0 ∧ sprE a b k dr = 2 := ⟨if_neg h, if_neg h⟩

theorem most_exists (a b dr : Int) (h : sp a b 0 dr ≤ 1100) : ∃ k, Most a b dr k := by
  have key : ∀ n : Nat, ∃ k : Nat, k ≤ n ∧ sp a b k dr ≤ 1100 ∧ (k < n → 1100 < sp a b (k + 1) dr) := by
    intro n
    induction n with
    | zero => exact ⟨0, Nat.le_refl _, h, fun c => absurd c (Nat.lt_irrefl _)⟩
    | succ n ih =>
      obtain ⟨k, k1, k2, k3⟩ := ih
      by_cases c : k < n
      · exact ⟨k, by omega, k2, fun _ => k3 c⟩
      · obtain rfl : k = n := by omega
        by_cases e : sp a b (k + 1) dr ≤ 1100
        · exact ⟨k + 1, Nat.le_refl _, e, fun c => absurd c (Nat.lt_irrefl _)⟩
        · exact ⟨k, by omega, k2, fun _ => by omega⟩
  obtain ⟨k, k1, k2, k3⟩ := key 4096
  exact ⟨k, by omega, by omega, k2, fun c => k3 (by omega)⟩

noncomputable def mo (a b dr : Int) : Int := @dite _ (∃ k, Most a b dr k) (Classical.propDecidable _) (fun h => Classical.choose h) (fun _ => 0)
theorem mo_most (a b dr : Int) (h : sp a b 0 dr ≤ 1100) : Most a b dr (mo a b dr) := by
  unfold mo
  have e := most_exists a b dr h
  rw [dif_pos e]
  exact Classical.choose_spec e
theorem mo_eq {a b dr k : Int} (h : Most a b dr k) (a0 : 0 ≤ a) (b0 : 0 ≤ b) (d0 : 0 ≤ dr) (hd : dr ≤ 100000) : mo a b dr = k := by
  have e : ∃ k, Most a b dr k := ⟨k, h⟩
  unfold mo
  rw [dif_pos e]
  exact (Classical.choose_spec e).unique h a0 b0 d0 hd

/-- what Slots returns -/
def sloE (a b dr : Int) : Int := if sprE a b 0 dr = 0 then (if sp a b 0 dr ≤ 1100 then 0 else 16) else 2
noncomputable def sloN (a b dr : Int) : Int := if sloE a b dr = 0 then mo a b dr else 0
theorem slo_ok {a b dr : Int} (h : sprOk a b 0 dr) (hs : sp a b 0 dr ≤ 1100) : sloN a b dr = mo a b dr ∧ sloE a b dr = 0 := by
  have e : sloE a b dr = 0 := by unfold sloE; rw [if_pos (spr_ok h).2, if_pos hs]
  exact ⟨by unfold sloN; rw [if_pos e], e⟩
theorem slo_far {a b dr : Int} (h : sprOk a b 0 dr) (hs : ¬ sp a b 0 dr ≤ 1100) : sloN a b dr = 0 ∧ sloE a b dr = 16 := by
  have e : sloE a b dr = 16 := by unfold sloE; rw [if_pos (spr_ok h).2, if_neg hs]
  exact ⟨by unfold sloN; rw [if_neg (by omega)], e⟩
theorem slo_no {a b dr : Int} (h : ¬ sprOk a b 0 dr) : sloN a b dr = 0 ∧ sloE a b dr = 2 := by
  have e : sloE a b dr = 2 := by unfold sloE; rw [if_neg (by rw [(spr_no h).2]; decide)]
  exact ⟨by unfold sloN; rw [if_neg (by omega)], e⟩
end Go.Proofs.Ytjiaemmhjkhdhaa.Gd
