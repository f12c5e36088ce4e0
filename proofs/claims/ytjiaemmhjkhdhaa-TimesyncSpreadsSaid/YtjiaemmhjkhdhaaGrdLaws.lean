/- Plain laws of guard times over drifting clocks: how fast clocks part, how long slots last, when a frame fits, when a slot has ended. No condition. -/
import Derived.Test.YtjiaemmhjkhdhaaClkPlain
import Derived.Test.YtjiaemmhjkhdhaaGrdPlain
namespace Go.Proofs.Ytjiaemmhjkhdhaa.Gd
open Ck

/-- two clocks within the bound grow apart by at most the growth -/
theorem grows (oa da ob db t s dr : Int) (hs : 0 ≤ s) (a1 : -dr ≤ da) (a2 : da ≤ dr) (b1 : -dr ≤ db) (b2 : db ≤ dr) :
    (sh ob db (t + s) - sh oa da (t + s)) - (sh ob db t - sh oa da t) ≤ gr s dr ∧ -(gr s dr) ≤ (sh ob db (t + s) - sh oa da (t + s)) - (sh ob db t - sh oa da t) := by
  unfold sh gr
  have ea : (t + s) * da = t * da + s * da := Int.add_mul _ _ _
  have eb : (t + s) * db = t * db + s * db := Int.add_mul _ _ _
  have e2 : 2 * s * dr = s * dr + s * dr := by rw [Int.mul_assoc, Int.two_mul]
  have ha1 := Int.mul_le_mul_of_nonneg_left a1 hs
  have ha2 := Int.mul_le_mul_of_nonneg_left a2 hs
  have hb1 := Int.mul_le_mul_of_nonneg_left b1 hs
  have hb2 := Int.mul_le_mul_of_nonneg_left b2 hs
  rw [Int.mul_neg] at ha1 hb1
  rw [ea, eb, e2]
  generalize t * da = p at *
  generalize t * db = q at *
  generalize s * da = u at *
  generalize s * db = v at *
  generalize s * dr = m at *
  omega

/-- an adjusted clock shows that much more -/
theorem sh_adj (o d n t : Int) : sh (o + n) d t = sh o d t + n := by unfold sh; omega

/-- while a clock shows k slots more, not more time passes than their length -/
theorem lasts (o d t k dr : Int) (k0 : 0 ≤ k) (k1 : k ≤ 4096) (d0 : 0 ≤ dr) (hd : dr ≤ 100000) (a1 : -dr ≤ d) (_a2 : d ≤ dr) :
    sh o d t + k * 10000 ≤ sh o d (t + ln k dr) := by
  unfold sh
  have hb := ln_bd k dr k0 k1 d0 hd
  have hg := ln_ge k dr hd
  have ea : (t + ln k dr) * d = t * d + ln k dr * d := Int.add_mul _ _ _
  have h1 := Int.mul_le_mul_of_nonneg_left a1 (show 0 ≤ ln k dr by omega)
  rw [Int.mul_neg] at h1
  rw [Int.mul_sub] at hg
  rw [ea]
  generalize ln k dr * d = u at *
  generalize ln k dr * dr = v at *
  generalize t * d = p at *
  generalize ln k dr = L at *
  omega

/-- what is shown when a least time is reached, behind the start -/
theorem least_near (o d x r : Int) (d1 : -100000 ≤ d) (d2 : d ≤ 100000) (h : Least o d x r) (hr : 0 < r) : x ≤ sh o d r ∧ sh o d r ≤ x + 1 := by
  have h1 := h.hit
  have h2 := h.before (r - 1) (by omega) (by omega)
  have h3 := sh_succ o d (r - 1) d1 d2
  rw [Int.sub_add_cancel] at h3
  omega

/-- what is sent in the next slot begins behind the end of the slot -/
theorem behind (oa da ob db s t n : Int) (a1 : -100000 ≤ da) (a2 : da ≤ 100000) (_b1 : -100000 ≤ db) (_b2 : db ≤ 100000)
    (ht : Least oa da (s * 10000 + 2120) t) (hn : Least ob db ((s + 1) * 10000 + 2120) n) (hf : sh oa da 0 ≤ s * 10000)
    (h1 : sh ob db n - sh oa da n ≤ 1100) : t + 6088 < n := by
  have e1 := hn.hit
  have e2 : sh oa da t ≤ s * 10000 + 2121 := by
    by_cases c : 0 < t
    · have := least_near oa da _ t a1 a2 ht c; omega
    · have := ht.r0
      have e : t = 0 := by omega
      rw [e]; omega
  have e3 := (sh_add oa da t 6088 (by decide) a1 a2).1
  by_cases c : t + 6088 < n
  · exact c
  · have := sh_le oa da n (t + 6088) (by omega) a1 a2
    omega
end Go.Proofs.Ytjiaemmhjkhdhaa.Gd
