/- Plain arithmetic of drifting clocks: what a clock shows never goes back, grows by bounded steps, and reaches each number at a least time. No condition. -/
import Derived.WalkKit
namespace Go.Proofs.Ytjiaemmhjkhdhaa.Ck

/-- what a clock shows -/
def sh (o d t : Int) : Int := o + t + t * d / 1000000000

structure Valid (o d : Int) : Prop where
  o1 : -1099511627776 ≤ o
  o2 : o ≤ 1099511627776
  d1 : -100000 ≤ d
  d2 : d ≤ 100000

/-- the error of a clock: 0 or 1 -/
def chk (o d : Int) : Int := if -1099511627776 ≤ o ∧ o ≤ 1099511627776 ∧ -100000 ≤ d ∧ d ≤ 100000 then 0 else 1
theorem chk_ok {o d : Int} (v : Valid o d) : chk o d = 0 := by
  obtain ⟨a, b, c, e⟩ := v
  unfold chk; rw [if_pos ⟨a, b, c, e⟩]
theorem chk_bad {o d : Int} (v : ¬ Valid o d) : chk o d = 1 := by
  unfold chk; rw [if_neg (fun ⟨a, b, c, e⟩ => v ⟨a, b, c, e⟩)]
theorem chk_01 (o d : Int) : chk o d = 0 ∧ Valid o d ∨ chk o d = 1 ∧ ¬ Valid o d := by
  by_cases v : Valid o d
  · exact .inl ⟨chk_ok v, v⟩
  · exact .inr ⟨chk_bad v, v⟩

theorem mul_bd (t d : Int) (h0 : 0 ≤ t) (d1 : -100000 ≤ d) (d2 : d ≤ 100000) : -(t * 100000) ≤ t * d ∧ t * d ≤ t * 100000 := by
  refine ⟨?_, Int.mul_le_mul_of_nonneg_left d2 h0⟩
  have := Int.mul_le_mul_of_nonneg_left d1 h0
  omega

theorem prod_bd (t d : Int) (h0 : 0 ≤ t) (h1 : t ≤ 1099511627776) (d1 : -100000 ≤ d) (d2 : d ≤ 100000) :
    -109951162777600000 ≤ t * d ∧ t * d ≤ 109951162777600000 := by
  have := mul_bd t d h0 d1 d2
  omega

/-- one microsecond later: 0, 1 or 2 more -/
theorem sh_succ (o d t : Int) (d1 : -100000 ≤ d) (d2 : d ≤ 100000) : sh o d t ≤ sh o d (t + 1) ∧ sh o d (t + 1) ≤ sh o d t + 2 := by
  unfold sh
  have : (t + 1) * d = t * d + d := by rw [Int.add_mul, Int.one_mul]
  rw [this]
  omega

/-- s microseconds later -/
theorem sh_add (o d t s : Int) (hs : 0 ≤ s) (d1 : -100000 ≤ d) (d2 : d ≤ 100000) :
    sh o d (t + s) - sh o d t - s ≤ s * 100000 / 1000000000 + 1 ∧ -(s * 100000 / 1000000000 + 1) ≤ sh o d (t + s) - sh o d t - s := by
  unfold sh
  have e : (t + s) * d = t * d + s * d := Int.add_mul _ _ _
  have b := mul_bd s d hs d1 d2
  rw [e]
  omega

theorem sh_mono (o d t s : Int) (hs : 0 ≤ s) (d1 : -100000 ≤ d) (d2 : d ≤ 100000) : sh o d t ≤ sh o d (t + s) := by
  unfold sh
  have e : (t + s) * d = t * d + s * d := Int.add_mul _ _ _
  have b := mul_bd s d hs d1 d2
  rw [e]
  omega

theorem sh_le (o d t u : Int) (h : t ≤ u) (d1 : -100000 ≤ d) (d2 : d ≤ 100000) : sh o d t ≤ sh o d u := by
  have := sh_mono o d t (u - t) (by omega) d1 d2
  rwa [show t + (u - t) = u by omega] at this

theorem sh_bd (o d t : Int) (v : Valid o d) (h0 : 0 ≤ t) (h1 : t ≤ 1099511627776) : -1099621578939 ≤ sh o d t ∧ sh o d t ≤ 2199133206715 := by
  unfold sh
  have := prod_bd t d h0 h1 v.d1 v.d2
  have := v.o1
  have := v.o2
  omega

/-- what Show returns: the number and the error -/
def showN (o d t : Int) : Int := if chk o d = 0 ∧ 0 ≤ t ∧ t ≤ 1099511627776 then sh o d t else 0
def showE (o d t : Int) : Int := if chk o d = 0 then (if 0 ≤ t ∧ t ≤ 1099511627776 then 0 else 2) else 1

theorem show_ok {o d t : Int} (hc : chk o d = 0) (h0 : 0 ≤ t) (h1 : t ≤ 1099511627776) : showN o d t = sh o d t ∧ showE o d t = 0 := by
  unfold showN showE
  rw [if_pos ⟨hc, h0, h1⟩, if_pos hc, if_pos ⟨h0, h1⟩]
  exact ⟨rfl, rfl⟩
theorem show_out {o d t : Int} (hc : chk o d = 0) (h : ¬ (0 ≤ t ∧ t ≤ 1099511627776)) : showN o d t = 0 ∧ showE o d t = 2 := by
  unfold showN showE
  rw [if_neg (fun k => h k.2), if_pos hc, if_neg h]
  exact ⟨rfl, rfl⟩
theorem show_bad {o d t : Int} (hc : chk o d = 1) : showN o d t = 0 ∧ showE o d t = 1 := by
  unfold showN showE
  rw [if_neg (fun k => by have := k.1; omega), if_neg (by omega)]
  exact ⟨rfl, rfl⟩
/-- the three ways of Show -/
theorem show_ways (o d t : Int) : (Valid o d ∧ 0 ≤ t ∧ t ≤ 1099511627776 ∧ showN o d t = sh o d t ∧ showE o d t = 0 ∧ chk o d = 0) ∨ (Valid o d ∧ ¬ (0 ≤ t ∧ t ≤ 1099511627776) ∧ showN o d t = 0 ∧ showE o d t = 2 ∧ chk o d = 0) ∨ (¬ Valid o d ∧ showN o d t = 0 ∧ showE o d t = 1 ∧ chk o d = 1) := by
  rcases chk_01 o d with ⟨hc, v⟩ | ⟨hc, v⟩
  · by_cases h : 0 ≤ t ∧ t ≤ 1099511627776
    · exact .inl ⟨v, h.1, h.2, (show_ok hc h.1 h.2).1, (show_ok hc h.1 h.2).2, hc⟩
    · exact .inr (.inl ⟨v, h, (show_out hc h).1, (show_out hc h).2, hc⟩)
  · exact .inr (.inr ⟨v, (show_bad hc).1, (show_bad hc).2, hc⟩)

theorem sh_zero (o d : Int) : sh o d 0 = o := by unfold sh; simp

/-- 'r is the least time at which the clock shows x or more' -/
structure Least (o d x r : Int) : Prop where
  r0 : 0 ≤ r
  r1 : r ≤ 1099511627776
  hit : x ≤ sh o d r
  before : ∀ t, 0 ≤ t → t < r → sh o d t < x

theorem Least.unique {o d x r s : Int} (h : Least o d x r) (k : Least o d x s) : r = s := by
  rcases Int.lt_trichotomy r s with c | c | c
  · have := k.before r h.r0 c; have := h.hit; omega
  · exact c
  · have := h.before s k.r0 c; have := k.hit; omega

theorem Least.iff {o d x r : Int} (h : Least o d x r) (d1 : -100000 ≤ d) (d2 : d ≤ 100000) (t : Int) (h0 : 0 ≤ t) : r ≤ t ↔ x ≤ sh o d t := by
  constructor
  · intro c; have := sh_le o d r t c d1 d2; have := h.hit; omega
  · intro c
    by_cases q : r ≤ t
    · exact q
    · have := h.before t h0 (by omega); omega

theorem least_exists (o d x : Int) (d1 : -100000 ≤ d) (d2 : d ≤ 100000) (h : x ≤ sh o d 1099511627776) : ∃ r, Least o d x r := by
  have key : ∀ n : Nat, x ≤ sh o d n → ∃ r : Nat, r ≤ n ∧ x ≤ sh o d r ∧ ∀ t : Nat, t < r → sh o d t < x := by
    intro n
    induction n with
    | zero => intro h; exact ⟨0, Nat.le_refl _, h, fun t ht => absurd ht (Nat.not_lt_zero _)⟩
    | succ n ih =>
      intro h
      by_cases c : x ≤ sh o d n
      · obtain ⟨r, hr, hx, hb⟩ := ih c
        exact ⟨r, by omega, hx, hb⟩
      · refine ⟨n + 1, Nat.le_refl _, h, fun t ht => ?_⟩
        have := sh_le o d t n (by omega) d1 d2
        omega
  obtain ⟨r, hr, hx, hb⟩ := key 1099511627776 h
  refine ⟨r, by omega, by omega, hx, fun t h0 ht => ?_⟩
  have := hb t.toNat (by omega)
  rwa [Int.toNat_of_nonneg h0] at this

/-- the least time, as a function (0 where there is none) -/
noncomputable def rc (o d x : Int) : Int := @dite _ (∃ r, Least o d x r) (Classical.propDecidable _) (fun h => Classical.choose h) (fun _ => 0)

theorem rc_eq {o d x r : Int} (h : Least o d x r) : rc o d x = r := by
  unfold rc
  have e : ∃ r, Least o d x r := ⟨r, h⟩
  rw [dif_pos e]
  exact (Classical.choose_spec e).unique h

theorem rc_least (o d x : Int) (d1 : -100000 ≤ d) (d2 : d ≤ 100000) (h : x ≤ sh o d 1099511627776) : Least o d x (rc o d x) := by
  obtain ⟨r, hr⟩ := least_exists o d x d1 d2 h
  rw [rc_eq hr]
  exact hr

/-- what reach returns for a valid clock: the time and the error -/
noncomputable def reachN (o d x : Int) : Int := if x ≤ sh o d 1099511627776 then rc o d x else 0
def reachE (o d x : Int) : Int := if x ≤ sh o d 1099511627776 then 0 else 15
/-- what Reach returns -/
noncomputable def rchN (o d x : Int) : Int := if chk o d = 0 then reachN o d x else 0
def rchE (o d x : Int) : Int := if chk o d = 0 then reachE o d x else 1
/-- the error of a clock and a slot -/
def slotE (o d s : Int) : Int := if chk o d = 0 then (if 0 ≤ s ∧ s ≤ 109951162 then 0 else 2) else 1
/-- when a clock reaches something in a slot -/
noncomputable def inN (o d s x : Int) : Int := if slotE o d s = 0 then reachN o d (s * 10000 + x) else 0
def inE (o d s x : Int) : Int := if slotE o d s = 0 then reachE o d (s * 10000 + x) else slotE o d s
/-- the window of a slot -/
def winE (o d s : Int) : Int := inE o d s 3221
noncomputable def winF (o d s : Int) : Int := if winE o d s = 0 then rc o d (s * 10000 + 1020) else 0
noncomputable def winT (o d s : Int) : Int := if winE o d s = 0 then rc o d (s * 10000 + 3221) - 1 else 0
/-- what Adjust returns -/
def adjOk (o d n : Int) : Prop := chk o d = 0 ∧ -2199023255552 ≤ n ∧ n ≤ 2199023255552 ∧ chk (o + n) d = 0
instance (o d n : Int) : Decidable (adjOk o d n) := by unfold adjOk; infer_instance
def adjO (o d n : Int) : Int := if adjOk o d n then o + n else 0
def adjD (o d n : Int) : Int := if adjOk o d n then d else 0
def adjE (o d n : Int) : Int := if adjOk o d n then 0 else 1
theorem adj_ok {o d n : Int} (hc : chk o d = 0) (n1 : -2199023255552 ≤ n) (n2 : n ≤ 2199023255552) (hc2 : chk (o + n) d = 0) : adjO o d n = o + n ∧ adjD o d n = d ∧ adjE o d n = 0 := by
  have h : adjOk o d n := ⟨hc, n1, n2, hc2⟩
  unfold adjO adjD adjE
  exact ⟨if_pos h, if_pos h, if_pos h⟩
theorem adj_no {o d n : Int} (h : ¬ adjOk o d n) : adjO o d n = 0 ∧ adjD o d n = 0 ∧ adjE o d n = 1 := by
  unfold adjO adjD adjE
  exact ⟨if_neg h, if_neg h, if_neg h⟩
theorem adj_no2 {o d n : Int} (h : chk (o + n) d = 1) : adjO o d n = 0 ∧ adjD o d n = 0 ∧ adjE o d n = 1 := adj_no (fun k => by have := k.2.2.2; omega)
theorem adj_no1 {o d n : Int} (h : chk o d = 1) : adjO o d n = 0 ∧ adjD o d n = 0 ∧ adjE o d n = 1 := adj_no (fun k => by have := k.1; omega)
theorem adj_no3 {o d n : Int} (h : ¬ (-2199023255552 ≤ n ∧ n ≤ 2199023255552)) : adjO o d n = 0 ∧ adjD o d n = 0 ∧ adjE o d n = 1 := adj_no (fun k => h ⟨k.2.1, k.2.2.1⟩)
/-- what Slot returns -/
def sloN (o d t : Int) : Int := if showE o d t = 0 ∧ 0 ≤ showN o d t then showN o d t / 10000 else 0
def sloE (o d t : Int) : Int := if showE o d t = 0 then (if 0 ≤ showN o d t then 0 else 14) else showE o d t
/-- what Apart returns -/
def apaN (oa da ob db t : Int) : Int := if chk oa da = 0 ∧ chk ob db = 0 ∧ 0 ≤ t ∧ t ≤ 1099511627776 then sh ob db t - sh oa da t else 0
def apaE (oa da ob db t : Int) : Int := if chk oa da = 0 ∧ chk ob db = 0 then (if 0 ≤ t ∧ t ≤ 1099511627776 then 0 else 2) else 1

theorem apa_ok {oa da ob db t : Int} (ha : chk oa da = 0) (hb : chk ob db = 0) (h0 : 0 ≤ t) (h1 : t ≤ 1099511627776) : apaN oa da ob db t = sh ob db t - sh oa da t ∧ apaE oa da ob db t = 0 := by
  unfold apaN apaE
  rw [if_pos ⟨ha, hb, h0, h1⟩, if_pos ⟨ha, hb⟩, if_pos ⟨h0, h1⟩]
  exact ⟨rfl, rfl⟩
theorem apa_out {oa da ob db t : Int} (ha : chk oa da = 0) (hb : chk ob db = 0) (h : ¬ (0 ≤ t ∧ t ≤ 1099511627776)) : apaN oa da ob db t = 0 ∧ apaE oa da ob db t = 2 := by
  unfold apaN apaE
  rw [if_neg (fun k => h k.2.2), if_pos ⟨ha, hb⟩, if_neg h]
  exact ⟨rfl, rfl⟩
theorem apa_bad {oa da ob db t : Int} (h : ¬ (chk oa da = 0 ∧ chk ob db = 0)) : apaN oa da ob db t = 0 ∧ apaE oa da ob db t = 1 := by
  unfold apaN apaE
  rw [if_neg (fun k => h ⟨k.1, k.2.1⟩), if_neg h]
  exact ⟨rfl, rfl⟩
theorem reach_le {o d x y : Int} (h : y ≤ x) (hx : x ≤ sh o d 1099511627776) : y ≤ sh o d 1099511627776 := by omega
theorem rc_bd (o d x : Int) (d1 : -100000 ≤ d) (d2 : d ≤ 100000) (h : x ≤ sh o d 1099511627776) : 0 ≤ rc o d x ∧ rc o d x ≤ 1099511627776 :=
  ⟨(rc_least o d x d1 d2 h).r0, (rc_least o d x d1 d2 h).r1⟩

/-- Go's quotient and remainder, rounded down -/
theorem floor_neg (a b : Int) (hb : 0 < b) (h : a.tmod b < 0) : a.tdiv b - 1 = a / b := by
  have h1 := Int.tmod_add_mul_tdiv a b
  have h3 := Int.lt_tmod_of_pos a hb
  symm
  rw [Int.ediv_eq_iff_of_pos hb, Int.sub_mul, Int.one_mul, Int.mul_comm]
  constructor <;> omega

theorem floor_zero (a b : Int) (ha : a < 0) (hb : 0 < b) (h : ¬ a.tmod b < 0) : a.tdiv b = a / b := by
  have h1 := Int.tmod_add_mul_tdiv a b
  have h2 : a.tmod b ≤ 0 := by
    have := Int.tmod_nonneg b (show 0 ≤ -a by omega)
    rw [Int.neg_tmod] at this
    omega
  have h3 : a.tmod b = 0 := by omega
  symm
  rw [Int.ediv_eq_iff_of_pos hb, Int.mul_comm]
  constructor <;> omega

theorem tdiv_bd (a b : Int) (ha : a ≤ 0) (hb : 0 < b) : a ≤ a.tdiv b ∧ a.tdiv b ≤ 0 := by
  have h1 := Int.tmod_add_mul_tdiv a b
  have h2 : a.tdiv b ≤ 0 := by
    have := Int.tdiv_nonneg (show 0 ≤ -a by omega) (show 0 ≤ b by omega)
    rw [Int.neg_tdiv] at this
    omega
  have h3 : a.tmod b ≤ 0 := by
    have := Int.tmod_nonneg b (show 0 ≤ -a by omega)
    rw [Int.neg_tmod] at this
    omega
  have h4 : b * a.tdiv b ≤ 1 * a.tdiv b := Int.mul_le_mul_of_nonpos_right (by omega) h2
  omega
end Go.Proofs.Ytjiaemmhjkhdhaa.Ck
