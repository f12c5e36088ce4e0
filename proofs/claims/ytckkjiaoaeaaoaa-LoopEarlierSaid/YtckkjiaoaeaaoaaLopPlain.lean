/- Plain definitions of what package loop computes on one loop. No condition. -/
import Derived.Test.YtckkjiaoaeaaoaaFlwPlain
namespace Go.Proofs.Ytckkjiaoaeaaoaa

/-- a control loop -/
structure Lo where
  id : Int
  se : Int
  co : Int
  ac : Int
  pe : Int
  ph : Int
  ag : Int
  deriving DecidableEq, Inhabited
/-- a split -/
structure Sp where
  s : Int
  a : Int
  deriving DecidableEq, Inhabited
/-- a delivery -/
structure Dv where
  f : Int
  r : Int
  t : Int
  deriving DecidableEq, Inhabited

namespace Lp
def okR (n : Int) (l : Lo) : Prop := ((0 ≤ l.id ∧ l.id ≤ 127) ∧ (0 ≤ l.se ∧ l.se < n) ∧ (0 ≤ l.co ∧ l.co < n) ∧ (0 ≤ l.ac ∧ l.ac < n)) ∧ ((1 ≤ l.pe ∧ l.pe ≤ 512) ∧ (0 ≤ l.ph ∧ l.ph < l.pe) ∧ (1 ≤ l.ag ∧ l.ag ≤ 1024))
instance (n : Int) (l : Lo) : Decidable (okR n l) := by unfold okR; infer_instance
def okA (l : Lo) : Prop := ¬ l.se = l.co ∧ ¬ l.ac = l.co
instance (l : Lo) : Decidable (okA l) := by unfold okA; infer_instance
/-- the fault of a loop -/
def flt (n : Int) (l : Lo) : Int := if okR n l then (if okA l then 0 else 1) else 2
theorem flt_no {n : Int} {l : Lo} (h : ¬ okR n l) : flt n l = 2 := if_neg h
theorem flt_arg {n : Int} {l : Lo} (h : okR n l) (h2 : ¬ okA l) : flt n l = 1 := by unfold flt; rw [if_pos h, if_neg h2]
theorem flt_ok {n : Int} {l : Lo} (h : okR n l) (h2 : okA l) : flt n l = 0 := by unfold flt; rw [if_pos h, if_pos h2]
theorem flt_inv {n : Int} {l : Lo} (h : flt n l = 0) : okR n l ∧ okA l := by
  unfold flt at h
  split at h
  · split at h
    · exact ⟨by assumption, by assumption⟩
    · exact absurd h (by decide)
  · exact absurd h (by decide)
theorem flt_cases (n : Int) (l : Lo) : flt n l = 0 ∨ (flt n l != 0) = true := by
  by_cases h : flt n l = 0
  · exact .inl h
  · exact .inr (by simpa using h)
/-- a split fits -/
def fit (l : Lo) (s : Sp) : Prop := 1 ≤ s.s ∧ 1 ≤ s.a ∧ s.s ≤ l.pe ∧ s.a ≤ l.pe ∧ s.s + s.a ≤ l.pe ∧ l.pe + s.s + s.a - 1 ≤ l.ag
instance (l : Lo) (s : Sp) : Decidable (fit l s) := by unfold fit; infer_instance
/-- the error of a loop with a split -/
def rgt (l : Lo) (s : Sp) : Int := if flt 32 l = 0 then (if fit l s then 0 else 11) else flt 32 l
theorem rgt_flt {l : Lo} {s : Sp} (h : ¬ flt 32 l = 0) : rgt l s = flt 32 l := if_neg h
theorem rgt_fit {l : Lo} {s : Sp} (h : flt 32 l = 0) (h2 : ¬ fit l s) : rgt l s = 11 := by unfold rgt; rw [if_pos h, if_neg h2]
theorem rgt_ok {l : Lo} {s : Sp} (h : flt 32 l = 0) (h2 : fit l s) : rgt l s = 0 := by unfold rgt; rw [if_pos h, if_pos h2]
theorem rgt_inv {l : Lo} {s : Sp} (h : rgt l s = 0) : (okR 32 l ∧ okA l) ∧ fit l s := by
  unfold rgt at h
  split at h
  · rename_i h1
    split at h
    · exact ⟨flt_inv h1, by assumption⟩
    · exact absurd h (by decide)
  · rename_i h1
    exact absurd h h1
theorem rgt_cases (l : Lo) (s : Sp) : rgt l s = 0 ∨ (rgt l s != 0) = true := by
  by_cases h : rgt l s = 0
  · exact .inl h
  · exact .inr (by simpa using h)
def wst (l : Lo) (s : Sp) : Int := l.pe + s.s + s.a - 1
def wstN (l : Lo) (s : Sp) : Int := if rgt l s = 0 then wst l s else 0
/-- the two flows -/
def fa (l : Lo) (s : Sp) : Fl := ⟨2 * l.id, l.se, l.co, l.pe, l.ph, s.s⟩
def fb (l : Lo) (s : Sp) : Fl := ⟨2 * l.id + 1, l.co, l.ac, l.pe, (l.ph + s.s) % l.pe, s.a⟩
theorem fa_ok {l : Lo} {s : Sp} (h : rgt l s = 0) : Fw.chk 32 (fa l s) = 0 := by
  obtain ⟨⟨h1, h2⟩, h3⟩ := rgt_inv h
  unfold okR at h1
  unfold okA at h2
  unfold fit at h3
  refine Fw.chk_ok ?_ ?_
  · unfold Fw.okR fa; dsimp only; omega
  · exact h2.1
theorem fb_ok {l : Lo} {s : Sp} (h : rgt l s = 0) : Fw.chk 32 (fb l s) = 0 := by
  obtain ⟨⟨h1, h2⟩, h3⟩ := rgt_inv h
  unfold okR at h1
  unfold okA at h2
  unfold fit at h3
  have m1 := Int.emod_nonneg (l.ph + s.s) (show l.pe ≠ 0 by omega)
  have m2 := Int.emod_lt_of_pos (l.ph + s.s) (show 0 < l.pe by omega)
  refine Fw.chk_ok ?_ ?_
  · unfold Fw.okR fb
    dsimp only
    generalize (l.ph + s.s) % l.pe = m at m1 m2 ⊢
    omega
  · exact fun e => h2.2 e.symm
def flwL (l : Lo) (s : Sp) : List Fl := if rgt l s = 0 then [fa l s, fb l s] else []

/-- the greatest sum that fits -/
def sum (l : Lo) : Int := min l.pe (l.ag - l.pe + 1)
def spN (l : Lo) : Nat := (sum l - 1).toNat
def spA (l : Lo) (i : Nat) : Sp := ⟨(i : Int) + 1, sum l - 1 - (i : Int)⟩
def spl (l : Lo) : List Sp := if flt 32 l = 0 then (List.range (spN l)).map (spA l) else []
theorem spl_no {l : Lo} (h : ¬ flt 32 l = 0) : spl l = [] := if_neg h
theorem spl_ok {l : Lo} (h : flt 32 l = 0) : spl l = (List.range (spN l)).map (spA l) := if_pos h
theorem spl_snoc (l : Lo) (n : Nat) : (List.range (n + 1)).map (spA l) = (List.range n).map (spA l) ++ [spA l n] := by rw [List.range_succ, List.map_append]; rfl

/-- the fault at an index of a list of loops -/
def at_ (l : List Lo) (j : Nat) : Lo := l.getD j default
def badE (n : Int) (l : List Lo) (j : Nat) : Int := if flt n (at_ l j) = 0 then (if 0 < j ∧ (at_ l j).id ≤ (at_ l (j - 1)).id then 5 else 0) else flt n (at_ l j)
theorem at_eq {l : List Lo} {j : Nat} {x : Lo} (h : l[j]? = some x) : at_ l j = x := by unfold at_; rw [List.getD_eq_getElem?_getD, h]; rfl
/-- the first fault from an index on -/
def scan (n : Int) (l : List Lo) : Nat → Nat → Int × Int
  | 0, _ => (-1, 0)
  | k + 1, j => if badE n l j = 0 then scan n l k (j + 1) else ((j : Int), badE n l j)
def chkL (n : Int) (l : List Lo) : Int × Int := if 2 ≤ n ∧ n ≤ 32 then (if l.length ≤ 8 then scan n l l.length 0 else (-1, 8)) else (-1, 2)
theorem chkL_n {n : Int} {l : List Lo} (h : ¬ (2 ≤ n ∧ n ≤ 32)) : chkL n l = (-1, 2) := if_neg h
theorem chkL_big {n : Int} {l : List Lo} (h : 2 ≤ n ∧ n ≤ 32) (h2 : ¬ l.length ≤ 8) : chkL n l = (-1, 8) := by unfold chkL; rw [if_pos h, if_neg h2]
theorem chkL_go {n : Int} {l : List Lo} (h : 2 ≤ n ∧ n ≤ 32) (h2 : l.length ≤ 8) : chkL n l = scan n l l.length 0 := by unfold chkL; rw [if_pos h, if_pos h2]
theorem scan_bad {n : Int} {l : List Lo} {k j : Nat} (h : ¬ badE n l j = 0) : scan n l (k + 1) j = ((j : Int), badE n l j) := if_neg h
theorem scan_go {n : Int} {l : List Lo} {k j : Nat} (h : badE n l j = 0) : scan n l (k + 1) j = scan n l k (j + 1) := if_pos h
theorem bad_flt {n : Int} {l : List Lo} {j : Nat} {x : Lo} (hx : l[j]? = some x) (h : ¬ flt n x = 0) : badE n l j = flt n x := by unfold badE; rw [at_eq hx, if_neg h]
theorem bad_ord {n : Int} {l : List Lo} {j : Nat} {x y : Lo} (hx : l[j]? = some x) (h : flt n x = 0) (h0 : 0 < j) (hy : l[j - 1]? = some y) (hq : x.id ≤ y.id) : badE n l j = 5 := by
  unfold badE; rw [at_eq hx, at_eq hy, if_pos h, if_pos ⟨h0, hq⟩]
theorem bad_no {n : Int} {l : List Lo} {j : Nat} {x : Lo} (hx : l[j]? = some x) (h : flt n x = 0) (hq : ∀ y, 0 < j → l[j - 1]? = some y → ¬ x.id ≤ y.id) : badE n l j = 0 := by
  have hj := (List.getElem?_eq_some_iff.1 hx).1
  unfold badE
  rw [at_eq hx, if_pos h, if_neg]
  rintro ⟨h0, h1⟩
  obtain ⟨y, hy⟩ : ∃ y, l[j - 1]? = some y := ⟨_, List.getElem?_eq_getElem (by omega)⟩
  rw [at_eq hy] at h1
  exact hq y h0 hy h1
end Lp
end Go.Proofs.Ytckkjiaoaeaaoaa
