/- Plain definitions of what flow.Check, Hyper and Find compute over a row of flows. No condition. -/
import Derived.Test.YtabckmanijcndaaFlwPlain
namespace Go.Proofs.Ytabckmanijcndaa

/-- the first index below n at which p holds, or n -/
def fst (p : Nat → Bool) : Nat → Nat
  | 0 => 0
  | n + 1 => if fst p n < n then fst p n else if p n then n else n + 1

theorem fst_miss {p : Nat → Bool} : ∀ {n : Nat}, (∀ j, j < n → p j = false) → fst p n = n
  | 0, _ => rfl
  | n + 1, h => by
    unfold fst
    rw [fst_miss (n := n) (fun j hj => h j (by omega)), if_neg (Nat.lt_irrefl n), h n (by omega)]
    rfl

theorem fst_hit {p : Nat → Bool} {k : Nat} (h : ∀ j, j < k → p j = false) (hk : p k = true) : ∀ d, fst p (k + 1 + d) = k
  | 0 => by
    show fst p (k + 1) = k
    unfold fst
    rw [fst_miss h, if_neg (Nat.lt_irrefl k), hk]
    rfl
  | d + 1 => by
    show fst p (k + 1 + d + 1) = k
    unfold fst
    rw [fst_hit h hk d, if_pos (by omega)]

theorem fst_hit' {p : Nat → Bool} {k n : Nat} (h : ∀ j, j < k → p j = false) (hk : p k = true) (hn : k < n) : fst p n = k := by
  have := fst_hit h hk (n - (k + 1))
  rwa [show k + 1 + (n - (k + 1)) = n by omega] at this

namespace Fw
/-- the fault at an index -/
def badE (m : Int) (zs : Nat → Fl) (j : Nat) : Int := if chk m (zs j) = 0 then (if 0 < j ∧ (zs j).id ≤ (zs (j - 1)).id then 5 else 0) else chk m (zs j)
def badB (m : Int) (zs : Nat → Fl) (j : Nat) : Bool := badE m zs j != 0
def okM (m : Int) (n : Nat) : Prop := 2 ≤ m ∧ m ≤ 32 ∧ n ≤ 16
instance (m : Int) (n : Nat) : Decidable (okM m n) := by unfold okM; infer_instance
def cI (m : Int) (n : Nat) (zs : Nat → Fl) : Int := if okM m n then (if fst (badB m zs) n < n then (fst (badB m zs) n : Int) else -1) else -1
def cE (m : Int) (n : Nat) (zs : Nat → Fl) : Int := if 2 ≤ m ∧ m ≤ 32 then (if n ≤ 16 then (if fst (badB m zs) n < n then badE m zs (fst (badB m zs) n) else 0) else 8) else 2

theorem bad_chk {m : Int} {zs : Nat → Fl} {j : Nat} (h : ¬ chk m (zs j) = 0) : badE m zs j = chk m (zs j) ∧ badB m zs j = true := by
  have : badE m zs j = chk m (zs j) := if_neg h
  exact ⟨this, by unfold badB; rw [this]; simpa using h⟩
theorem bad_ord {m : Int} {zs : Nat → Fl} {j : Nat} (h : chk m (zs j) = 0) (h0 : 0 < j) (h1 : (zs j).id ≤ (zs (j - 1)).id) : badE m zs j = 5 ∧ badB m zs j = true := by
  have : badE m zs j = 5 := by unfold badE; rw [if_pos h, if_pos ⟨h0, h1⟩]
  exact ⟨this, by unfold badB; rw [this]; rfl⟩
theorem bad_no {m : Int} {zs : Nat → Fl} {j : Nat} (h : chk m (zs j) = 0) (h1 : ¬ (0 < j ∧ (zs j).id ≤ (zs (j - 1)).id)) : badB m zs j = false := by
  unfold badB badE; rw [if_pos h, if_neg h1]; rfl
theorem c_hit {m : Int} {n k : Nat} {zs : Nat → Fl} (hm : okM m n) (h : ∀ j, j < k → badB m zs j = false) (hk : badB m zs k = true) (hn : k < n) : cI m n zs = k ∧ cE m n zs = badE m zs k := by
  have hf := fst_hit' h hk hn
  constructor
  · unfold cI; rw [if_pos hm, hf, if_pos hn]
  · unfold cE; rw [if_pos ⟨hm.1, hm.2.1⟩, if_pos hm.2.2, hf, if_pos hn]
theorem c_miss {m : Int} {n : Nat} {zs : Nat → Fl} (hm : okM m n) (h : ∀ j, j < n → badB m zs j = false) : cI m n zs = -1 ∧ cE m n zs = 0 := by
  have hf := fst_miss h
  constructor
  · unfold cI; rw [if_pos hm, hf, if_neg (Nat.lt_irrefl n)]
  · unfold cE; rw [if_pos ⟨hm.1, hm.2.1⟩, if_pos hm.2.2, hf, if_neg (Nat.lt_irrefl n)]
theorem c_nodes {m : Int} {n : Nat} {zs : Nat → Fl} (hm : ¬ (2 ≤ m ∧ m ≤ 32)) : cI m n zs = -1 ∧ cE m n zs = 2 :=
  ⟨if_neg fun h => hm ⟨h.1, h.2.1⟩, if_neg hm⟩
theorem c_big {m : Int} {n : Nat} {zs : Nat → Fl} (hm : 2 ≤ m ∧ m ≤ 32) (hn : ¬ n ≤ 16) : cI m n zs = -1 ∧ cE m n zs = 8 :=
  ⟨if_neg fun h => hn h.2.2, by unfold cE; rw [if_pos hm, if_neg hn]⟩
end Fw
end Go.Proofs.Ytabckmanijcndaa
