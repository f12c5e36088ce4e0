/- A region that draws its order: its first operations read, draw, and call what lays blocks; the others follow one another in one order and may write. One walk in the order of the text serves every order. No condition. -/
import Derived.Test.YtjiaemmhjkhdhaaGr
import Derived.StillTail
import Derived.Deep.Quiet
namespace Go.Proofs.Ytjiaemmhjkhdhaa.QT
open Go

section
variable {P : Program} {ops : Array Oper} {md : Region.Mode} {C : World → Prop} {n : Nat} {L : Array Bool → Act → Prop}

/-- whatever is picked of the first n operations, f times; then L -/
def Heads (P : Program) (md : Region.Mode) (ops : Array Oper) (C : World → Prop) (n : Nat) (L : Array Bool → Act → Prop) : Nat → Array Bool → Act → Prop
  | 0, ls, a => L ls a
  | f + 1, ls, a => Region.ready md ops ls ≠ [] ∧ ∀ i, i ∈ Region.ready md ops ls → i < n ∧ qOp P ops C i (Heads P md ops C n L f (ls.setIfInBounds i true)) a

theorem any_of_heads {g : Nat} {Q' : Exit → Act → World → Prop} (hL : ∀ ls a w, C w → L ls a → wpAny P md ops Q' g ls a w) :
    ∀ f ls a w, C w → Heads P md ops C n L f ls a → wpAny P md ops Q' (f + g) ls a w := by
  intro f
  induction f with
  | zero => intro ls a w hw h; simpa using hL ls a w hw h
  | succ f ih =>
    intro ls a w hw h
    have e : f + 1 + g = (f + g) + 1 := by omega
    rw [e]
    refine ⟨fun h0 => absurd h0 h.1, fun i hi => ?_⟩
    exact wpOp_of_qOp hw (fun a' w' hw' h' => ih _ a' w' hw' h') (h.2 i hi).2

/-- what may come up now, and is quiet, may be taken first -/
theorem heads_first {i : Nat} {oi : Oper} {v : Value} (hi : ops[i]? = some oi) (hsel : ∀ (j : Nat) (o : Oper) cs b, ops[j]? = some o → o.op ≠ .select cs b)
    (hs : Region.sinkB md ops n = true) (hc : Region.chainB md ops n = true) (hn : n < ops.size) (hin : i < n) (hend : ∀ ls a, L ls a → ∀ j ∈ Region.ready md ops ls, n ≤ j) :
    ∀ f ls a, HeadInv md ops n ls → (∀ j oj, ops[j]? = some oj → j ≠ i → ls.getD j true = false → (∀ e ∈ oj.after, Region.binds md e = true → e.on ≠ i) → oi.apart ops oj = true) →
      i ∈ Region.ready md ops ls → YieldsIn P ops C oi v a → Heads P md ops C n L f (ls.setIfInBounds i true) (a.put oi.dst v) → Heads P md ops C n L (f + 1) ls a := by
  intro f
  induction f with
  | zero =>
    intro ls a inv _ hr hy H
    have hun := (mem_ready.1 hr).1
    have low : ∀ j, j ∈ Region.ready md ops ls → j < n := fun j hj => Nat.lt_of_not_le fun h => tail_waits hs hc hn inv _ i rfl hin hun j h hj
    refine ⟨fun h => by rw [h] at hr; exact absurd hr (by simp), fun j hj => ⟨low j hj, ?_⟩⟩
    by_cases e : j = i
    · rw [e]; exact hy.qOp hi H
    · exact absurd (low j hj) (Nat.not_lt.2 (hend _ _ H j (ready_mono hj e)))
  | succ f ih =>
    intro ls a inv hfree hr hy H
    have hun := (mem_ready.1 hr).1
    have low : ∀ j, j ∈ Region.ready md ops ls → j < n := fun j hj => Nat.lt_of_not_le fun h => tail_waits hs hc hn inv _ i rfl hin hun j h hj
    refine ⟨fun h => by rw [h] at hr; exact absurd hr (by simp), fun j hj => ⟨low j hj, ?_⟩⟩
    by_cases e : j = i
    · rw [e]; exact hy.qOp hi H
    · obtain ⟨hjun, oj, hoj, hall⟩ := mem_ready.1 hj
      have hno : ∀ x ∈ oj.after, Region.binds md x = true → x.on ≠ i := by
        intro x hx hb he
        have := hall x hx hb
        rw [he, getD_both hun] at this
        exact absurd this (by simp)
      have hq := qOp_put hoj (hfree j oj hoj e hjun hno) (fun cs b => hsel i oi cs b hi) (fun cs b => hsel j oj cs b hoj) hy (H.2 j (ready_mono hj e)).2
      refine qOp_mono (fun a' h3 => ?_) hq
      have hcm : (ls.setIfInBounds j true).setIfInBounds i true = (ls.setIfInBounds i true).setIfInBounds j true := (Array.setIfInBounds_comm _ _ (Ne.symm e)).symm
      refine ih _ a' (inv.set hj (low j hj)) ?_ (ready_mono hr (Ne.symm e)) h3.1 (by rw [hcm]; exact h3.2)
      intro k ok hk hki hkun hkno
      refine hfree k ok hk hki ?_ hkno
      by_cases ejk : j = k
      · rw [← ejk]; exact hjun
      · rwa [getD_set_ne true ejk] at hkun

theorem heads_lex {g : Nat} {Lq : Act → Prop} (hsel : Region.noSelect ops = true) (hs : Region.sinkB md ops n = true) (hc : Region.chainB md ops n = true) (hn : n < ops.size) :
    ∀ (l : List Oper) (k : Nat) (ls : Array Bool) (a : Act), (∀ j, j < l.length → l[j]? = ops[k + j]?) → k + l.length = n → HeadInv md ops n ls → Region.lexHead md ops g l.length k ls = true →
      wpQuiet P ops C Lq l a → Heads P md ops C n (fun ls' a' => Region.seqB md ops g n ls' = true ∧ Lq a') l.length ls a := by
  intro l
  induction l with
  | nil =>
    intro k ls a _ hk _ hB h
    obtain rfl : k = n := by simpa using hk
    exact ⟨by simpa [Region.lexHead] using hB, h⟩
  | cons o l ih =>
    intro k ls a hl hk inv hB h
    have h0 : ops[k]? = some o := by simpa using (hl 0 (by simp)).symm
    simp only [List.length_cons] at hk
    simp only [List.length_cons, Region.lexHead, Bool.and_eq_true] at hB
    have hkr : k ∈ Region.ready md ops ls := by simpa using hB.1.1
    have hq : qOp P ops C k (wpQuiet P ops C Lq l) a := by unfold qOp; rw [h0]; exact h
    obtain ⟨v, hy, hK⟩ := yieldsIn_of_qOp h0 hq
    refine heads_first h0 (Region.noSelect_spec hsel) hs hc hn (by omega) (fun ls' a' hL => seqB_ready hL.1) l.length ls a inv (Region.free_spec h0 hB.1.2) hkr hy ?_
    refine ih (k + 1) _ _ (fun j hj => ?_) (by omega) (inv.set hkr (by omega)) hB.2 hK
    have := hl (j + 1) (by simp; omega)
    rw [List.getElem?_cons_succ] at this
    rw [this]
    congr 1
    omega
end

/-- the law, at the class of worlds that have only grown -/
theorem wp_region_tail {P : Program} {id : Nat} {Q : Exit → Act → World → Prop} {a : Act} {w : World} {l : List Oper} (n : Nat) (hm : P.follows .mixedOrders = true) (hB : Region.lexTailB .any l.toArray n = true)
    (h : wpQuiet P l.toArray (fun w' => ∃ p : Regrown, w' = Sort.grow (redrawn w p.d) p.os) (fun a' => ∀ w', (∃ p : Regrown, w' = Sort.grow (redrawn w p.d) p.os) → wpList P l.toArray Q (l.drop n) a' w') (l.take n) a) : (Code.region id l.toArray true).wp P Q a w := by
  simp only [Region.lexTailB, Bool.and_eq_true, decide_eq_true_eq] at hB
  have hn : n < l.length := by simpa using hB.1.1.1.2
  have htl : (l.take n).length = n := by simp; omega
  have hdl : (l.drop n).length = l.toArray.size - n := by simp
  have inv0 : HeadInv .any l.toArray n (Array.replicate l.toArray.size false) :=
    ⟨by simp, fun j oj _ hl => (by rw [getD_replicate_false] at hl; exact absurd hl (by simp)), fun t _ ht => getD_in (by simpa using ht) (getD_replicate_false _ _)⟩
  have H := heads_lex (md := .any) (g := l.toArray.size - n) hB.1.1.1.1 hB.1.1.2 hB.1.2 hB.1.1.1.2 (l.take n) 0 _ a (fun j hj => by
    have hj' : j < n := by rw [htl] at hj; exact hj
    simp [hj']) (by simpa using htl) inv0 (by rw [htl]; exact hB.2) h
  have hC : ∃ p : Regrown, { w with drawn := w.drawn + 1 } = Sort.grow (redrawn w p.d) p.os := ⟨⟨w.drawn + 1, #[]⟩, by rw [Sort.grow_empty]; rfl⟩
  refine wp_region_any hm ?_
  have K := any_of_heads (Q' := Q) (g := l.toArray.size - n) (fun ls a' w' hw' hL => by
    have := wpAny_of_seq (md := .any) (Q' := Q) (l.drop n) n ls a' w' (fun j => by simp [List.getElem?_drop]) (by rw [hdl]; exact hL.1) (hL.2 w' hw')
    rwa [hdl] at this) _ _ _ _ hC H
  rw [htl, show n + (l.toArray.size - n) = l.toArray.size by omega] at K
  exact K
end Go.Proofs.Ytjiaemmhjkhdhaa.QT
