/- Two states are compared as Go compares structs; the reference's Same. No condition. -/
import Derived.Test.YtjiaemmhjkhdhaaRunB
import Derived.Test.YtjiaemmhjkhdhaaHeld
import Derived.Laws.StructEq
import Derived.Deep.LoopGhost
namespace Go.Proofs.Ytjiaemmhjkhdhaa
open Go.RowKit Go.Sort
set_option linter.unusedVariables false

theorem eqin_ck (d : Nat) (w : World) (a b : Sy) : (Op.equalIn (d + 2) 23 (.agg #[.int .i64 a.o, .int .i64 a.d]) (.agg #[.int .i64 b.o, .int .i64 b.d])).run Try.prog w = .ok (decide (a.o = b.o ∧ a.d = b.d)) w := by
  rw [run_equalIn_struct w (d + 1) 23 _ _ (by kernel_rfl) (by kernel_rfl)]
  obtain ⟨a0, a1, a2, a3⟩ := a
  obtain ⟨b0, b1, b2, b3⟩ := b
  simp [Program.fieldsOf, Try.underlying23, Op.eqFields, go_sem]
  repeat' split
  all_goals simp_all
theorem neq_sy (w : World) (a b : Sy) : (binOp .neq 25 (.agg (encS a).toArray) (.agg (encS b).toArray)).run Try.prog w = .ok (.bool (!decide (a = b))) w := by
  simp only [binOp]
  have h : (Op.equalIn 10000 25 (.agg (encS a).toArray) (.agg (encS b).toArray)).run Try.prog w = .ok (decide (a = b)) w := by
    rw [run_equalIn_struct w 9999 25 _ _ (by kernel_rfl) (by kernel_rfl)]
    have H := eqin_ck 9997 w a b
    obtain ⟨a0, a1, a2, a3⟩ := a
    obtain ⟨b0, b1, b2, b3⟩ := b
    simp [Program.fieldsOf, Try.underlying25, Op.eqFields, go_sem, Try.underlying23]
    repeat' split
    all_goals simp_all
  simp [Op.equal, Op.maxDepth, h]

theorem sameS_ne {l1 l2 : List Sy} {k : Nat} {x y : Sy} (h1 : l1[k]? = some x) (h2 : l2[k]? = some y) (h : x ≠ y) : decide (l1 = l2) = false := by
  refine decide_eq_false fun e => h ?_
  subst e; rw [h1] at h2; exact Option.some.inj h2
/-- a slice of states: nothing, or a block -/
def SSl (w : World) (v : Value) (l : List Sy) : Prop := (l.length = 0 ∨ ∃ b off, (∃ c, v = .slice (some ⟨b, off, none⟩) l.length c) ∧ b < w.heap.size ∧ ∀ (i : Nat) x, l[i]? = some x → ∀ (j : Nat) u, (encS x)[j]? = some u → w.cell? ⟨b, off + i * 4 + j, none⟩ = some u)
theorem Rows.ssl {w : World} {v : Value} {l : List Sy} (h : Rows 4 encS w v l) : SSl w v l := by
  rcases h with ⟨rfl, _⟩ | ⟨b, off, c, hb, hv, hc⟩
  · exact .inl rfl
  · exact .inr ⟨b, off, ⟨c, hv⟩, hb, fun i x hi j u hj => hc i x hi j u hj⟩

set_option maxHeartbeats 4000000 in
theorem sameS_any (v1 v2 : Value) (l1 l2 : List Sy) (w : World) (h1 : Rows 4 encS w v1 l1) (h2 : Rows 4 encS w v2 l2) (hbig : (l1.length : Int) ≤ 4611686018427387904) :
    Calls Try.prog 37 #[v1, v2] w fun e w' => e = .returned (.bool (decide (l1 = l2))) ∧ Gr w w' := by
  have N1 : ∃ A c, v1 = .slice A l1.length c := h1.slice
  have N2 : ∃ A c, v2 = .slice A l2.length c := h2.slice
  obtain ⟨A1, c1, rfl⟩ := N1
  obtain ⟨A2, c2, rfl⟩ := N2
  by_cases hl : l1.length = l2.length
  · have U1 : Aside (SSl w (.slice A1 l1.length c1) l1) := h1.ssl
    have U2 : Aside (SSl w (.slice A2 l2.length c2) l2) := h2.ssl
    obtain ⟨n, hn⟩ : ∃ n, l1.length = n := ⟨_, rfl⟩
    have hn2 : l2.length = n := by omega
    have HN1 := Lib.hid hn
    have HN2 := Lib.hid hn2
    rw [hn2, hn]
    rw [hn] at hbig
    have e0 : ((n : Int) != (n : Int)) = false := by simp
    have eqn := fun W (a b : Sy) => neq_sy W a b
    clear h1 h2 hn hn2 hl
    go_enter Try.func37, Try.ntmps37
    go_wp2_with fail
    go_loopg [4, 5] n (fun gg _ s5 wr => ∃ kk : Nat, kk ≤ n ∧ n - kk ≤ gg ∧ s5 = .int .i64 (kk : Int) ∧ Aside (Gr w wr) ∧ Aside (∀ j, j < kk → l1[j]? = l2[j]?))
    case atStart => exact ⟨0, Nat.zero_le _, by omega, rfl, Gr.refl _, fun j hj => absurd hj (Nat.not_lt_zero _)⟩
    case round =>
      obtain ⟨kk, hkk, hgg, rfl, G, AL⟩ := hrel
      by_cases hlt : kk < n
      · have hltz : (kk : Int) < (n : Int) := by omega
        obtain ⟨x, hx⟩ : ∃ x, l1[kk]? = some x := ⟨_, List.getElem?_eq_getElem (by rw [HN1.out]; exact hlt)⟩
        obtain ⟨y, hy⟩ : ∃ y, l2[kk]? = some y := ⟨_, List.getElem?_eq_getElem (by rw [HN2.out]; exact hlt)⟩
        rcases U1.out with h0 | ⟨b, off, ⟨c', hv⟩, hb, hU⟩
        · rw [HN1.out] at h0; omega
        simp only [Value.slice.injEq] at hv
        obtain ⟨rfl, -, rfl⟩ := hv
        rcases U2.out with h0 | ⟨b2, off2, ⟨c2', hv⟩, hb2, hU2⟩
        · rw [HN2.out] at h0; omega
        simp only [Value.slice.injEq] at hv
        obtain ⟨rfl, -, rfl⟩ := hv
        have g0 := held_keep G.out (hU kk x hx 0 _ rfl)
        have g1 := held_keep G.out (hU kk x hx 1 _ rfl)
        have g2 := held_keep G.out (hU kk x hx 2 _ rfl)
        have g3 := held_keep G.out (hU kk x hx 3 _ rfl)
        have q0 := held_keep G.out (hU2 kk y hy 0 _ rfl)
        have q1 := held_keep G.out (hU2 kk y hy 1 _ rfl)
        have q2 := held_keep G.out (hU2 kk y hy 2 _ rfl)
        have q3 := held_keep G.out (hU2 kk y hy 3 _ rfl)
        simp only [Nat.add_zero] at g0 q0
        have X := Lib.hid hx
        have Y := Lib.hid hy
        clear hU hU2 hb hb2 hx hy
        by_cases hq : x = y
        · have dq : decide (x = y) = true := bt hq
          have HQ := Lib.hid hq
          clear hq
          go_wp2_with fail
          go_quiet (fail)
          go_wp2_with fail
          go_roundg (n - (kk + 1))
          case measure => omega
          case rel => exact ⟨kk + 1, by omega, by omega, by go_num, by have hgg := G.out; show Gr _ _; repeat (first | (with_reducible exact Gr.refl _) | (with_reducible assumption) | (with_reducible refine Gr.alloc ?_ _) | (with_reducible refine Gr.drewN ?_ _) | (with_reducible refine Gr.drew ?_) | (with_reducible refine Gr.grown ?_ _ _) | (with_reducible refine Gr.regrown ?_ _ _) | (with_reducible refine Gr.setCell ?_ (by first | omega | (simp; omega) | simp) _) | (with_reducible refine Gr.trans ?_ (by with_reducible assumption))), (show ∀ j, j < kk + 1 → l1[j]? = l2[j]? from fun j hj => by
            by_cases e : j = kk
            · subst e; rw [X.out, Y.out, HQ.out]
            · exact AL.out j (by omega))⟩
        · have dq : decide (x = y) = false := bf hq
          have R := Lib.hid (sameS_ne X.out Y.out hq)
          clear hq
          go_wp2_with fail
          go_quiet (fail)
          go_wp2_with fail
          go_ret
          exact ⟨ret_bool R.out.symm, by have hgg := G.out; repeat (first | (with_reducible exact Gr.refl _) | (with_reducible assumption) | (with_reducible refine Gr.alloc ?_ _) | (with_reducible refine Gr.drewN ?_ _) | (with_reducible refine Gr.drew ?_) | (with_reducible refine Gr.grown ?_ _ _) | (with_reducible refine Gr.regrown ?_ _ _) | (with_reducible refine Gr.setCell ?_ (by first | omega | (simp; omega) | simp) _) | (with_reducible refine Gr.trans ?_ (by with_reducible assumption)))⟩
      · have hltz : ¬ (kk : Int) < (n : Int) := by omega
        have R : Hid (decide (l1 = l2) = true) := by
          refine decide_eq_true (List.ext_getElem? fun j => ?_)
          by_cases hj : j < n
          · exact AL.out j (by omega)
          · rw [List.getElem?_eq_none (by rw [HN1.out]; omega), List.getElem?_eq_none (by rw [HN2.out]; omega)]
        go_wp2_with fail
        go_ret
        exact ⟨ret_bool R.out.symm, G.out⟩
  · have R := Lib.hid (bf (fun e : l1 = l2 => hl (by rw [e])))
    have e0 : ((l1.length : Int) != (l2.length : Int)) = true := by simp; omega
    clear h1 h2 hl
    go_enter Try.func37, Try.ntmps37
    go_wp2_with fail
    go_ret
    exact ⟨ret_bool R.out.symm, by repeat (first | (with_reducible exact Gr.refl _) | (with_reducible assumption) | (with_reducible refine Gr.alloc ?_ _) | (with_reducible refine Gr.drewN ?_ _) | (with_reducible refine Gr.drew ?_) | (with_reducible refine Gr.grown ?_ _ _) | (with_reducible refine Gr.regrown ?_ _ _) | (with_reducible refine Gr.setCell ?_ (by first | omega | (simp; omega) | simp) _) | (with_reducible refine Gr.trans ?_ (by with_reducible assumption)))⟩
end Go.Proofs.Ytjiaemmhjkhdhaa
