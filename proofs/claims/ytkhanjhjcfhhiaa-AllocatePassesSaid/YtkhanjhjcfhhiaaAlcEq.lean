/- Two usages, or two cells of a table, are compared as Go compares structs; and the reference's Same. No condition. -/
import Derived.Test.YtkhanjhjcfhhiaaAlcB
import Derived.Laws.StructEq
namespace Go.Proofs.Ytkhanjhjcfhhiaa
open Go.RowKit Go.Sort
set_option linter.unusedVariables false

theorem eqin_cl (d : Nat) (w : World) (a b : Cl) : (Op.equalIn (d + 2) 37 (.agg (encC a).toArray) (.agg (encC b).toArray)).run Try.prog w = .ok (decide (a = b)) w := by
  rw [run_equalIn_struct w (d + 1) 37 _ _ (by kernel_rfl) (by kernel_rfl)]
  obtain ⟨a0, a1, a2, a3, a4, a5⟩ := a
  obtain ⟨b0, b1, b2, b3, b4, b5⟩ := b
  simp [Program.fieldsOf, Try.underlying37, Op.eqFields, go_sem]
  repeat' split
  all_goals simp_all
theorem eqin_us (d : Nat) (w : World) (a b : Us) : (Op.equalIn (d + 3) 39 (.agg (encU a).toArray) (.agg (encU b).toArray)).run Try.prog w = .ok (decide (a = b)) w := by
  rw [run_equalIn_struct w (d + 2) 39 _ _ (by kernel_rfl) (by kernel_rfl)]
  have H := eqin_cl d w a.c b.c
  obtain ⟨⟨a0, a1, a2, a3, a4, a5⟩, a6, a7, a8⟩ := a
  obtain ⟨⟨b0, b1, b2, b3, b4, b5⟩, b6, b7, b8⟩ := b
  simp [Program.fieldsOf, Try.underlying39, Op.eqFields, go_sem, Try.underlying37]
  repeat' split
  all_goals simp_all
theorem eql_cl (w : World) (a b : Cl) : (binOp .eql 37 (.agg (encC a).toArray) (.agg (encC b).toArray)).run Try.prog w = .ok (.bool (decide (a = b))) w := by
  simp only [binOp]
  simp [Op.equal, Op.maxDepth, eqin_cl 9998 w a b]
theorem neq_us (w : World) (a b : Us) : (binOp .neq 39 (.agg (encU a).toArray) (.agg (encU b).toArray)).run Try.prog w = .ok (.bool (!decide (a = b))) w := by
  simp only [binOp]
  simp [Op.equal, Op.maxDepth, eqin_us 9997 w a b]

theorem same_ne {l1 l2 : List Us} {k : Nat} {x y : Us} (h1 : l1[k]? = some x) (h2 : l2[k]? = some y) (h : x ≠ y) : decide (l1 = l2) = false := by
  refine decide_eq_false fun e => h ?_
  subst e; rw [h1] at h2; exact Option.some.inj h2

set_option maxHeartbeats 4000000 in
theorem same_any (v1 v2 : Value) (l1 l2 : List Us) (w : World) (h1 : Rows 9 encU w v1 l1) (h2 : Rows 9 encU w v2 l2) (hbig : (l1.length : Int) ≤ 4611686018427387904) :
    Calls Try.prog 27 #[v1, v2] w fun e w' => e = .returned (.bool (decide (l1 = l2))) ∧ Gr w w' := by
  have N1 : ∃ A c, v1 = .slice A l1.length c := h1.slice
  have N2 : ∃ A c, v2 = .slice A l2.length c := h2.slice
  obtain ⟨A1, c1, rfl⟩ := N1
  obtain ⟨A2, c2, rfl⟩ := N2
  by_cases hl : l1.length = l2.length
  · have U1 : Aside (USl w (.slice A1 l1.length c1) l1) := h1.usl
    have U2 : Aside (USl w (.slice A2 l2.length c2) l2) := h2.usl
    obtain ⟨n, hn⟩ : ∃ n, l1.length = n := ⟨_, rfl⟩
    have hn2 : l2.length = n := by omega
    have HN1 := Lib.hid hn
    have HN2 := Lib.hid hn2
    rw [hn2, hn]
    rw [hn] at hbig
    have e0 : ((n : Int) != (n : Int)) = false := by simp
    have eqn := fun W (a b : Us) => neq_us W a b
    clear h1 h2 hn hn2 hl
    go_enter Try.func27, Try.ntmps27
    go_wp2_with fail
    go_loopg [4, 5] n (fun gg _ s5 wr => ∃ kk : Nat, kk ≤ n ∧ n - kk ≤ gg ∧ s5 = .int .i64 (kk : Int) ∧ Aside (Gr w wr) ∧ Aside (∀ j, j < kk → l1[j]? = l2[j]?))
    case atStart => exact ⟨0, Nat.zero_le _, by omega, rfl, Gr.refl _, fun j hj => absurd hj (Nat.not_lt_zero _)⟩
    case round =>
      obtain ⟨kk, hkk, hgg, rfl, G, AL⟩ := hrel
      by_cases hlt : kk < n
      · have hltz : (kk : Int) < (n : Int) := by omega
        obtain ⟨x, hx⟩ : ∃ x, l1[kk]? = some x := ⟨_, List.getElem?_eq_getElem (by rw [HN1.out]; exact hlt)⟩
        obtain ⟨y, hy⟩ : ∃ y, l2[kk]? = some y := ⟨_, List.getElem?_eq_getElem (by rw [HN2.out]; exact hlt)⟩
        rcases U1.out with h0 | ⟨b, off, ⟨c', hv⟩, hb, hU⟩
        · rw [HN1.out] at h0; omega
        simp only [Value.slice.injEq] at hv
        obtain ⟨rfl, -, rfl⟩ := hv
        rcases U2.out with h0 | ⟨b2, off2, ⟨c2', hv⟩, hb2, hU2⟩
        · rw [HN2.out] at h0; omega
        simp only [Value.slice.injEq] at hv
        obtain ⟨rfl, -, rfl⟩ := hv
        have g0 := ((hU kk x hx).gr G.out) 0 _ rfl; have g1 := ((hU kk x hx).gr G.out) 1 _ rfl; have g2 := ((hU kk x hx).gr G.out) 2 _ rfl; have g3 := ((hU kk x hx).gr G.out) 3 _ rfl; have g4 := ((hU kk x hx).gr G.out) 4 _ rfl; have g5 := ((hU kk x hx).gr G.out) 5 _ rfl; have g6 := ((hU kk x hx).gr G.out) 6 _ rfl; have g7 := ((hU kk x hx).gr G.out) 7 _ rfl; have g8 := ((hU kk x hx).gr G.out) 8 _ rfl; (try simp only [Nat.add_zero] at g0); (try simp only [Nat.zero_add] at g0 g1 g2 g3 g4 g5 g6 g7 g8)
        have q0 := ((hU2 kk y hy).gr G.out) 0 _ rfl; have q1 := ((hU2 kk y hy).gr G.out) 1 _ rfl; have q2 := ((hU2 kk y hy).gr G.out) 2 _ rfl; have q3 := ((hU2 kk y hy).gr G.out) 3 _ rfl; have q4 := ((hU2 kk y hy).gr G.out) 4 _ rfl; have q5 := ((hU2 kk y hy).gr G.out) 5 _ rfl; have q6 := ((hU2 kk y hy).gr G.out) 6 _ rfl; have q7 := ((hU2 kk y hy).gr G.out) 7 _ rfl; have q8 := ((hU2 kk y hy).gr G.out) 8 _ rfl; (try simp only [Nat.add_zero] at q0); (try simp only [Nat.zero_add] at q0 q1 q2 q3 q4 q5 q6 q7 q8)
        have X := Lib.hid hx
        have Y := Lib.hid hy
        clear hU hU2 hb hb2 hx hy
        by_cases hq : x = y
        · have dq : decide (x = y) = true := bt hq
          have HQ := Lib.hid hq
          clear hq
          go_wp2_with fail
          go_quiet (fail)
          go_wp2_with fail
          go_roundg (n - (kk + 1))
          case measure => omega
          case rel => exact ⟨kk + 1, by omega, by omega, by go_num, by have hgg := G.out; show Gr _ _; repeat (first | (with_reducible exact Gr.refl _) | (with_reducible assumption) | (with_reducible refine Gr.alloc ?_ _) | (with_reducible refine Gr.drewN ?_ _) | (with_reducible refine Gr.drew ?_) | (with_reducible refine Gr.grown ?_ _ _) | (with_reducible refine Gr.regrown ?_ _ _) | (with_reducible refine Gr.setCell ?_ (by first | omega | (simp; omega) | simp) _) | (with_reducible refine Gr.trans ?_ (by with_reducible assumption))), (show ∀ j, j < kk + 1 → l1[j]? = l2[j]? from fun j hj => by
            by_cases e : j = kk
            · subst e; rw [X.out, Y.out, HQ.out]
            · exact AL.out j (by omega))⟩
        · have dq : decide (x = y) = false := bf hq
          have R := Lib.hid (same_ne X.out Y.out hq)
          clear hq
          go_wp2_with fail
          go_quiet (fail)
          go_wp2_with fail
          go_ret
          exact ⟨ret_bool R.out.symm, by have hgg := G.out; repeat (first | (with_reducible exact Gr.refl _) | (with_reducible assumption) | (with_reducible refine Gr.alloc ?_ _) | (with_reducible refine Gr.drewN ?_ _) | (with_reducible refine Gr.drew ?_) | (with_reducible refine Gr.grown ?_ _ _) | (with_reducible refine Gr.regrown ?_ _ _) | (with_reducible refine Gr.setCell ?_ (by first | omega | (simp; omega) | simp) _) | (with_reducible refine Gr.trans ?_ (by with_reducible assumption)))⟩
      · have hltz : ¬ (kk : Int) < (n : Int) := by omega
        have R : Hid (decide (l1 = l2) = true) := by
          refine decide_eq_true (List.ext_getElem? fun j => ?_)
          by_cases hj : j < n
          · exact AL.out j (by omega)
          · rw [List.getElem?_eq_none (by rw [HN1.out]; omega), List.getElem?_eq_none (by rw [HN2.out]; omega)]
        go_wp2_with fail
        go_ret
        exact ⟨ret_bool R.out.symm, G.out⟩
  · have R := Lib.hid (bf (fun e : l1 = l2 => hl (by rw [e])))
    have e0 : ((l1.length : Int) != (l2.length : Int)) = true := by simp; omega
    clear h1 h2 hl
    go_enter Try.func27, Try.ntmps27
    go_wp2_with fail
    go_ret
    exact ⟨ret_bool R.out.symm, by repeat (first | (with_reducible exact Gr.refl _) | (with_reducible assumption) | (with_reducible refine Gr.alloc ?_ _) | (with_reducible refine Gr.drewN ?_ _) | (with_reducible refine Gr.drew ?_) | (with_reducible refine Gr.grown ?_ _ _) | (with_reducible refine Gr.regrown ?_ _ _) | (with_reducible refine Gr.setCell ?_ (by first | omega | (simp; omega) | simp) _) | (with_reducible refine Gr.trans ?_ (by with_reducible assumption)))⟩
end Go.Proofs.Ytkhanjhjcfhhiaa
