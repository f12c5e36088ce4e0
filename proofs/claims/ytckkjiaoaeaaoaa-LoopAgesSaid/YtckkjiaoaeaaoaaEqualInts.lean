/- The contract of slices.Equal at []int: it tells whether the two lists are one. -/
import Derived.Test.YtckkjiaoaeaaoaaRows
import Derived.Test.YtckkjiaoaeaaoaaRow
import Derived.Test.YtckkjiaoaeaaoaaRet
import Derived.Deep.LoopGhost
namespace Go.Proofs.Ytckkjiaoaeaaoaa
open Go.RowKit Go.Sort
set_option linter.unusedVariables false

theorem lists_ne {l1 l2 : List Int} {k : Nat} (h1 : k < l1.length) (h2 : k < l2.length) (h : l1[k] ≠ l2[k]) : decide (l1 = l2) = false := by
  refine decide_eq_false fun e => h ?_
  subst e; rfl

set_option maxHeartbeats 2000000 in
theorem equal_any (v1 v2 : Value) (l1 l2 : List Int) (w : World) (h1 : Rows 1 encI w v1 l1) (h2 : Rows 1 encI w v2 l2) (hb1 : (l1.length : Int) ≤ 9223372036854775807) (hb2 : (l2.length : Int) ≤ 9223372036854775807) :
    Calls Try.prog 35 #[v1, v2] w fun e w' => e = .returned (.bool (decide (l1 = l2))) ∧ Gr w w' := by
  by_cases hnm : l1.length = l2.length
  · rcases h1 with ⟨rfl, A, c, rfl, _⟩ | ⟨b, off, c, hb, rfl, hc⟩
    · have e2 : l2 = [] := List.eq_nil_of_length_eq_zero (by rw [← hnm]; rfl)
      subst e2
      have hv : ∃ A2 c2, v2 = .slice A2 0 c2 := by
        rcases h2 with ⟨_, A, c, rfl, _⟩ | ⟨b, off, c, _, rfl, _⟩
        · exact ⟨_, _, rfl⟩
        · exact ⟨_, _, rfl⟩
      obtain ⟨A2, c2, rfl⟩ := hv
      clear h2
      go_enter Try.func35, Try.ntmps35
      go_wp2
      go_loopg [13] 0 (fun _ s13 wr => s13 = .int .i64 0 ∧ wr = w)
      case atStart => exact ⟨rfl, rfl⟩
      case round =>
        obtain ⟨rfl, rfl⟩ := hrel
        go_wp2
        go_ret
        exact ⟨rfl, Gr.refl _⟩
    · rcases h2 with ⟨rfl, A, c2, rfl, _⟩ | ⟨b2, off2, c2, hb', rfl, hc2⟩
      · have e1 : l1 = [] := List.eq_nil_of_length_eq_zero (by rw [hnm]; rfl)
        subst e1
        clear hc
        go_enter Try.func35, Try.ntmps35
        go_wp2
        go_loopg [13] 0 (fun _ s13 wr => s13 = .int .i64 0 ∧ wr = w)
        case atStart => exact ⟨rfl, rfl⟩
        case round =>
          obtain ⟨rfl, rfl⟩ := hrel
          go_wp2
          go_ret
          exact ⟨rfl, Gr.refl _⟩
      · have HC := Lib.hid (Rows.int_cell hc)
        have HC2 := Lib.hid (Rows.int_cell hc2)
        have HB := Lib.hid hb
        have HB2 := Lib.hid hb'
        have HN := Lib.hid hnm
        clear hc hc2 hb hb'
        obtain ⟨n, hn1, hn2⟩ : ∃ n, l1.length = n ∧ l2.length = n := ⟨_, rfl, hnm.symm⟩
        rw [hn1] at hb1 ⊢
        rw [hn2]
        have HN1 := Lib.hid hn1
        have HN2 := Lib.hid hn2
        clear hn1 hn2 hnm hb2
        go_enter Try.func35, Try.ntmps35
        go_wp2
        go_loopg [13] n (fun g s13 wr => ∃ kk : Nat, kk ≤ n ∧ n - kk ≤ g ∧ s13 = .int .i64 kk ∧ Aside (Gr w wr) ∧ Aside (∀ j, j < kk → l1.getD j 0 = l2.getD j 0))
        case atStart => exact ⟨0, Nat.zero_le _, by omega, rfl, Gr.refl _, fun j hj => absurd hj (Nat.not_lt_zero _)⟩
        case round =>
          obtain ⟨kk, hkk, hg, rfl, G, A⟩ := hrel
          by_cases hlt : kk < n
          · have hltz : (kk : Int) < (n : Int) := by omega
            have g1 := (G.out.cell (p := ⟨b, off + kk, none⟩) HB.out).trans (HC.out kk (by rw [HN1.out]; exact hlt))
            have g2 := (G.out.cell (p := ⟨b2, off2 + kk, none⟩) HB2.out).trans (HC2.out kk (by rw [HN2.out]; exact hlt))
            generalize hx : l1[kk]'(by rw [HN1.out]; exact hlt) = x at g1
            generalize hy : l2[kk]'(by rw [HN2.out]; exact hlt) = y at g2
            have X := Lib.hid hx
            have Y := Lib.hid hy
            clear hx hy
            by_cases q : x = y
            · have q2 : (x != y) = false := by simpa using q
              have Q := Lib.hid q
              clear q
              go_wp2_with fail
              go_quiet (fail)
              go_wp2
              go_roundg (n - (kk + 1))
              case measure => omega
              case rel => exact ⟨kk + 1, by omega, by omega, by go_num, G.out.drewN _, (show ∀ j, j < kk + 1 → l1.getD j 0 = l2.getD j 0 from fun j hj => by
                by_cases e : j = kk
                · subst e
                  rw [List.getD_eq_getElem?_getD, List.getD_eq_getElem?_getD, List.getElem?_eq_getElem (by rw [HN1.out]; exact hlt), List.getElem?_eq_getElem (by rw [HN2.out]; exact hlt)]
                  simp only [Option.getD_some, X.out, Y.out, Q.out]
                · exact A.out j (by omega))⟩
            · have q2 : (x != y) = true := by simpa using q
              have H := Lib.hid (lists_ne (k := kk) (l1 := l1) (l2 := l2) (by rw [HN1.out]; exact hlt) (by rw [HN2.out]; exact hlt) (by rw [X.out, Y.out]; exact q))
              clear q
              go_wp2_with fail
              go_quiet (fail)
              go_wp2
              go_ret
              exact ⟨ret_bool H.out.symm, G.out.drewN _⟩
          · have hltz : ¬ (kk : Int) < (n : Int) := by omega
            have : kk = n := by omega
            subst this
            have H : Hid (true = decide (l1 = l2)) := (decide_eq_true (List.ext_getElem HN.out (fun i h1 h2 => by
              have := A.out i (by rw [← HN1.out]; exact h1)
              rwa [List.getD_eq_getElem?_getD, List.getD_eq_getElem?_getD, List.getElem?_eq_getElem h1, List.getElem?_eq_getElem h2] at this))).symm
            go_wp2
            go_ret
            exact ⟨ret_bool H.out, G.out⟩
  · have hb : ((l1.length : Int) != (l2.length : Int)) = true := by simp; omega
    have H := Lib.hid (decide_eq_false (p := l1 = l2) (fun h => hnm (by rw [h])))
    have hv1 : ∃ A c, v1 = .slice A l1.length c := by
      rcases h1 with ⟨rfl, A, c, rfl, _⟩ | ⟨b, off, c, _, rfl, _⟩
      · exact ⟨_, _, rfl⟩
      · exact ⟨_, _, rfl⟩
    have hv2 : ∃ A c, v2 = .slice A l2.length c := by
      rcases h2 with ⟨rfl, A, c, rfl, _⟩ | ⟨b, off, c, _, rfl, _⟩
      · exact ⟨_, _, rfl⟩
      · exact ⟨_, _, rfl⟩
    obtain ⟨A1, c1, rfl⟩ := hv1
    obtain ⟨A2, c2, rfl⟩ := hv2
    clear h1 h2 hnm
    go_enter Try.func35, Try.ntmps35
    go_wp2
    go_ret
    exact ⟨ret_bool H.out.symm, Gr.refl _⟩
end Go.Proofs.Ytckkjiaoaeaaoaa
