/- The contracts of the reference's Load, tried, less, limits. -/
import Derived.Test.YtkhanjhjcfhhiaaR29A
import Derived.Test.YtkhanjhjcfhhiaaAlcC
import Derived.Test.YtkhanjhjcfhhiaaAlcDec
namespace Go.Proofs.Ytkhanjhjcfhhiaa
open Go.RowKit Go.Sort
set_option linter.unusedVariables false

set_option maxHeartbeats 2000000 in
theorem rload_any (v : Value) (l : List Us) (w : World) (h : Rows 9 encU w v l) (hbig : (l.length : Int) ≤ 4611686018427387904) :
    Calls Try.prog 31 #[v] w fun e w' => e = .returned (.tuple #[.int .i64 (Al.ldU l), .int .i64 (Al.ldP l)]) ∧ Gr w w' := by
  have C1 := rcheck_any v l w h hbig
  rcases Al.chk_cases l with hc | hc
  · have RU : Hid (Al.ldU l = Al.sU l ∧ Al.ldP l = Al.sP l) := (show _ ∧ _ from ⟨if_pos hc, if_pos hc⟩)
    have BD := Lib.hid (Al.s_bd (l := l) (fun j x hx => Al.chk_num hc hx))
    have NUM := Lib.hid (fun (j : Nat) x (hx : l[j]? = some x) => Al.chk_num hc hx)
    have HL := Lib.hid (Al.chk_inv hc).1
    obtain ⟨A, c, rfl⟩ := h.slice
    have US : Aside (USl w (.slice A l.length c) l) := h.usl
    obtain ⟨n, hn⟩ : ∃ n, l.length = n := ⟨_, rfl⟩
    have HN := Lib.hid hn
    rw [hc] at C1
    rw [hn] at hbig C1 ⊢
    clear h hn hc
    go_enter Try.func31, Try.ntmps31
    go_wp2_with fail
    refine C1.mono ?_
    rintro e w1 ⟨rfl, g1⟩
    clear C1
    go_wp2_with fail
    go_loopg [4, 5, 6] n (fun gg s4 s5 s6 wr => ∃ kk : Nat, kk ≤ n ∧ n - kk ≤ gg ∧ s6 = .int .i64 (kk : Int) ∧ s4 = .int .i64 (Al.sU (l.take kk)) ∧ s5 = .int .i64 (Al.sP (l.take kk)) ∧ Aside (Gr w wr))
    case atStart => exact ⟨0, Nat.zero_le _, by omega, rfl, rfl, rfl, g1⟩
    case round =>
      obtain ⟨kk, hkk, hgg, rfl, rfl, rfl, G⟩ := hrel
      by_cases hlt : kk < n
      · have hltz : (kk : Int) < (n : Int) := by omega
        obtain ⟨x, hx⟩ : ∃ x, l[kk]? = some x := ⟨_, List.getElem?_eq_getElem (by rw [HN.out]; exact hlt)⟩
        rcases US.out with h0 | ⟨b, off, ⟨c', hv⟩, hb, hU⟩
        · rw [HN.out] at h0; omega
        simp only [Value.slice.injEq] at hv
        obtain ⟨rfl, -, rfl⟩ := hv
        have HU : Aside (UAt wr b (off + kk * 9) x) := (hU kk x hx).gr G.out
        have HB := Lib.hid hb
        clear hU hb
        have l0 := (HU.out) 0 _ rfl; have l1 := (HU.out) 1 _ rfl; have l2 := (HU.out) 2 _ rfl; have l3 := (HU.out) 3 _ rfl; have l4 := (HU.out) 4 _ rfl; have l5 := (HU.out) 5 _ rfl; have l6 := (HU.out) 6 _ rfl; have l7 := (HU.out) 7 _ rfl; have l8 := (HU.out) 8 _ rfl; (try simp only [Nat.add_zero] at l0); (try simp only [Nat.zero_add] at l0 l1 l2 l3 l4 l5 l6 l7 l8)
        have bd := BD.out kk
        have nm := NUM.out kk x hx
        unfold Al.okN at nm
        have hL := HL.out
        rw [HN.out] at hL
        have S1 := Lib.hid (Al.sU_take hx)
        have S2 := Lib.hid (Al.sP_take hx)
        generalize Al.sU (l.take kk) = su at bd S1 ⊢
        generalize Al.sP (l.take kk) = sp at bd S2 ⊢
        obtain ⟨⟨bd1, bd2⟩, ⟨bd3, bd4⟩, -⟩ := bd
        have n1 := nm.2.2.1
        have n2 := nm.2.2.2.1
        have bd5 : su ≤ 4096 := by omega
        have bd6 : sp ≤ 4096 := by omega
        clear nm hx bd2 bd4
        have ws1 : IntKind.i64.wrap (su + x.us) = su + x.us := IntWalk.i64_in _ (by omega)
        have ws2 : IntKind.i64.wrap (sp + x.pa) = sp + x.pa := IntWalk.i64_in _ (by omega)
        have wz : (0 : Int) ≤ (kk : Int) := by omega
        go_wp2_with fail
        go_quiet (fail)
        clear ws1 ws2
        go_wp2_with fail
        go_roundg (n - (kk + 1))
        case measure => omega
        case rel => exact ⟨kk + 1, by omega, by omega, by go_num, by rw [S1.out], by rw [S2.out], by have hgg := G.out; show Gr _ _; repeat (first | (with_reducible exact Gr.refl _) | (with_reducible assumption) | (with_reducible refine Gr.alloc ?_ _) | (with_reducible refine Gr.drewN ?_ _) | (with_reducible refine Gr.drew ?_) | (with_reducible refine Gr.grown ?_ _ _) | (with_reducible refine Gr.regrown ?_ _ _) | (with_reducible refine Gr.setCell ?_ (by first | omega | (simp; omega) | simp) _) | (with_reducible refine Gr.trans ?_ (by with_reducible assumption)))⟩
      · have hltz : ¬ (kk : Int) < (n : Int) := by omega
        have e : l.take kk = l := List.take_of_length_le (by rw [HN.out]; omega)
        rw [e]
        clear e
        go_wp2_with fail
        go_ret2
        exact ⟨ret_int2 RU.out.1.symm RU.out.2.symm, G.out⟩
  · have RU : Hid (Al.ldU l = 0 ∧ Al.ldP l = 0) := (show _ ∧ _ from ⟨if_neg (by simpa using hc), if_neg (by simpa using hc)⟩)
    clear h hbig
    go_enter Try.func31, Try.ntmps31
    go_wp2_with fail
    refine C1.mono ?_
    rintro e w1 ⟨rfl, g1⟩
    clear C1
    go_wp2_with fail
    go_ret2
    exact ⟨ret_int2 RU.out.1.symm RU.out.2.symm, by repeat (first | (with_reducible exact Gr.refl _) | (with_reducible assumption) | (with_reducible refine Gr.alloc ?_ _) | (with_reducible refine Gr.drewN ?_ _) | (with_reducible refine Gr.drew ?_) | (with_reducible refine Gr.grown ?_ _ _) | (with_reducible refine Gr.regrown ?_ _ _) | (with_reducible refine Gr.setCell ?_ (by first | omega | (simp; omega) | simp) _) | (with_reducible refine Gr.trans ?_ (by with_reducible assumption)))⟩


set_option maxHeartbeats 400000 in
theorem tried_any (x : Us) (w : World) :
    Calls Try.prog 37 #[.agg #[.int .i64 x.c.s, .int .i64 x.c.o, .int .i64 x.c.k, .bool x.c.b, .int .i64 x.c.p, .int .i64 x.c.f, .int .i64 x.pa, .int .i64 x.us, .int .i64 x.wo]] w fun e w' => e = .returned (.bool (decide (8 ≤ x.us))) ∧ Gr w w' := by
  go_enter Try.func37, Try.ntmps37
  go_wp2_with fail
  go_ret
  exact ⟨rfl, by repeat (first | (with_reducible exact Gr.refl _) | (with_reducible assumption) | (with_reducible refine Gr.alloc ?_ _) | (with_reducible refine Gr.drewN ?_ _) | (with_reducible refine Gr.drew ?_) | (with_reducible refine Gr.grown ?_ _ _) | (with_reducible refine Gr.regrown ?_ _ _) | (with_reducible refine Gr.setCell ?_ (by first | omega | (simp; omega) | simp) _) | (with_reducible refine Gr.trans ?_ (by with_reducible assumption)))⟩
set_option maxHeartbeats 400000 in
theorem rless_any (a b : Us) (ha : Al.okN a) (hb : Al.okN b) (w : World) :
    Calls Try.prog 38 #[.agg #[.int .i64 a.c.s, .int .i64 a.c.o, .int .i64 a.c.k, .bool a.c.b, .int .i64 a.c.p, .int .i64 a.c.f, .int .i64 a.pa, .int .i64 a.us, .int .i64 a.wo], .agg #[.int .i64 b.c.s, .int .i64 b.c.o, .int .i64 b.c.k, .bool b.c.b, .int .i64 b.c.p, .int .i64 b.c.f, .int .i64 b.pa, .int .i64 b.us, .int .i64 b.wo]] w fun e w' => e = .returned (.bool (Al.ls a b)) ∧ Gr w w' := by
  obtain ⟨p1, p2⟩ := pr_bd ha hb
  obtain ⟨q1, q2⟩ := pr_bd hb ha
  clear ha hb
  go_enter Try.func38, Try.ntmps38
  go_wp2_with fail
  go_ret
  exact ⟨ret_bool (by unfold Al.ls; rfl), by repeat (first | (with_reducible exact Gr.refl _) | (with_reducible assumption) | (with_reducible refine Gr.alloc ?_ _) | (with_reducible refine Gr.drewN ?_ _) | (with_reducible refine Gr.drew ?_) | (with_reducible refine Gr.grown ?_ _ _) | (with_reducible refine Gr.regrown ?_ _ _) | (with_reducible refine Gr.setCell ?_ (by first | omega | (simp; omega) | simp) _) | (with_reducible refine Gr.trans ?_ (by with_reducible assumption)))⟩
set_option maxHeartbeats 400000 in
theorem rlimits_any (lo hi : Int) (w : World) :
    Calls Try.prog 42 #[.int .i64 lo, .int .i64 hi] w fun e w' => e = .returned (.bool (decide (Al.okL lo hi))) ∧ w' = w := by
  by_cases h : 0 ≤ lo
  · by_cases h2 : lo ≤ hi
    · have D : Hid (decide (Al.okL lo hi) = decide (hi ≤ 64)) := (show _ = _ by unfold Al.okL; simp only [h, h2, and_self, true_and])
      go_enter Try.func42, Try.ntmps42
      go_wp2_with fail
      go_ret
      exact ⟨ret_bool D.out.symm, rfl⟩
    · have D : Hid (decide (Al.okL lo hi) = false) := (show _ = _ from bf (fun k => h2 k.1.2))
      have h' := bf h2
      go_enter Try.func42, Try.ntmps42
      go_wp2_with fail
      go_ret
      exact ⟨ret_bool D.out.symm, rfl⟩
  · have D : Hid (decide (Al.okL lo hi) = false) := (show _ = _ from bf (fun k => h k.1.1))
    have h' := bf h
    go_enter Try.func42, Try.ntmps42
    go_wp2_with fail
    go_ret
    exact ⟨ret_bool D.out.symm, rfl⟩
end Go.Proofs.Ytkhanjhjcfhhiaa
