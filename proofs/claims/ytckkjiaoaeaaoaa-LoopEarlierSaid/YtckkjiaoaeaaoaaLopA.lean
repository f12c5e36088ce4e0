/- The contracts of package loop's functions on one loop: fault, fits, right, Worst, flows. -/
import Derived.Test.YtckkjiaoaeaaoaaRows
import Derived.Test.YtckkjiaoaeaaoaaGr
import Derived.Test.YtckkjiaoaeaaoaaRet
import Derived.Test.YtckkjiaoaeaaoaaLopRow
import Derived.WalkLawsBesides
import Derived.Laws.EntriesVeiled
import Derived.Handy
import Derived.IntWalk
import Derived.ChangeAlike
import Derived.RegionTactic
import Derived.BigRegion
namespace Go.Proofs.Ytckkjiaoaeaaoaa
open Go.RowKit Go.Sort
set_option linter.unusedVariables false

set_option maxHeartbeats 400000 in
theorem lnode_any (n m : Int) (B : Nat) (w : World) (c0 : w.cell? ⟨B, 0, none⟩ = some (.int .i64 m)) :
    Calls Try.prog 56 #[.int .i64 n, .pointer (some ⟨B, 0, none⟩)] w fun e w' => e = .returned (.bool (decide (0 ≤ n ∧ n < m))) ∧ w' = w := by
  by_cases h : 0 ≤ n
  all_goals
    go_enter Try.func56, Try.ntmps56
    go_wp2_with fail
    go_ret
    exact ⟨ret_bool (by simp <;> omega), rfl⟩

/-- the numbers of a loop, and whether its nodes are some -/
def Nd (n : Int) (l : Lo) : Prop := (0 ≤ l.se ∧ l.se < n) ∧ (0 ≤ l.co ∧ l.co < n) ∧ (0 ≤ l.ac ∧ l.ac < n)

set_option maxHeartbeats 4000000 in
theorem fault_any (n : Int) (l : Lo) (w : World) :
    Calls Try.prog 43 #[.int .i64 n, .agg #[.int .i64 l.id, .int .i64 l.se, .int .i64 l.co, .int .i64 l.ac, .int .i64 l.pe, .int .i64 l.ph, .int .i64 l.ag]] w fun e w' => e = .returned (.int .i64 (Lp.flt n l)) ∧ Gr w w' := by
  by_cases hi : 0 ≤ l.id ∧ l.id ≤ 127
  · obtain ⟨i0, i1⟩ := hi
    by_cases h1 : 0 ≤ l.se ∧ l.se < n
    · have b1 := bt h1
      have H1 := Lib.hid h1
      clear h1
      by_cases h2 : 0 ≤ l.co ∧ l.co < n
      · have b2 := bt h2
        have H2 := Lib.hid h2
        clear h2
        by_cases h3 : 0 ≤ l.ac ∧ l.ac < n
        · have b3 := bt h3
          have H3 := Lib.hid h3
          clear h3
          by_cases hr : (1 ≤ l.pe ∧ l.pe ≤ 512) ∧ (0 ≤ l.ph ∧ l.ph < l.pe) ∧ (1 ≤ l.ag ∧ l.ag ≤ 1024)
          · have OR : Hid (Lp.okR n l) := (show Lp.okR n l from ⟨⟨⟨i0, i1⟩, H1.out, H2.out, H3.out⟩, hr⟩)
            obtain ⟨⟨r1, r2⟩, ⟨r3, r4⟩, ⟨r5, r6⟩⟩ := hr
            by_cases q1 : l.se = l.co
            · have R := Lib.hid (Lp.flt_arg OR.out (fun k => k.1 q1))
              have e1 : (l.se == l.co) = true := by simpa using q1
              clear q1 H1 H2 H3
              go_enter Try.func43, Try.ntmps43
              go_wp2_with (first | (go_at_call 56; refine (lnode_any _ n _ _ (by go_simp)).mono ?_; rintro e w' ⟨rfl, rfl⟩))
              go_ret
              exact ⟨ret_int R.out.symm, by repeat (first | (with_reducible exact Gr.refl _) | (with_reducible assumption) | (with_reducible refine Gr.alloc ?_ _) | (with_reducible refine Gr.drewN ?_ _) | (with_reducible refine Gr.drew ?_) | (with_reducible refine Gr.grown ?_ _ _) | (with_reducible refine Gr.regrown ?_ _ _) | (with_reducible refine Gr.setCell ?_ (by first | omega | (simp; omega) | simp) _) | (with_reducible refine Gr.trans ?_ (by with_reducible assumption)))⟩
            · have e1 : (l.se == l.co) = false := by simpa using q1
              by_cases q2 : l.ac = l.co
              · have R := Lib.hid (Lp.flt_arg OR.out (fun k => k.2 q2))
                have e2 : (l.ac == l.co) = true := by simpa using q2
                clear q1 q2 H1 H2 H3
                go_enter Try.func43, Try.ntmps43
                go_wp2_with (first | (go_at_call 56; refine (lnode_any _ n _ _ (by go_simp)).mono ?_; rintro e w' ⟨rfl, rfl⟩))
                go_ret
                exact ⟨ret_int R.out.symm, by repeat (first | (with_reducible exact Gr.refl _) | (with_reducible assumption) | (with_reducible refine Gr.alloc ?_ _) | (with_reducible refine Gr.drewN ?_ _) | (with_reducible refine Gr.drew ?_) | (with_reducible refine Gr.grown ?_ _ _) | (with_reducible refine Gr.regrown ?_ _ _) | (with_reducible refine Gr.setCell ?_ (by first | omega | (simp; omega) | simp) _) | (with_reducible refine Gr.trans ?_ (by with_reducible assumption)))⟩
              · have R := Lib.hid (Lp.flt_ok OR.out ⟨q1, q2⟩)
                have e2 : (l.ac == l.co) = false := by simpa using q2
                clear q1 q2 H1 H2 H3
                go_enter Try.func43, Try.ntmps43
                go_wp2_with (first | (go_at_call 56; refine (lnode_any _ n _ _ (by go_simp)).mono ?_; rintro e w' ⟨rfl, rfl⟩))
                go_ret
                exact ⟨ret_int R.out.symm, by repeat (first | (with_reducible exact Gr.refl _) | (with_reducible assumption) | (with_reducible refine Gr.alloc ?_ _) | (with_reducible refine Gr.drewN ?_ _) | (with_reducible refine Gr.drew ?_) | (with_reducible refine Gr.grown ?_ _ _) | (with_reducible refine Gr.regrown ?_ _ _) | (with_reducible refine Gr.setCell ?_ (by first | omega | (simp; omega) | simp) _) | (with_reducible refine Gr.trans ?_ (by with_reducible assumption)))⟩
          · have R := Lib.hid (Lp.flt_no (n := n) (l := l) (fun k => hr k.2))
            clear H1 H2 H3
            go_enter Try.func43, Try.ntmps43
            go_wp2_with (first | (go_at_call 56; refine (lnode_any _ n _ _ (by go_simp)).mono ?_; rintro e w' ⟨rfl, rfl⟩))
            all_goals first | (go_ret; exact ⟨ret_int R.out.symm, by repeat (first | (with_reducible exact Gr.refl _) | (with_reducible assumption) | (with_reducible refine Gr.alloc ?_ _) | (with_reducible refine Gr.drewN ?_ _) | (with_reducible refine Gr.drew ?_) | (with_reducible refine Gr.grown ?_ _ _) | (with_reducible refine Gr.regrown ?_ _ _) | (with_reducible refine Gr.setCell ?_ (by first | omega | (simp; omega) | simp) _) | (with_reducible refine Gr.trans ?_ (by with_reducible assumption)))⟩) | (exfalso; omega)
        · have b3 := bf h3
          have R := Lib.hid (Lp.flt_no (n := n) (l := l) (fun k => h3 k.1.2.2.2))
          clear h3 H1 H2
          go_enter Try.func43, Try.ntmps43
          go_wp2_with (first | (go_at_call 56; refine (lnode_any _ n _ _ (by go_simp)).mono ?_; rintro e w' ⟨rfl, rfl⟩))
          go_ret
          exact ⟨ret_int R.out.symm, by repeat (first | (with_reducible exact Gr.refl _) | (with_reducible assumption) | (with_reducible refine Gr.alloc ?_ _) | (with_reducible refine Gr.drewN ?_ _) | (with_reducible refine Gr.drew ?_) | (with_reducible refine Gr.grown ?_ _ _) | (with_reducible refine Gr.regrown ?_ _ _) | (with_reducible refine Gr.setCell ?_ (by first | omega | (simp; omega) | simp) _) | (with_reducible refine Gr.trans ?_ (by with_reducible assumption)))⟩
      · have b2 := bf h2
        have R := Lib.hid (Lp.flt_no (n := n) (l := l) (fun k => h2 k.1.2.2.1))
        clear h2 H1
        go_enter Try.func43, Try.ntmps43
        go_wp2_with (first | (go_at_call 56; refine (lnode_any _ n _ _ (by go_simp)).mono ?_; rintro e w' ⟨rfl, rfl⟩))
        go_ret
        exact ⟨ret_int R.out.symm, by repeat (first | (with_reducible exact Gr.refl _) | (with_reducible assumption) | (with_reducible refine Gr.alloc ?_ _) | (with_reducible refine Gr.drewN ?_ _) | (with_reducible refine Gr.drew ?_) | (with_reducible refine Gr.grown ?_ _ _) | (with_reducible refine Gr.regrown ?_ _ _) | (with_reducible refine Gr.setCell ?_ (by first | omega | (simp; omega) | simp) _) | (with_reducible refine Gr.trans ?_ (by with_reducible assumption)))⟩
    · have b1 := bf h1
      have R := Lib.hid (Lp.flt_no (n := n) (l := l) (fun k => h1 k.1.2.1))
      clear h1
      go_enter Try.func43, Try.ntmps43
      go_wp2_with (first | (go_at_call 56; refine (lnode_any _ n _ _ (by go_simp)).mono ?_; rintro e w' ⟨rfl, rfl⟩))
      go_ret
      exact ⟨ret_int R.out.symm, by repeat (first | (with_reducible exact Gr.refl _) | (with_reducible assumption) | (with_reducible refine Gr.alloc ?_ _) | (with_reducible refine Gr.drewN ?_ _) | (with_reducible refine Gr.drew ?_) | (with_reducible refine Gr.grown ?_ _ _) | (with_reducible refine Gr.regrown ?_ _ _) | (with_reducible refine Gr.setCell ?_ (by first | omega | (simp; omega) | simp) _) | (with_reducible refine Gr.trans ?_ (by with_reducible assumption)))⟩
  · have R := Lib.hid (Lp.flt_no (n := n) (l := l) (fun k => hi k.1.1))
    go_enter Try.func43, Try.ntmps43
    go_wp2_with fail
    all_goals first | (go_ret; exact ⟨ret_int R.out.symm, by repeat (first | (with_reducible exact Gr.refl _) | (with_reducible assumption) | (with_reducible refine Gr.alloc ?_ _) | (with_reducible refine Gr.drewN ?_ _) | (with_reducible refine Gr.drew ?_) | (with_reducible refine Gr.grown ?_ _ _) | (with_reducible refine Gr.regrown ?_ _ _) | (with_reducible refine Gr.setCell ?_ (by first | omega | (simp; omega) | simp) _) | (with_reducible refine Gr.trans ?_ (by with_reducible assumption)))⟩) | (exfalso; omega)

/-- any sums wrap -/
abbrev wr (n : Int) : Int := IntKind.i64.wrap n
set_option maxHeartbeats 400000 in
theorem worst_in (l : Lo) (s : Sp) (w : World) (h1 : 1 ≤ l.pe) (h2 : l.pe ≤ 512) (h3 : 1 ≤ s.s) (h4 : s.s ≤ l.pe) (h5 : 1 ≤ s.a) (h6 : s.a ≤ l.pe) :
    Calls Try.prog 37 #[.agg #[.int .i64 l.id, .int .i64 l.se, .int .i64 l.co, .int .i64 l.ac, .int .i64 l.pe, .int .i64 l.ph, .int .i64 l.ag], .agg #[.int .i64 s.s, .int .i64 s.a]] w fun e w' => e = .returned (.int .i64 (Lp.wst l s)) ∧ Gr w w' := by
  have e : Hid (l.pe + s.s + s.a - 1 = Lp.wst l s) := (show _ = _ from rfl)
  go_enter Try.func37, Try.ntmps37
  go_wp2_with fail
  go_ret
  exact ⟨ret_int e.out, by repeat (first | (with_reducible exact Gr.refl _) | (with_reducible assumption) | (with_reducible refine Gr.alloc ?_ _) | (with_reducible refine Gr.drewN ?_ _) | (with_reducible refine Gr.drew ?_) | (with_reducible refine Gr.grown ?_ _ _) | (with_reducible refine Gr.regrown ?_ _ _) | (with_reducible refine Gr.setCell ?_ (by first | omega | (simp; omega) | simp) _) | (with_reducible refine Gr.trans ?_ (by with_reducible assumption)))⟩
end Go.Proofs.Ytckkjiaoaeaaoaa
