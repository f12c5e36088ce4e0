/- The contracts of the reference's in and Fault. -/
import Derived.Test.YtabckmanijcndaaFlwA
namespace Go.Proofs.Ytabckmanijcndaa
open Go.RowKit Go.Sort
set_option linter.unusedVariables false

set_option maxHeartbeats 400000 in
theorem in_any (n lo hi : Int) (w : World) :
    Calls Try.prog 37 #[.int .i64 n, .int .i64 lo, .int .i64 hi] w fun e w' => e = .returned (.bool (decide (lo ≤ n ∧ n ≤ hi))) ∧ w' = w := by
  by_cases h : lo ≤ n
  all_goals
    go_enter Try.func37, Try.ntmps37
    go_wp2_with fail
    go_ret
    exact ⟨ret_bool (by simp <;> omega), rfl⟩

set_option maxHeartbeats 8000000 in
set_option maxRecDepth 100000 in
theorem fault_any (m : Int) (f : Fl) (w : World) (m0 : 0 ≤ m) (m1 : m ≤ 64) (wp : f.pe ≤ 9223372036854775807 ∧ -9223372036854775808 ≤ f.pe) :
    Calls Try.prog 38 #[.int .i64 m, .agg #[.int .i64 f.id, .int .i64 f.fr, .int .i64 f.to, .int .i64 f.pe, .int .i64 f.ph, .int .i64 f.de]] w fun e w' => e = .returned (.int .i64 (Fw.chk m f)) ∧ Gr w w' := by
  by_cases h0 : 0 ≤ f.id ∧ f.id ≤ 255
  · have b0 := bt h0
    by_cases h1 : 0 ≤ f.fr ∧ f.fr ≤ m - 1
    · have b1 := bt h1
      by_cases h2 : 0 ≤ f.to ∧ f.to ≤ m - 1
      · have b2 := bt h2
        by_cases h3 : 1 ≤ f.pe ∧ f.pe ≤ 512
        · have b3 := bt h3
          by_cases h4 : 0 ≤ f.ph ∧ f.ph ≤ f.pe - 1
          · have b4 := bt h4
            by_cases h5 : 1 ≤ f.de ∧ f.de ≤ f.pe
            · have b5 := bt h5
              by_cases q : f.fr = f.to
              · have R := Lib.hid (Fw.chk_same (n := m) (f := f) (by unfold Fw.okR; omega) q)
                have b6 : (f.fr == f.to) = true := by simpa using q
                clear q
                go_enter Try.func38, Try.ntmps38
                go_wp2_with (first | (go_at_call 37; refine (in_any _ _ _ _).mono ?_; rintro e w' ⟨rfl, rfl⟩))
                go_ret
                exact ⟨ret_int R.out.symm, by repeat (first | (with_reducible exact Gr.refl _) | (with_reducible assumption) | (with_reducible refine Gr.alloc ?_ _) | (with_reducible refine Gr.drewN ?_ _) | (with_reducible refine Gr.drew ?_) | (with_reducible refine Gr.grown ?_ _ _) | (with_reducible refine Gr.regrown ?_ _ _) | (with_reducible refine Gr.setCell ?_ (by first | omega | (simp; omega) | simp) _) | (with_reducible refine Gr.trans ?_ (by with_reducible assumption)))⟩
              · have R := Lib.hid (Fw.chk_ok (n := m) (f := f) (by unfold Fw.okR; omega) q)
                have b6 : (f.fr == f.to) = false := by simpa using q
                clear q
                go_enter Try.func38, Try.ntmps38
                go_wp2_with (first | (go_at_call 37; refine (in_any _ _ _ _).mono ?_; rintro e w' ⟨rfl, rfl⟩))
                go_ret
                exact ⟨ret_int R.out.symm, by repeat (first | (with_reducible exact Gr.refl _) | (with_reducible assumption) | (with_reducible refine Gr.alloc ?_ _) | (with_reducible refine Gr.drewN ?_ _) | (with_reducible refine Gr.drew ?_) | (with_reducible refine Gr.grown ?_ _ _) | (with_reducible refine Gr.regrown ?_ _ _) | (with_reducible refine Gr.setCell ?_ (by first | omega | (simp; omega) | simp) _) | (with_reducible refine Gr.trans ?_ (by with_reducible assumption)))⟩
            · have b5 := bf h5
              have R := Lib.hid (Fw.chk_no (n := m) (f := f) (fun h => by unfold Fw.okR at h; omega))
              clear h5
              go_enter Try.func38, Try.ntmps38
              go_wp2_with (first | (go_at_call 37; refine (in_any _ _ _ _).mono ?_; rintro e w' ⟨rfl, rfl⟩))
              go_ret
              exact ⟨ret_int R.out.symm, by repeat (first | (with_reducible exact Gr.refl _) | (with_reducible assumption) | (with_reducible refine Gr.alloc ?_ _) | (with_reducible refine Gr.drewN ?_ _) | (with_reducible refine Gr.drew ?_) | (with_reducible refine Gr.grown ?_ _ _) | (with_reducible refine Gr.regrown ?_ _ _) | (with_reducible refine Gr.setCell ?_ (by first | omega | (simp; omega) | simp) _) | (with_reducible refine Gr.trans ?_ (by with_reducible assumption)))⟩
          · have b4 := bf h4
            have R := Lib.hid (Fw.chk_no (n := m) (f := f) (fun h => by unfold Fw.okR at h; omega))
            clear h4
            go_enter Try.func38, Try.ntmps38
            go_wp2_with (first | (go_at_call 37; refine (in_any _ _ _ _).mono ?_; rintro e w' ⟨rfl, rfl⟩))
            go_ret
            exact ⟨ret_int R.out.symm, by repeat (first | (with_reducible exact Gr.refl _) | (with_reducible assumption) | (with_reducible refine Gr.alloc ?_ _) | (with_reducible refine Gr.drewN ?_ _) | (with_reducible refine Gr.drew ?_) | (with_reducible refine Gr.grown ?_ _ _) | (with_reducible refine Gr.regrown ?_ _ _) | (with_reducible refine Gr.setCell ?_ (by first | omega | (simp; omega) | simp) _) | (with_reducible refine Gr.trans ?_ (by with_reducible assumption)))⟩
        · have b3 := bf h3
          have R := Lib.hid (Fw.chk_no (n := m) (f := f) (fun h => by unfold Fw.okR at h; omega))
          clear h3
          go_enter Try.func38, Try.ntmps38
          go_wp2_with (first | (go_at_call 37; refine (in_any _ _ _ _).mono ?_; rintro e w' ⟨rfl, rfl⟩))
          go_ret
          exact ⟨ret_int R.out.symm, by repeat (first | (with_reducible exact Gr.refl _) | (with_reducible assumption) | (with_reducible refine Gr.alloc ?_ _) | (with_reducible refine Gr.drewN ?_ _) | (with_reducible refine Gr.drew ?_) | (with_reducible refine Gr.grown ?_ _ _) | (with_reducible refine Gr.regrown ?_ _ _) | (with_reducible refine Gr.setCell ?_ (by first | omega | (simp; omega) | simp) _) | (with_reducible refine Gr.trans ?_ (by with_reducible assumption)))⟩
      · have b2 := bf h2
        have R := Lib.hid (Fw.chk_no (n := m) (f := f) (fun h => by unfold Fw.okR at h; omega))
        clear h2
        go_enter Try.func38, Try.ntmps38
        go_wp2_with (first | (go_at_call 37; refine (in_any _ _ _ _).mono ?_; rintro e w' ⟨rfl, rfl⟩))
        go_ret
        exact ⟨ret_int R.out.symm, by repeat (first | (with_reducible exact Gr.refl _) | (with_reducible assumption) | (with_reducible refine Gr.alloc ?_ _) | (with_reducible refine Gr.drewN ?_ _) | (with_reducible refine Gr.drew ?_) | (with_reducible refine Gr.grown ?_ _ _) | (with_reducible refine Gr.regrown ?_ _ _) | (with_reducible refine Gr.setCell ?_ (by first | omega | (simp; omega) | simp) _) | (with_reducible refine Gr.trans ?_ (by with_reducible assumption)))⟩
    · have b1 := bf h1
      have R := Lib.hid (Fw.chk_no (n := m) (f := f) (fun h => by unfold Fw.okR at h; omega))
      clear h1
      go_enter Try.func38, Try.ntmps38
      go_wp2_with (first | (go_at_call 37; refine (in_any _ _ _ _).mono ?_; rintro e w' ⟨rfl, rfl⟩))
      go_ret
      exact ⟨ret_int R.out.symm, by repeat (first | (with_reducible exact Gr.refl _) | (with_reducible assumption) | (with_reducible refine Gr.alloc ?_ _) | (with_reducible refine Gr.drewN ?_ _) | (with_reducible refine Gr.drew ?_) | (with_reducible refine Gr.grown ?_ _ _) | (with_reducible refine Gr.regrown ?_ _ _) | (with_reducible refine Gr.setCell ?_ (by first | omega | (simp; omega) | simp) _) | (with_reducible refine Gr.trans ?_ (by with_reducible assumption)))⟩
  · have b0 := bf h0
    have R := Lib.hid (Fw.chk_no (n := m) (f := f) (fun h => by unfold Fw.okR at h; omega))
    clear h0
    go_enter Try.func38, Try.ntmps38
    go_wp2_with (first | (go_at_call 37; refine (in_any _ _ _ _).mono ?_; rintro e w' ⟨rfl, rfl⟩))
    go_ret
    exact ⟨ret_int R.out.symm, by repeat (first | (with_reducible exact Gr.refl _) | (with_reducible assumption) | (with_reducible refine Gr.alloc ?_ _) | (with_reducible refine Gr.drewN ?_ _) | (with_reducible refine Gr.drew ?_) | (with_reducible refine Gr.grown ?_ _ _) | (with_reducible refine Gr.regrown ?_ _ _) | (with_reducible refine Gr.setCell ?_ (by first | omega | (simp; omega) | simp) _) | (with_reducible refine Gr.trans ?_ (by with_reducible assumption)))⟩
end Go.Proofs.Ytabckmanijcndaa
