/- The contract of the reference's Slots. -/
import Derived.Test.YthpcngglehgfjaaR9A
import Derived.Deep.LoopGhost
namespace Go.Proofs.Ythpcngglehgfjaa
open Go.RowKit Go.Sort

set_option maxHeartbeats 1000000 in
theorem rSlots_any (a b dr : Int) (w : World) :
    Calls Try.prog 21 #[.int .i64 a, .int .i64 b, .int .i64 dr] w fun e w' => e = .returned (.tuple #[.int .i64 (Gd.sloN a b dr), .int .i64 (Gd.sloE a b dr)]) ∧ w' = w := by
  by_cases hd : Gd.sprOk a b 0 dr
  · obtain ⟨s1, s2⟩ := Gd.spr_ok hd
    obtain ⟨a0, a1, c0, c1, k0, k1, d0, d1⟩ := hd
    by_cases hs : Gd.sp a b 0 dr ≤ 1100
    · have N := Lib.hid (Gd.slo_ok (a := a) (b := b) (dr := dr) ⟨a0, a1, c0, c1, by decide, by decide, d0, d1⟩ hs)
      have hM := Gd.mo_most a b dr hs
      have M := Lib.hid hM
      obtain ⟨m0, m1, -, -⟩ := hM
      generalize Gd.mo a b dr = r at *
      go_enter Try.func21, Try.ntmps21
      go_wp2_with (first | (go_at_call 19; refine (rspread_any _ _ _ _ _).mono ?_; rintro e w' ⟨rfl, rfl⟩))
      go_loop [10, 11] (fun v1 v2 => ∃ lo hi : Int, v1 = .int .i64 lo ∧ v2 = .int .i64 hi ∧ 0 ≤ lo ∧ lo ≤ r ∧ r ≤ hi ∧ hi ≤ 4096) (fun v1 v2 => (intOf v2 - intOf v1).toNat)
      case atStart => exact ⟨0, 4096, rfl, rfl, by omega, m0, m1, by omega⟩
      case round =>
        obtain ⟨lo, hi, rfl, rfl, l0, lr, rh, h1⟩ := hrel
        by_cases hlt : lo < hi
        · obtain ⟨n1, n2⟩ := Gd.spr_ok (a := a) (b := b) (k := (lo + hi + 1) / 2) (dr := dr) ⟨a0, a1, c0, c1, by omega, by omega, d0, d1⟩
          by_cases hm : Gd.sp a b ((lo + hi + 1) / 2) dr ≤ 1100
          · have hmr : (lo + hi + 1) / 2 ≤ r := by
              by_cases c : (lo + hi + 1) / 2 ≤ r
              · exact c
              · have h3 := M.out.more (by omega)
                have h4 := Gd.sp_mono a a b b (r + 1) ((lo + hi + 1) / 2) dr dr a0 (Int.le_refl _) c0 (Int.le_refl _) (by omega) (by omega) (by omega) d0 (Int.le_refl _) d1
                omega
            go_wp2_with (first | (go_at_call 19; refine (rspread_any _ _ _ _ _).mono ?_; rintro e w' ⟨rfl, rfl⟩))
            go_round
            case rel => exact ⟨(lo + hi + 1) / 2, hi, rfl, rfl, by omega, hmr, rh, h1⟩
            case measure => simp [intOf]; omega
          · have hmr : r < (lo + hi + 1) / 2 := by
              by_cases c : r < (lo + hi + 1) / 2
              · exact c
              · have h3 := M.out.fits
                have h4 := Gd.sp_mono a a b b ((lo + hi + 1) / 2) r dr dr a0 (Int.le_refl _) c0 (Int.le_refl _) (by omega) (by omega) (by omega) d0 (Int.le_refl _) d1
                omega
            go_wp2_with (first | (go_at_call 19; refine (rspread_any _ _ _ _ _).mono ?_; rintro e w' ⟨rfl, rfl⟩))
            go_round
            case rel => exact ⟨lo, (lo + hi + 1) / 2 - 1, rfl, rfl, l0, lr, by omega, by omega⟩
            case measure => simp [intOf]; omega
        · have e1 : Hid (lo = r) := by show lo = r; omega
          go_wp2
          go_ret2
          exact ⟨ret_int2 (by rw [e1.out]; exact N.out.1.symm) N.out.2.symm, rfl⟩
    · have N := Lib.hid (Gd.slo_far (a := a) (b := b) (dr := dr) ⟨a0, a1, c0, c1, by decide, by decide, d0, d1⟩ hs)
      go_enter Try.func21, Try.ntmps21
      go_wp2_with (first | (go_at_call 19; refine (rspread_any _ _ _ _ _).mono ?_; rintro e w' ⟨rfl, rfl⟩))
      go_ret2
      exact ⟨ret_int2 N.out.1.symm N.out.2.symm, rfl⟩
  · obtain ⟨s1, s2⟩ := Gd.spr_no hd
    have N := Lib.hid (Gd.slo_no hd)
    clear hd
    go_enter Try.func21, Try.ntmps21
    go_wp2_with (first | (go_at_call 19; refine (rspread_any _ _ _ _ _).mono ?_; rintro e w' ⟨rfl, rfl⟩))
    go_ret2
    exact ⟨ret_int2 N.out.1.symm N.out.2.symm, rfl⟩
end Go.Proofs.Ythpcngglehgfjaa
