/- The contracts of the reference of package guard: Growth, Length, Step, Spread, Slots. -/
import Derived.Test.YthpcngglehgfjaaGrdPlain
import Derived.Test.YthpcngglehgfjaaR8A
namespace Go.Proofs.Ythpcngglehgfjaa
open Go.RowKit Go.Sort

set_option maxHeartbeats 400000 in
theorem rdrifts_any (d : Int) (w : World) :
    Calls Try.prog 38 #[.int .i64 d] w fun e w' => e = .returned (.bool (decide (0 ≤ d ∧ d ≤ 100000))) ∧ w' = w := by
  go_enter Try.func38, Try.ntmps38
  go_wp2
  all_goals
    go_ret
    exact ⟨ret_bool (by simp <;> omega), rfl⟩

set_option maxHeartbeats 400000 in
theorem rslots_any (n : Int) (w : World) :
    Calls Try.prog 41 #[.int .i64 n] w fun e w' => e = .returned (.bool (decide (0 ≤ n ∧ n ≤ 4096))) ∧ w' = w := by
  go_enter Try.func41, Try.ntmps41
  go_wp2
  all_goals
    go_ret
    exact ⟨ret_bool (by simp <;> omega), rfl⟩

/-- a guard's Bool -/
theorem bt {p : Prop} [Decidable p] (h : p) : decide p = true := decide_eq_true h
theorem bf {p : Prop} [Decidable p] (h : ¬ p) : decide p = false := decide_eq_false h

set_option maxHeartbeats 400000 in
theorem rgrowth_any (t dr : Int) (w : World) :
    Calls Try.prog 13 #[.int .i64 t, .int .i64 dr] w fun e w' => e = .returned (.tuple #[.int .i64 (Gd.groN t dr), .int .i64 (Gd.groE t dr)]) ∧ w' = w := by
  by_cases ht : 0 ≤ t ∧ t ≤ 1099511627776
  · by_cases hd : 0 ≤ dr ∧ dr ≤ 100000
    · obtain ⟨n1, n2⟩ := Gd.gro_ok (t := t) (dr := dr) ⟨ht.1, ht.2, hd.1, hd.2⟩
      obtain ⟨p1, p2⟩ := Gd.pr_bd t dr ht.1 ht.2 hd.1 hd.2
      have N1 := Lib.hid n1
      have N2 := Lib.hid n2
      clear n1 n2
      have b1 := bt ht
      have b2 := bt hd
      go_enter Try.func13, Try.ntmps13
      go_wp2_with (first | (go_at_call 37; refine (rtime_any _ _).mono ?_; rintro e w' ⟨rfl, rfl⟩) | (go_at_call 38; refine (rdrifts_any _ _).mono ?_; rintro e w' ⟨rfl, rfl⟩))
      go_ret2
      exact ⟨ret_int2 (by rw [N1.out]; rfl) N2.out.symm, rfl⟩
    · obtain ⟨n1, n2⟩ := Gd.gro_no (t := t) (dr := dr) (fun h => hd ⟨h.2.2.1, h.2.2.2⟩)
      have N1 := Lib.hid n1
      have N2 := Lib.hid n2
      clear n1 n2
      have b1 := bt ht
      have b2 := bf hd
      clear ht hd
      go_enter Try.func13, Try.ntmps13
      go_wp2_with (first | (go_at_call 37; refine (rtime_any _ _).mono ?_; rintro e w' ⟨rfl, rfl⟩) | (go_at_call 38; refine (rdrifts_any _ _).mono ?_; rintro e w' ⟨rfl, rfl⟩))
      go_ret2
      exact ⟨ret_int2 N1.out.symm N2.out.symm, rfl⟩
  · obtain ⟨n1, n2⟩ := Gd.gro_no (t := t) (dr := dr) (fun h => ht ⟨h.1, h.2.1⟩)
    have N1 := Lib.hid n1
    have N2 := Lib.hid n2
    clear n1 n2
    have b1 := bf ht
    clear ht
    go_enter Try.func13, Try.ntmps13
    go_wp2_with (first | (go_at_call 37; refine (rtime_any _ _).mono ?_; rintro e w' ⟨rfl, rfl⟩))
    go_ret2
    exact ⟨ret_int2 N1.out.symm N2.out.symm, rfl⟩

set_option maxHeartbeats 400000 in
theorem rlength_any (k dr : Int) (w : World) :
    Calls Try.prog 15 #[.int .i64 k, .int .i64 dr] w fun e w' => e = .returned (.tuple #[.int .i64 (Gd.lenN k dr), .int .i64 (Gd.lenE k dr)]) ∧ w' = w := by
  by_cases ht : 0 ≤ k ∧ k ≤ 4096
  · by_cases hd : 0 ≤ dr ∧ dr ≤ 100000
    · obtain ⟨n1, n2⟩ := Gd.len_ok (k := k) (dr := dr) ⟨ht.1, ht.2, hd.1, hd.2⟩
      have N1 := Lib.hid n1
      have N2 := Lib.hid n2
      clear n1 n2
      have b1 := bt ht
      have b2 := bt hd
      obtain ⟨t0, t1⟩ := ht
      obtain ⟨d0, d1⟩ := hd
      go_enter Try.func15, Try.ntmps15
      go_wp2_with (first | (go_at_call 41; refine (rslots_any _ _).mono ?_; rintro e w' ⟨rfl, rfl⟩) | (go_at_call 38; refine (rdrifts_any _ _).mono ?_; rintro e w' ⟨rfl, rfl⟩))
      go_ret2
      exact ⟨ret_int2 (by rw [N1.out]; rfl) N2.out.symm, rfl⟩
    · obtain ⟨n1, n2⟩ := Gd.len_no (k := k) (dr := dr) (fun h => hd ⟨h.2.2.1, h.2.2.2⟩)
      have N1 := Lib.hid n1
      have N2 := Lib.hid n2
      clear n1 n2
      have b1 := bt ht
      have b2 := bf hd
      clear ht hd
      go_enter Try.func15, Try.ntmps15
      go_wp2_with (first | (go_at_call 41; refine (rslots_any _ _).mono ?_; rintro e w' ⟨rfl, rfl⟩) | (go_at_call 38; refine (rdrifts_any _ _).mono ?_; rintro e w' ⟨rfl, rfl⟩))
      go_ret2
      exact ⟨ret_int2 N1.out.symm N2.out.symm, rfl⟩
  · obtain ⟨n1, n2⟩ := Gd.len_no (k := k) (dr := dr) (fun h => ht ⟨h.1, h.2.1⟩)
    have N1 := Lib.hid n1
    have N2 := Lib.hid n2
    clear n1 n2
    have b1 := bf ht
    clear ht
    go_enter Try.func15, Try.ntmps15
    go_wp2_with (first | (go_at_call 41; refine (rslots_any _ _).mono ?_; rintro e w' ⟨rfl, rfl⟩))
    go_ret2
    exact ⟨ret_int2 N1.out.symm N2.out.symm, rfl⟩

set_option maxHeartbeats 400000 in
theorem rstep_any (k dr : Int) (w : World) :
    Calls Try.prog 17 #[.int .i64 k, .int .i64 dr] w fun e w' => e = .returned (.tuple #[.int .i64 (Gd.steN k dr), .int .i64 (Gd.lenE k dr)]) ∧ w' = w := by
  by_cases ht : Gd.lenOk k dr
  · obtain ⟨l1, l2⟩ := Gd.len_ok ht
    obtain ⟨n1, n2⟩ := Gd.ste_ok ht
    obtain ⟨k0, k1, d0, d1⟩ := ht
    obtain ⟨q1, q2, q3⟩ := Gd.ln_bd k dr k0 k1 d0 d1
    obtain ⟨g1, g2⟩ := Gd.gro_ok (t := Gd.ln k dr) (dr := dr) ⟨by omega, by omega, d0, d1⟩
    obtain ⟨p1, p2⟩ := Gd.gr_bd (Gd.ln k dr) dr (by omega) (by omega) d0 d1
    have N1 := Lib.hid n1
    have N2 := Lib.hid n2
    clear n1 n2
    go_enter Try.func17, Try.ntmps17
    go_wp2_with (first | (go_at_call 15; refine (rlength_any _ _ _).mono ?_; rintro e w' ⟨rfl, rfl⟩) | (go_at_call 13; refine (rgrowth_any _ _ _).mono ?_; rintro e w' ⟨rfl, rfl⟩))
    go_ret2
    exact ⟨ret_int2 (by rw [N1.out]; rfl) N2.out.symm, rfl⟩
  · obtain ⟨l1, l2⟩ := Gd.len_no ht
    obtain ⟨n1, n2⟩ := Gd.ste_no ht
    have N1 := Lib.hid n1
    clear n1 n2 ht
    go_enter Try.func17, Try.ntmps17
    go_wp2_with (first | (go_at_call 15; refine (rlength_any _ _ _).mono ?_; rintro e w' ⟨rfl, rfl⟩))
    go_ret2
    exact ⟨ret_int2 N1.out.symm l2.symm, rfl⟩

set_option maxHeartbeats 400000 in
theorem rspread_any (a b k dr : Int) (w : World) :
    Calls Try.prog 19 #[.int .i64 a, .int .i64 b, .int .i64 k, .int .i64 dr] w fun e w' => e = .returned (.tuple #[.int .i64 (Gd.sprN a b k dr), .int .i64 (Gd.sprE a b k dr)]) ∧ w' = w := by
  by_cases hab : 0 ≤ a ∧ a ≤ 32 ∧ 0 ≤ b ∧ b ≤ 32
  · obtain ⟨a0, a1, b0, b1⟩ := hab
    by_cases ht : Gd.lenOk k dr
    · obtain ⟨n1, n2⟩ := Gd.spr_ok (a := a) (b := b) (k := k) (dr := dr) ⟨a0, a1, b0, b1, ht⟩
      obtain ⟨l1, l2⟩ := Gd.ste_ok ht
      obtain ⟨k0, k1, d0, d1⟩ := ht
      obtain ⟨q1, q2⟩ := Gd.sp_bd a b k dr a0 a1 b0 b1 k0 k1 d0 d1
      unfold Gd.sp at q1 q2
      have N1 := Lib.hid n1
      have N2 := Lib.hid n2
      clear n1 n2
      go_enter Try.func19, Try.ntmps19
      go_wp2_with (first | (go_at_call 17; refine (rstep_any _ _ _).mono ?_; rintro e w' ⟨rfl, rfl⟩))
      go_ret2
      exact ⟨ret_int2 (by rw [N1.out]; rfl) N2.out.symm, rfl⟩
    · obtain ⟨n1, n2⟩ := Gd.spr_no (a := a) (b := b) (k := k) (dr := dr) (fun h => ht h.2.2.2.2)
      obtain ⟨l1, l2⟩ := Gd.ste_no ht
      have N1 := Lib.hid n1
      have N2 := Lib.hid n2
      clear n1 n2 ht
      go_enter Try.func19, Try.ntmps19
      go_wp2_with (first | (go_at_call 17; refine (rstep_any _ _ _).mono ?_; rintro e w' ⟨rfl, rfl⟩))
      go_ret2
      exact ⟨ret_int2 N1.out.symm N2.out.symm, rfl⟩
  · obtain ⟨n1, n2⟩ := Gd.spr_no (a := a) (b := b) (k := k) (dr := dr) (fun h => hab ⟨h.1, h.2.1, h.2.2.1, h.2.2.2.1⟩)
    have N1 := Lib.hid n1
    have N2 := Lib.hid n2
    clear n1 n2
    go_enter Try.func19, Try.ntmps19
    go_wp2_with (first | (go_at_call 17; exfalso; omega))
    all_goals
      go_ret2
      exact ⟨ret_int2 N1.out.symm N2.out.symm, rfl⟩
end Go.Proofs.Ythpcngglehgfjaa
