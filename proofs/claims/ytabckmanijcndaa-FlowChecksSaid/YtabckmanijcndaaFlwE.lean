/- The contract of flow.Hyper over a slice of flows. -/
import Derived.Test.YtabckmanijcndaaFlwC
import Derived.Test.YtabckmanijcndaaFlwD
namespace Go.Proofs.Ytabckmanijcndaa
open Go.RowKit Go.Sort
set_option linter.unusedVariables false

set_option maxHeartbeats 2000000 in
theorem contHyper_le (b off n c B : Nat) (zs : Nat → Fl) (w0 w : World) (hg : Gr w0 w) (hb : b < w0.heap.size) (hB : w0.heap.size ≤ B) (hB' : B < w.heap.size) (hrow : RowFl w0 b off n zs) (hok : okP zs n) (hbig : n ≤ 16)
    (hc : w.cell? ⟨B, 0, none⟩ = some (.int .i64 1)) (hz : w.frozen? ⟨B, 0, none⟩ = false) (hq : hyp zs n ≤ 512) :
    Calls Try.prog 17 #[.slice (some ⟨b, off, none⟩) n c, .func (.func 33) #[] #[.pointer (some ⟨B, 0, none⟩)]] w fun e w' => e = .returned (.bool false) ∧ Gr w0 w' ∧ w'.cell? ⟨B, 0, none⟩ = some (.int .i64 (hyp zs n : Int)) := by
  have H := indexHyper_any b off n c B zs w0 w hg hb hB hB' hrow hok hbig hc hz
  have HQ := Lib.hid hq
  clear hrow hok hq
  go_enter Try.func17, Try.ntmps17
  go_wp2_with (first | (go_at_call 35; refine H.mono ?_; rintro e w' ⟨hg', ⟨rfl, h1, h2⟩ | ⟨j, rfl, h1, h3⟩⟩; rotate_left; exact absurd HQ.out (by omega)))
  go_ret
  exact ⟨rfl, hg', h2⟩

set_option maxHeartbeats 2000000 in
theorem contHyper_gt (b off n c B : Nat) (zs : Nat → Fl) (w0 w : World) (hg : Gr w0 w) (hb : b < w0.heap.size) (hB : w0.heap.size ≤ B) (hB' : B < w.heap.size) (hrow : RowFl w0 b off n zs) (hok : okP zs n) (hbig : n ≤ 16)
    (hc : w.cell? ⟨B, 0, none⟩ = some (.int .i64 1)) (hz : w.frozen? ⟨B, 0, none⟩ = false) (hq : ¬ hyp zs n ≤ 512) :
    Calls Try.prog 17 #[.slice (some ⟨b, off, none⟩) n c, .func (.func 33) #[] #[.pointer (some ⟨B, 0, none⟩)]] w fun e w' => e = .returned (.bool true) ∧ Gr w0 w' := by
  have H := indexHyper_any b off n c B zs w0 w hg hb hB hB' hrow hok hbig hc hz
  have HQ := Lib.hid hq
  clear hrow hok hq
  go_enter Try.func17, Try.ntmps17
  go_wp2_with (first | (go_at_call 35; refine H.mono ?_; rintro e w' ⟨hg', ⟨rfl, h1, h2⟩ | ⟨j, rfl, h1, h3⟩⟩; exact absurd h1 HQ.out))
  have hj : (0 : Int) ≤ (j : Int) := by omega
  go_ret
  exact ⟨ret_bool (by simp), hg'⟩

set_option maxHeartbeats 2000000 in
theorem hyper_any (b off n c : Nat) (zs : Nat → Fl) (w : World) (hb : b < w.heap.size) (hrow : RowFl w b off n zs) (hbig : n ≤ 4611686018427387904) :
    Calls Try.prog 16 #[.slice (some ⟨b, off, none⟩) n c] w fun e w' => e = .returned (.tuple #[.int .i64 (Fw.hN n zs), .int .i64 (Fw.hE n zs)]) ∧ Gr w w' := by
  have H := check_any 32 b off n c zs w hb hrow hbig
  have HR := Lib.hid hrow
  have HB := Lib.hid hb
  clear hrow
  by_cases he : Fw.cE 32 n zs = 0
  · obtain ⟨hn, hok⟩ := Fw.cE_ok he
    have HK := Lib.hid hok
    have HN := Lib.hid hn
    clear hok
    by_cases hq : hyp zs n ≤ 512
    · have N : Hid ((hyp zs n : Int) = Fw.hN n zs) := by unfold Fw.hN; rw [if_pos he, if_pos hq]; rfl
      have E : Hid (0 = Fw.hE n zs) := by unfold Fw.hE; rw [if_pos he, if_pos hq]; rfl
      have HQ := Lib.hid hq
      clear hq
      go_enter Try.func16, Try.ntmps16
      go_wp2_with (first | (go_at_call 19; refine H.mono ?_; rintro e w' ⟨rfl, hg'⟩) | (go_at_call 17; refine (contHyper_le b off n c w'.heap.size zs w _ (hg'.alloc _) HB.out hg'.size (by simp) HR.out HK.out HN.out (by go_simp) (by go_simp) HQ.out).mono ?_; rintro e w2 ⟨rfl, hg2, hc2⟩))
      go_ret2
      exact ⟨ret_int2 N.out E.out, hg2⟩
    · have N : Hid (0 = Fw.hN n zs) := by unfold Fw.hN; rw [if_pos he, if_neg hq]; rfl
      have E : Hid (21 = Fw.hE n zs) := by unfold Fw.hE; rw [if_pos he, if_neg hq]; rfl
      have HQ := Lib.hid hq
      clear hq
      go_enter Try.func16, Try.ntmps16
      go_wp2_with (first | (go_at_call 19; refine H.mono ?_; rintro e w' ⟨rfl, hg'⟩) | (go_at_call 17; refine (contHyper_gt b off n c w'.heap.size zs w _ (hg'.alloc _) HB.out hg'.size (by simp) HR.out HK.out HN.out (by go_simp) (by go_simp) HQ.out).mono ?_; rintro e w2 ⟨rfl, hg2⟩))
      go_ret2
      exact ⟨ret_int2 N.out E.out, hg2⟩
  · have N : Hid (0 = Fw.hN n zs) := by unfold Fw.hN; rw [if_neg he]; rfl
    have E : Hid (1 = Fw.hE n zs) := by unfold Fw.hE; rw [if_neg he]; rfl
    have b1 : (Fw.cE 32 n zs != 0) = true := by simpa using he
    clear he
    go_enter Try.func16, Try.ntmps16
    go_wp2_with (first | (go_at_call 19; refine H.mono ?_; rintro e w' ⟨rfl, hg'⟩))
    go_ret2
    exact ⟨ret_int2 N.out E.out, hg'⟩
end Go.Proofs.Ytabckmanijcndaa
