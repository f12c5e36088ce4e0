/- The contracts of slices.IndexFunc and slices.ContainsFunc at Hyper's closure, which writes what it captures. -/
import Derived.Test.YtabckmanijcndaaFlwB
import Derived.Test.YtabckmanijcndaaFlwRow
namespace Go.Proofs.Ytabckmanijcndaa
open Go.RowKit Go.Sort
set_option linter.unusedVariables false

set_option maxHeartbeats 2000000 in
theorem indexHyper_any (b off n c B : Nat) (zs : Nat → Fl) (w0 w : World) (hg : Gr w0 w) (hb : b < w0.heap.size) (hB : w0.heap.size ≤ B) (hB' : B < w.heap.size) (hrow : RowFl w0 b off n zs) (hok : okP zs n) (hbig : n ≤ 16)
    (hc : w.cell? ⟨B, 0, none⟩ = some (.int .i64 1)) (hz : w.frozen? ⟨B, 0, none⟩ = false) :
    Calls Try.prog 35 #[.slice (some ⟨b, off, none⟩) n c, .func (.func 33) #[] #[.pointer (some ⟨B, 0, none⟩)]] w fun e w' => Gr w0 w' ∧ ((e = .returned (.int .i64 (-1)) ∧ hyp zs n ≤ 512 ∧ w'.cell? ⟨B, 0, none⟩ = some (.int .i64 (hyp zs n : Int))) ∨ (∃ j : Nat, e = .returned (.int .i64 (j : Int)) ∧ 512 < hyp zs n ∧ j ≤ 16)) := by
  have HR := Lib.hid hrow
  have HK := Lib.hid hok
  clear hrow hok
  go_enter Try.func35, Try.ntmps35
  go_wp2
  go_loopg [5, 8] n (fun gg _ s8 wr => ∃ kk : Nat, kk ≤ n ∧ n - kk ≤ gg ∧ s8 = .int .i64 kk ∧ Aside (Gr w0 wr) ∧ B < wr.heap.size ∧ wr.cell? ⟨B, 0, none⟩ = some (.int .i64 (hyp zs kk : Int)) ∧ wr.frozen? ⟨B, 0, none⟩ = false ∧ Aside (hyp zs kk ≤ 512))
  case atStart => exact ⟨0, Nat.zero_le _, by omega, rfl, hg, hB', hc, hz, (show hyp zs 0 ≤ 512 by show 1 ≤ 512; decide)⟩
  case round =>
    clear hc hz hB' hg
    obtain ⟨kk, hkk, hgg, rfl, G, hB', hc, hz, hh⟩ := hrel
    by_cases hlt : kk < n
    · have hltz : (kk : Int) < (n : Int) := by omega
      obtain ⟨l0, l1, l2, l3, l4, l5⟩ := (HR.out.gr hb G.out) kk hlt
      have hp := HK.out kk hlt
      have hpos := hyp_pos HK.out kk hkk
      have hcall := hyp1_any (zs kk) B (hyp zs kk) (zs kk).pe.toNat (by omega) (by omega) (by omega) hpos hh.out w0 wr G.out hB hB' hc hz
      have hm := hyp_mono HK.out (kk + 1) (n - (kk + 1)) (by omega)
      rw [show kk + 1 + (n - (kk + 1)) = n by omega] at hm
      have hs : hyp zs (kk + 1) = lc (hyp zs kk) (zs kk).pe.toNat := rfl
      rw [← hs] at hcall
      have HM := Lib.hid hm
      clear hs hm hpos hp
      by_cases hq : 512 < hyp zs (kk + 1)
      · have b1 := bt hq
        rw [b1] at hcall
        have HQ := Lib.hid hq
        clear hq b1
        generalize zs kk = y at l0 l1 l2 l3 l4 l5 hcall
        go_wp2_with (go_at_call 33; refine hcall.mono ?_; rintro e w' ⟨rfl, hg', hB2, hc2, hz2⟩)
        go_ret
        exact ⟨hg', .inr ⟨kk, rfl, Nat.lt_of_lt_of_le HQ.out HM.out, by omega⟩⟩
      · have b1 := bf hq
        rw [b1] at hcall
        have HQ := Lib.hid hq
        clear hq b1
        generalize zs kk = y at l0 l1 l2 l3 l4 l5 hcall
        go_wp2_with (go_at_call 33; refine hcall.mono ?_; rintro e w' ⟨rfl, hg', hB2, hc2, hz2⟩)
        go_roundg (n - (kk + 1))
        case measure => omega
        case rel => exact ⟨kk + 1, by omega, by omega, by go_num, hg', hB2, hc2, hz2, (show hyp zs (kk + 1) ≤ 512 from Nat.le_of_not_lt HQ.out)⟩
    · have hltz : ¬ (kk : Int) < (n : Int) := by omega
      have : kk = n := by omega
      subst this
      go_wp2
      go_ret
      exact ⟨G.out, .inl ⟨rfl, hh.out, hc⟩⟩
end Go.Proofs.Ytabckmanijcndaa
