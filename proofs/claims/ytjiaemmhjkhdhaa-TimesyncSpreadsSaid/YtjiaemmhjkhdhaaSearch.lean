/- sort.Search: over a closure that only reads (it may draw and lay blocks), false below r and true from r on, it returns r. Condition: n < 2^62. -/
import Derived.Test.YtjiaemmhjkhdhaaRows
import Derived.Test.YtjiaemmhjkhdhaaGr
import Derived.Deep.LoopGhost
import Derived.Shelf.RegionOpenPlain
import Derived.WalkLawsBesides
namespace Go.Proofs.Ytjiaemmhjkhdhaa
open Go.RowKit Go.Sort

set_option maxHeartbeats 4000000 in
set_option maxRecDepth 1000000 in
theorem search_at (g : Nat) (cb : Array Value) (n : Nat) (p : Nat → Bool) (r : Nat) (w : World) (eg : ∀ args w, (callFunc g args).run Try.prog w = .ok (.enter g args) w) (hsz : n < 4611686018427387904)
    (hf : ∀ (W : World) (i : Nat), Gr w W → i < n → Calls Try.prog g (#[.int .i64 i] ++ cb) W fun e w' => e = .returned (.bool (p i)) ∧ Gr W w')
    (hr : r ≤ n) (hlo : ∀ t, t < r → p t = false) (hhi : ∀ t, r ≤ t → t < n → p t = true) :
    Calls Try.prog 68 #[.int .i64 n, .func (.func g) #[] cb] w fun e w' => e = .returned (.int .i64 r) ∧ Gr w w' := by
  have HF : Aside _ := hf
  have HL : Aside _ := hlo
  have HH : Aside _ := hhi
  clear hf hlo hhi
  go_enter Try.func68, Try.ntmps68
  go_wp2
  go_loopg [5, 6] n (fun kx s5 s6 wr => ∃ (lo hi : Nat), s5 = .int .i64 lo ∧ s6 = .int .i64 hi ∧ lo ≤ r ∧ r ≤ hi ∧ hi ≤ n ∧ hi - lo ≤ kx ∧ Gr w wr)
  case atStart => exact ⟨0, n, rfl, rfl, Nat.zero_le _, hr, Nat.le_refl _, by omega, Gr.refl _⟩
  case round =>
    obtain ⟨lo, hi, rfl, rfl, hlr, hrh, hin, hg, hgr⟩ := hrel
    by_cases hlt : lo < hi
    · have hc := HF.out _ ((lo + hi) / 2) hgr (by omega)
      rw [show (((lo + hi) / 2 : Nat) : Int) = ((lo : Int) + (hi : Int)) / 2 by omega] at hc
      cases hp : p ((lo + hi) / 2) <;> rw [hp] at hc
      · have HP : Aside (p ((lo + hi) / 2) = false) := hp
        clear hp
        go_wp2_with (go_at_fn g; refine hc.mono ?_; rintro e w' ⟨rfl, hgn⟩)
        go_roundg (hi - ((lo + hi) / 2 + 1))
        case measure => omega
        case rel =>
          have hm : (lo + hi) / 2 < r := by
            by_cases c : (lo + hi) / 2 < r
            · exact c
            · have := HH.out ((lo + hi) / 2) (by omega) (by omega); rw [HP.out] at this; cases this
          exact ⟨(lo + hi) / 2 + 1, hi, by rw [show ((lo : Int) + (hi : Int)) / 2 + 1 = (((lo + hi) / 2 + 1 : Nat) : Int) by omega], rfl, by omega, hrh, hin, Nat.le_refl _, hgr.trans hgn⟩
      · have HP : Aside (p ((lo + hi) / 2) = true) := hp
        clear hp
        go_wp2_with (go_at_fn g; refine hc.mono ?_; rintro e w' ⟨rfl, hgn⟩)
        go_roundg ((lo + hi) / 2 - lo)
        case measure => omega
        case rel =>
          have hm : r ≤ (lo + hi) / 2 := by
            by_cases c : r ≤ (lo + hi) / 2
            · exact c
            · have := HL.out ((lo + hi) / 2) (by omega); rw [HP.out] at this; cases this
          exact ⟨lo, (lo + hi) / 2, rfl, by rw [show ((lo : Int) + (hi : Int)) / 2 = (((lo + hi) / 2 : Nat) : Int) by omega], hlr, hm, by omega, Nat.le_refl _, hgr.trans hgn⟩
    · obtain rfl : hi = r := by omega
      obtain rfl : lo = hi := by omega
      go_wp2
      go_ret
      exact ⟨rfl, hgr⟩
end Go.Proofs.Ytjiaemmhjkhdhaa
