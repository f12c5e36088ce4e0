/- The contracts of divisor and of Hyper's closure. -/
import Derived.Test.YtabckmanijcndaaFlwA
import Derived.Test.YtabckmanijcndaaFlwHyp
import Derived.Deep.LoopGhost
import Derived.StillTailTactics
import Derived.Deep.RegionWith
namespace Go.Proofs.Ytabckmanijcndaa
open Go.RowKit Go.Sort
set_option linter.unusedVariables false

set_option maxHeartbeats 1000000 in
theorem divisor_any (a b : Nat) (ha : (a : Int) ≤ 9223372036854775807) (hb : (b : Int) ≤ 9223372036854775807) (w : World) :
    Calls Try.prog 34 #[.int .i64 (a : Int), .int .i64 (b : Int)] w fun e w' => e = .returned (.int .i64 (Nat.gcd a b : Int)) ∧ ∃ q, w' = w.drewN q := by
  go_enter Try.func34, Try.ntmps34
  go_wp2
  go_loopg [0, 1] b (fun gg s0 s1 wr => ∃ x y : Nat, s0 = .int .i64 (x : Int) ∧ s1 = .int .i64 (y : Int) ∧ y ≤ gg ∧ (x : Int) ≤ 9223372036854775807 ∧ (y : Int) ≤ 9223372036854775807 ∧ Aside (Nat.gcd x y = Nat.gcd a b) ∧ ∃ q, wr = w.drewN q)
  case atStart => exact ⟨a, b, rfl, rfl, Nat.le_refl _, ha, hb, rfl, 0, rfl⟩
  case round =>
    obtain ⟨x, y, rfl, rfl, hg, hx, hy, G, q, rfl⟩ := hrel
    by_cases h0 : 0 < y
    · have h1 : (0 : Int) < (y : Int) := by omega
      have h2 : ¬ (y : Int) = 0 := by omega
      have hm : Int.tmod (x : Int) (y : Int) = ((x % y : Nat) : Int) := rfl
      have hlt := Nat.mod_lt x h0
      have hle := Nat.mod_le x y
      go_wp2_with fail
      go_quiet (fail)
      go_wp2_with fail
      go_roundg (x % y)
      case measure => omega
      case rel => exact ⟨y, x % y, rfl, by go_num, by omega, hy, by omega, (show Nat.gcd y (x % y) = Nat.gcd a b from gcd_step.trans G.out), _, World.drewN_drewN _ _ _⟩
    · have h1 : ¬ (0 : Int) < (y : Int) := by omega
      have : y = 0 := by omega
      subst this
      have hG := G.out
      rw [Nat.gcd_zero_right] at hG
      have HG := Lib.hid hG
      clear hG
      go_wp2_with fail
      go_ret
      exact ⟨ret_int (by rw [HG.out]), _, rfl⟩

set_option maxHeartbeats 4000000 in
theorem hyp1_any (f : Fl) (B o p : Nat) (hp : f.pe = (p : Int)) (p0 : 1 ≤ p) (p1 : p ≤ 512) (o0 : 1 ≤ o) (o1 : o ≤ 512) (w0 w : World) (hg : Gr w0 w) (hB : w0.heap.size ≤ B) (hB' : B < w.heap.size) (hc : w.cell? ⟨B, 0, none⟩ = some (.int .i64 (o : Int))) (hz : w.frozen? ⟨B, 0, none⟩ = false) :
    Calls Try.prog 33 #[.agg #[.int .i64 f.id, .int .i64 f.fr, .int .i64 f.to, .int .i64 f.pe, .int .i64 f.ph, .int .i64 f.de], .pointer (some ⟨B, 0, none⟩)] w fun e w' => e = .returned (.bool (decide (512 < lc o p))) ∧ Gr w0 w' ∧ B < w'.heap.size ∧ w'.cell? ⟨B, 0, none⟩ = some (.int .i64 (lc o p : Int)) ∧ w'.frozen? ⟨B, 0, none⟩ = false := by
  have L1 := lc_bd o1 p1
  obtain ⟨d, hd⟩ : ∃ d, d = Nat.gcd o p := ⟨_, rfl⟩
  have hdv := divisor_any o p (by omega) (by omega)
  have d0 : 0 < d := by rw [hd]; exact Nat.gcd_pos_of_pos_left _ o0
  have hlc : o / d * p = lc o p := by rw [hd]; rfl
  have d1 : ¬ (d : Int) = 0 := by omega
  have d2 : (1 : Int) ≤ (d : Int) := by omega
  rw [← hd] at hdv
  clear hd
  obtain ⟨z, hz1⟩ : ∃ z, z = o / d := ⟨_, rfl⟩
  have z1 : z ≤ o := by rw [hz1]; exact Nat.div_le_self _ _
  have q4 : (o : Int) / (d : Int) = (z : Int) := by rw [hz1]; exact (Int.natCast_ediv _ _).symm
  rw [← hz1] at hlc
  have q2 : (z : Int) * (p : Int) = (lc o p : Int) := by rw [← hlc]; push_cast; rfl
  generalize lc o p = L at *
  have q5 : IntKind.i64.wrap (z : Int) = (z : Int) := IntWalk.i64_in _ (by omega)
  have q6 : IntKind.i64.wrap (L : Int) = (L : Int) := IntWalk.i64_in _ (by omega)
  have q7 : Int.tdiv (o : Int) (d : Int) = (z : Int) := by rw [hz1]; rfl
  clear hlc hz1
  rw [hp]
  go_enter Try.func33, Try.ntmps33
  go_wp2_with fail
  go_region_with (go_at_call 34; refine (hdv _).mono ?_; rintro e w' ⟨rfl, q, rfl⟩)
  all_goals
    go_wp2_with fail
    go_ret
    exact ⟨ret_bool (by simp <;> omega), Gr.setCell ((hg.alloc _).drewN _) hB _, by simp; omega, by go_simp, by go_simp⟩
end Go.Proofs.Ytabckmanijcndaa
