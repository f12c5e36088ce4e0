/- The contracts of slices.Grow(nil, n) and of slices.Concat of two at []int. -/
import Derived.Test.YtabckmanijcndaaRows
import Derived.Test.YtabckmanijcndaaRow
import Derived.Test.YtabckmanijcndaaRet
import Derived.Deep.LoopGhost
import Derived.Lib.AppendZeros
import Derived.WalkLawsBesides
import Derived.Outline
namespace Go.Proofs.Ytabckmanijcndaa
open Go.RowKit Go.Sort
set_option linter.unusedVariables false

theorem infoI' : (Try.prog.info? 3).map (fun i => (i.zero, i.size, i.bytes)) = some (some (.int .i64 0), 1, 8) := by kernel_rfl

/-- an owned empty row comes back -/
def GrowPost (w : World) (e : Ending) (w' : World) : Prop := ∃ v, e = .returned v ∧ w'.ownsRow w.heap.size 3 1 v 0 [] ∧ Gr w w'

set_option maxHeartbeats 1000000 in
theorem grow_any (n : Nat) (hn : n ≤ 1099511627776) (w : World) :
    Calls Try.prog 41 #[.slice none 0 0, .int .i64 (n : Int)] w (GrowPost w) := by
  obtain ⟨i0, hi, hz0, hz1, hz2⟩ := info_parts infoI'
  by_cases h0 : n = 0
  · subst h0
    go_enter Try.func41, Try.ntmps41
    go_wp2_with fail
    go_ret
    exact ⟨_, rfl, World.ownsRow_nil _ _ _ _, Gr.refl w⟩
  · have h1 : (0 : Int) < (n : Int) := by omega
    have hcap := grownCap_ge w n 0 3
    have hcm := grownCap_le_maxLen w n 0 3 (by unfold maxLen; omega)
    have HR := Lib.run_append_nil_zeros w 43 3 43 3 i0 (.int .i64 0) .i64 .i64 Try.underlying43 Try.underlying3 hi hz0 n (by omega) (by omega) (by omega) (by rw [hz2]; omega)
    generalize grownCap w n 0 3 = C at *
    have HC := Lib.hid hcap
    have HM := Lib.hid hcm
    have HA := Lib.hid HR
    clear hcap hcm HR
    go_enter Try.func41, Try.ntmps41
    go_wp2_with (at_builtin; refine Lib.wpList_append_run _ rfl _ _ 43 3 rfl (.slice none 0 0) (.int .i64 (n : Int)) rfl rfl _ _ HA.out ?_)
    go_ret
    refine ⟨_, rfl, ⟨rfl, .inr ⟨w.heap.size, C, _, rfl, Nat.le_refl _, heap_alloc_new _ _, Nat.zero_le _, HM.out, ?_, rfl⟩⟩, by repeat (first | (with_reducible exact Gr.refl _) | (with_reducible assumption) | (with_reducible refine Gr.alloc ?_ _) | (with_reducible refine Gr.drewN ?_ _) | (with_reducible refine Gr.drew ?_) | (with_reducible refine Gr.grown ?_ _ _) | (with_reducible refine Gr.regrown ?_ _ _) | (with_reducible refine Gr.setCell ?_ (by first | omega | (simp; omega) | simp) _) | (with_reducible refine Gr.trans ?_ (by with_reducible assumption)))⟩
    rw [Array.size_append, size_zeroCells, size_zeroCells]
    have := HC.out
    simp
    omega

/-- the two lists, one behind the other, come back -/
def CatPost (l : List Int) (w : World) (e : Ending) (w' : World) : Prop := ∃ v, e = .returned v ∧ Rows 1 encI w' v l ∧ Gr w w'

set_option maxHeartbeats 4000000 in
theorem concat_any (b c n1 n2 : Nat) (A1 A2 : Option Addr) (C1 C2 : Nat) (l1 l2 : List Int) (w : World) (c0 : w.cell? ⟨b, 0, none⟩ = some (.slice A1 n1 C1)) (c1 : w.cell? ⟨b, 1, none⟩ = some (.slice A2 n2 C2))
    (h1 : Rows 1 encI w (.slice A1 n1 C1) l1) (h2 : Rows 1 encI w (.slice A2 n2 C2) l2) (e1 : l1.length = n1) (e2 : l2.length = n2) (hb : n1 + n2 ≤ 1099511627776) :
    Calls Try.prog 28 #[.slice (some ⟨b, 0, none⟩) 2 c] w (CatPost (l1 ++ l2) w) := by
  obtain ⟨i0, hi, hz0, hz1, hz2⟩ := info_parts infoI'
  have E1 := Lib.hid e1
  have E2 := Lib.hid e2
  have H1 := Lib.hid h1
  have H2 := Lib.hid h2
  have hbw := block_lt_of_cell c0
  have C0 := Lib.hid c0
  have C1' := Lib.hid c1
  clear e1 e2 h1 h2
  go_enter Try.func28, Try.ntmps28
  go_wp2
  go_loopg [3, 5, 11] 2 (fun gg s3 _ s11 wr => wr = w ∧ ((s11 = .int .i64 0 ∧ s3 = .int .i64 0 ∧ 2 ≤ gg) ∨ (s11 = .int .i64 1 ∧ s3 = .int .i64 (n1 : Int) ∧ 1 ≤ gg) ∨ (s11 = .int .i64 2 ∧ s3 = .int .i64 (((n1 + n2 : Nat)) : Int))))
  case atStart => exact ⟨rfl, .inl ⟨rfl, rfl, Nat.le_refl _⟩⟩
  case round =>
    obtain ⟨rfl, ⟨rfl, rfl, hg⟩ | ⟨rfl, rfl, hg⟩ | ⟨rfl, rfl⟩⟩ := hrel
    · go_wp2_with fail
      go_roundg 1
      case measure => omega
      case rel => exact ⟨rfl, .inr (.inl ⟨rfl, by go_num, Nat.le_refl _⟩)⟩
    · go_wp2_with fail
      go_roundg 0
      case measure => omega
      case rel => exact ⟨rfl, .inr (.inr ⟨rfl, by go_num⟩)⟩
    · clear c0 c1
      obtain ⟨wo, rfl⟩ : ∃ wo : World, wo = wr := ⟨_, rfl⟩
      go_wp2_with fail
      refine (grow_any (n1 + n2) hb _).mono ?_
      rintro e w1 ⟨v0, rfl, hown, g1⟩
      have O := Lib.hid hown
      have G := Lib.hid g1
      clear hown g1
      go_wp2_with fail
      go_loopg [6, 8, 27] 2 (fun gg s6 _ s27 w2 => Aside (Gr wo w2) ∧ ((s27 = .int .i64 0 ∧ Aside (w2.ownsRow wo.heap.size 3 1 s6 0 []) ∧ 2 ≤ gg) ∨ (s27 = .int .i64 1 ∧ Aside (w2.ownsRow wo.heap.size 3 1 s6 n1 (l1.map encI).flatten) ∧ 1 ≤ gg) ∨ (s27 = .int .i64 2 ∧ Aside (w2.ownsRow wo.heap.size 3 1 s6 (n1 + n2) ((l1.map encI).flatten ++ (l2.map encI).flatten)))))
      case atStart => exact ⟨G.out, .inl ⟨rfl, O.out, Nat.le_refl _⟩⟩
      case round =>
        obtain ⟨g2, ⟨rfl, O2, hg⟩ | ⟨rfl, O2, hg⟩ | ⟨rfl, O2⟩⟩ := hrel
        · have d0 := (g2.out.cell (p := ⟨b, 0, none⟩) hbw).trans C0.out
          go_wp2_with (at_builtin; refine wpList_append_rows rfl _ _ 43 rfl wo.heap.size 3 i0 (.int .i64 0) 8 Try.underlying43 hi hz0 hz1 hz2 rfl (by decide) encI_len (by simp [encI, Value.oneCell']) _ 0 [] rfl O2.out l1 (.slice A1 n1 C1) rfl (H1.out.gr g2.out) ?qc1 ?qc2 ?qc3 ?_)
          case qc1 => rw [E1.out]; unfold maxLen; omega
          case qc2 => rw [E1.out]; omega
          case qc3 => exact g2.out.size
          intro v' w' hown' hgrow _
          have HO := Lib.hid hown'
          clear hown'
          go_wp2_with fail
          go_roundg 1
          case measure => omega
          case rel => exact ⟨g2.out.append hgrow (fun k hk => (O2.out.lt k hk).1), .inr (.inl ⟨rfl, (show World.ownsRow _ _ _ _ _ _ _ by have := HO.out; rw [E1.out] at this; simpa using this), Nat.le_refl _⟩)⟩
        · have d0 := (g2.out.cell (p := ⟨b, 1, none⟩) hbw).trans C1'.out
          go_wp2_with (at_builtin; refine wpList_append_rows rfl _ _ 43 rfl wo.heap.size 3 i0 (.int .i64 0) 8 Try.underlying43 hi hz0 hz1 hz2 rfl (by decide) encI_len (by simp [encI, Value.oneCell']) _ n1 _ rfl O2.out l2 (.slice A2 n2 C2) rfl (H2.out.gr g2.out) ?qc1 ?qc2 ?qc3 ?_)
          case qc1 => rw [E2.out]; unfold maxLen; omega
          case qc2 => rw [E2.out]; omega
          case qc3 => exact g2.out.size
          intro v' w' hown' hgrow _
          have HO := Lib.hid hown'
          clear hown'
          go_wp2_with fail
          go_roundg 0
          case measure => omega
          case rel => exact ⟨g2.out.append hgrow (fun k hk => (O2.out.lt k hk).1), .inr (.inr ⟨rfl, (show World.ownsRow _ _ _ _ _ _ _ by have := HO.out; rw [E2.out] at this; simpa using this)⟩)⟩
        · go_wp2_with fail
          go_ret
          exact ⟨_, rfl, Rows.ints_of (n := n1 + n2) (by have := O2.out; rw [flat_int, flat_int, ← List.map_append] at this; exact this) (by rw [List.length_append, E1.out, E2.out]), g2.out⟩
end Go.Proofs.Ytabckmanijcndaa
