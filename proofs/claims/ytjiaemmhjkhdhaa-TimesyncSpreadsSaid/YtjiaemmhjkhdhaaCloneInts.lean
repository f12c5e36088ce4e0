/- The contract of slices.Clone at []int. -/
import Derived.Test.YtjiaemmhjkhdhaaRows
import Derived.Test.YtjiaemmhjkhdhaaRow
import Derived.Test.YtjiaemmhjkhdhaaRet
import Derived.Deep.LoopGhost
import Derived.WalkLawsBesides
import Derived.WalkSpells
import Derived.Outline
namespace Go.Proofs.Ytjiaemmhjkhdhaa
open Go.RowKit Go.Sort
set_option linter.unusedVariables false

theorem infoI' : (Try.prog.info? 3).map (fun i => (i.zero, i.size, i.bytes)) = some (some (.int .i64 0), 1, 8) := by kernel_rfl

/-- a list of ints comes back -/
def ListPost (l : List Int) (w : World) (e : Ending) (w' : World) : Prop := ∃ v, e = .returned v ∧ Rows 1 encI w' v l ∧ Gr w w'

/-- a list of ints and an error come back -/
def IntsRes (E : Int) (l : List Int) (w : World) (e : Ending) (w' : World) : Prop := ∃ v, e = .returned (.tuple #[v, .int .i64 E]) ∧ Rows 1 encI w' v l ∧ Gr w w'

set_option maxHeartbeats 1000000 in
theorem clone_any (v : Value) (l : List Int) (w : World) (h : Rows 1 encI w v l) (hb : l.length ≤ 1099511627776) :
    Calls Try.prog 22 #[v] w (ListPost l w) := by
  obtain ⟨i0, hi, hz0, hz1, hz2⟩ := info_parts infoI'
  have eqn := fun (w : World) a n c => Lib.run_eql_slice_nil (P := Try.prog) w 36 3 a n c 0 0 Try.underlying36
  by_cases hn : v = .slice none 0 0
  · subst hn
    have hl : l = [] := by
      rcases h with ⟨rfl, _⟩ | ⟨b, off, c, _, hv, _⟩
      · rfl
      · simp at hv
    subst hl
    go_enter Try.func22, Try.ntmps22
    go_wp2_with fail
    go_ret
    exact ⟨_, rfl, Rows.nil _ _, Gr.refl w⟩
  · have hs : ∃ ad c, v = .slice (some ad) l.length c := by
      rcases h with ⟨rfl, A, c, rfl, hA⟩ | ⟨b, off, c, _, rfl, _⟩
      · cases A with
        | none => exact absurd (by rw [hA rfl]) hn
        | some ad => exact ⟨ad, c, rfl⟩
      · exact ⟨_, c, rfl⟩
    obtain ⟨ad, c, rfl⟩ := hs
    have H := Lib.hid h
    have G0 := Gr.alloc (Gr.refl w) (Obj.cells #[] 3)
    clear h hn
    go_enter Try.func22, Try.ntmps22
    go_wp2_with (at_builtin; refine wpList_append_rows rfl _ _ 36 rfl w.heap.size 3 i0 (.int .i64 0) 8 Try.underlying36 hi hz0 hz1 hz2 rfl (by decide) encI_len (by simp [encI, Value.oneCell']) _ 0 [] rfl (World.ownsRow_lit w #[] 0 (Nat.le_refl _) (by simp [maxLen]) rfl) l _ rfl (H.out.gr G0) ?qc1 ?qc2 ?qc3 ?_)
    case qc1 => unfold maxLen; omega
    case qc2 => omega
    case qc3 => exact G0.size
    intro v' w' hown' hgrow _
    have HO := Lib.hid hown'
    clear hown'
    go_wp2_with fail
    go_ret
    exact ⟨_, rfl, Rows.of_owns encI_len (by have := HO.out; simpa using this), G0.append hgrow (fun k hk => by simp [Value.ownBlock] at hk; omega)⟩
end Go.Proofs.Ytjiaemmhjkhdhaa
