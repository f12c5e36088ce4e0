/- The contract of slices.Clone at []api.Synced. -/
import Derived.Test.YtjiaemmhjkhdhaaRows
import Derived.Test.YtjiaemmhjkhdhaaRunRow
import Derived.Test.YtjiaemmhjkhdhaaRow
import Derived.Test.YtjiaemmhjkhdhaaRet
import Derived.WalkLawsBesides
import Derived.WalkSpells
namespace Go.Proofs.Ytjiaemmhjkhdhaa
open Go.RowKit Go.Sort
set_option linter.unusedVariables false

theorem infoCloneS : (Try.prog.info? 25).map (fun i => (i.zero, i.size, i.bytes)) = some (some (.agg #[.int .i64 0, .int .i64 0, .int .i64 0, .int .i64 0]), 4, 32) := by kernel_rfl
/-- a row of the call's own comes back -/
def CloneSPost (l : List Sy) (w : World) (e : Ending) (w' : World) : Prop := ∃ v, e = .returned v ∧ w'.ownsRow w.heap.size 25 4 v l.length ((l.map encS).flatten) ∧ Gr w w'

set_option maxHeartbeats 1000000 in
theorem cloneCloneS_any (v : Value) (l : List Sy) (w : World) (h : Rows 4 encS w v l) (hb : l.length ≤ 1048576) :
    Calls Try.prog 27 #[v] w (CloneSPost l w) := by
  obtain ⟨i0, hi, hz0, hz1, hz2⟩ := info_parts infoCloneS
  have eqn := fun (w : World) a n c => Lib.run_eql_slice_nil (P := Try.prog) w 45 25 a n c 0 0 Try.underlying45
  by_cases hn : v = .slice none 0 0
  · subst hn
    have hl : l = [] := by
      rcases h with ⟨rfl, _⟩ | ⟨b, off, c, _, hv, _⟩
      · rfl
      · simp at hv
    subst hl
    go_enter Try.func27, Try.ntmps27
    go_wp2_with fail
    go_ret
    exact ⟨_, rfl, World.ownsRow_nil _ _ _ _, Gr.refl w⟩
  · have hs : ∃ ad c, v = .slice (some ad) l.length c := by
      rcases h with ⟨rfl, A, c, rfl, hA⟩ | ⟨b, off, c, _, rfl, _⟩
      · cases A with
        | none => exact absurd (by rw [hA rfl]) hn
        | some ad => exact ⟨ad, c, rfl⟩
      · exact ⟨_, c, rfl⟩
    obtain ⟨ad, c, rfl⟩ := hs
    have H := Lib.hid h
    have G0 := Gr.alloc (Gr.refl w) (Obj.cells #[] 25)
    clear h hn
    go_enter Try.func27, Try.ntmps27
    go_wp2_with (at_builtin; refine wpList_append_rows rfl _ _ 45 rfl w.heap.size 25 i0 (.agg #[.int .i64 0, .int .i64 0, .int .i64 0, .int .i64 0]) 32 Try.underlying45 hi hz0 hz1 hz2 rfl (by decide) encS_len (by simp [encS, Value.oneCell']) _ 0 [] rfl (World.ownsRow_lit w #[] 0 (Nat.le_refl _) (by simp [maxLen]) rfl) l _ rfl (H.out.gr G0) ?qc1 ?qc2 ?qc3 ?_)
    case qc1 => unfold maxLen; omega
    case qc2 => omega
    case qc3 => exact G0.size
    intro v' w' hown' hgrow _
    have HO := Lib.hid hown'
    clear hown'
    go_wp2_with fail
    go_ret
    exact ⟨_, rfl, by have := HO.out; simpa using this, G0.append hgrow (fun k hk => by simp [Value.ownBlock] at hk; omega)⟩
end Go.Proofs.Ytjiaemmhjkhdhaa
