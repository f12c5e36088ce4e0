/- The contracts of the functions of package clock that only compute: floor, Check, of, the dial's closure, Show. -/
import Derived.Test.YtjiaemmhjkhdhaaRows
import Derived.Test.YtjiaemmhjkhdhaaGr
import Derived.Test.YtjiaemmhjkhdhaaClkPlain
import Derived.WalkLawsBesides
import Derived.Laws.EntriesVeiled
import Derived.Handy
namespace Go.Proofs.Ytjiaemmhjkhdhaa
open Go.RowKit Go.Sort

theorem ret_int {k : IntKind} {a b : Int} (h : a = b) : Ending.returned (.int k a) = .returned (.int k b) := by rw [h]
theorem ret_int2 {k l : IntKind} {a b c d : Int} (h : a = b) (h' : c = d) : Ending.returned (.tuple #[.int k a, .int l c]) = .returned (.tuple #[.int k b, .int l d]) := by rw [h, h']

set_option maxHeartbeats 400000 in
theorem floor_any (a b : Int) (ha : -9000000000000000000 ≤ a) (ha' : a ≤ 9000000000000000000) (hb : 0 < b) (hb' : b ≤ 1000000000) (w : World) :
    Calls Try.prog 67 #[.int .i64 a, .int .i64 b] w fun e w' => e = .returned (.int .i64 (a / b)) ∧ w' = w := by
  by_cases h0 : 0 ≤ a
  · have hm := Int.emod_nonneg a (show b ≠ 0 by omega)
    go_enter Try.func67, Try.ntmps67
    go_wp2
    go_ret
    exact ⟨rfl, rfl⟩
  · have hl := Ck.tdiv_bd a b (by omega) hb
    obtain ⟨hl, hl'⟩ := hl
    by_cases h1 : a.tmod b < 0
    · have H : Hid (a.tdiv b - 1 = a / b) := Ck.floor_neg a b hb h1
      go_enter Try.func67, Try.ntmps67
      go_wp2
      go_ret
      exact ⟨ret_int H.out, rfl⟩
    · have H : Hid (a.tdiv b = a / b) := Ck.floor_zero a b (by omega) hb h1
      go_enter Try.func67, Try.ntmps67
      go_wp2
      go_ret
      exact ⟨ret_int H.out, rfl⟩

set_option maxHeartbeats 400000 in
theorem check_any (o d : Int) (w : World) :
    Calls Try.prog 41 #[.agg #[.int .i64 o, .int .i64 d]] w fun e w' => e = .returned (.int .i64 (Ck.chk o d)) ∧ Gr w w' := by
  go_enter Try.func41, Try.ntmps41
  go_wp2
  all_goals
    go_ret
    exact ⟨ret_int (by unfold Ck.chk; split <;> omega), (Gr.refl _).alloc _⟩


set_option maxHeartbeats 400000 in
theorem of_any (o d : Int) (w : World) :
    Calls Try.prog 51 #[.agg #[.int .i64 o, .int .i64 d]] w fun e w' => e = .returned (.agg #[.func (.func 66) #[] #[.pointer (some ⟨w.heap.size, 0, none⟩)]]) ∧ (w'.cell? ⟨w.heap.size, 0, none⟩ = some (.int .i64 o) ∧ w'.cell? ⟨w.heap.size, 1, none⟩ = some (.int .i64 d)) ∧ w.heap.size < w'.heap.size ∧ Gr w w' := by
  go_enter Try.func51, Try.ntmps51
  go_wp2
  go_returns
  exact ⟨rfl, ⟨by go_simp, by go_simp⟩, by simp; omega, ((Gr.refl _).alloc _).alloc _⟩

set_option maxHeartbeats 400000 in
theorem dial_any (o d t : Int) (B : Nat) (h0 : 0 ≤ t) (h1 : t ≤ 1099511627776) (o1 : -1099511627776 ≤ o) (o2 : o ≤ 1099511627776) (d1 : -100000 ≤ d) (d2 : d ≤ 100000) (w : World)
    (c0 : w.cell? ⟨B, 0, none⟩ = some (.int .i64 o)) (c1 : w.cell? ⟨B, 1, none⟩ = some (.int .i64 d)) :
    Calls Try.prog 66 #[.int .i64 t, .pointer (some ⟨B, 0, none⟩)] w fun e w' => e = .returned (.int .i64 (Ck.sh o d t)) ∧ ∃ n, w' = w.drewN n := by
  have hp := Ck.prod_bd t d h0 h1 d1 d2
  obtain ⟨hp1, hp2⟩ := hp
  go_enter Try.func66, Try.ntmps66
  go_wp2_with fail
  go_quiet ((go_at_call 67; exact Calls.quiet_of_same (floor_any _ _ (by omega) (by omega) (by omega) (by omega) _)))
  go_wp2
  go_ret
  exact ⟨rfl, _, rfl⟩

/-- the closure of a dial, out of the dial -/
theorem dial_field (B : Nat) (W : World) : Sem.run Try.prog (Instr.field 71 (.agg #[.func (.func 66) #[] #[.pointer (some ⟨B, 0, none⟩)]]) 0) W = .ok (.func (.func 66) #[] #[.pointer (some ⟨B, 0, none⟩)]) W := by kernel_rfl

set_option maxHeartbeats 400000 in
theorem show_any (o d t : Int) (w : World) :
    Calls Try.prog 43 #[.agg #[.int .i64 o, .int .i64 d], .int .i64 t] w fun e w' => e = .returned (.tuple #[.int .i64 (Ck.showN o d t), .int .i64 (Ck.showE o d t)]) ∧ Gr w w' := by
  rcases Ck.chk_01 o d with ⟨hc, v⟩ | ⟨hc, v⟩
  · by_cases ht : 0 ≤ t ∧ t ≤ 1099511627776
    · obtain ⟨ht, ht'⟩ := ht
      have hN : Hid (Ck.sh o d t = Ck.showN o d t) := by unfold Ck.showN; rw [if_pos ⟨hc, ht, ht'⟩]; rfl
      have hE : Hid (0 = Ck.showE o d t) := by unfold Ck.showE; rw [if_pos hc, if_pos ⟨ht, ht'⟩]; rfl
      obtain ⟨o1, o2, d1, d2⟩ := v
      have fld := dial_field
      go_enter Try.func43, Try.ntmps43
      go_wp2_with (first | (go_at_call 41; refine (check_any _ _ _).mono ?_; rintro e w' ⟨rfl, hn⟩; (first | have hg' := Gr.trans hg hn | have hg' := Gr.trans (Gr.alloc hg _) hn | have hg' := Gr.trans (Gr.drewN hg _) hn | have hg' := Gr.trans (Gr.alloc (Gr.alloc hg _) _) hn | have hg' := hn); (try clear hr hf hr2 hf2 hz hz2); (try clear hg); have hg := hg'; clear hg'; have hr := hg.rules.1; have hf := hg.rules.2; have hr2 := hn.rules.1; have hf2 := hn.rules.2; have hz := hg.size; (try simp only [World.size_alloc] at hz); have hz2 := hn.size; (try simp only [World.size_alloc] at hz2); (try clear hy1); (try clear hy2); (try clear hy3); (try have hy1 : w.heap.size < w'.heap.size := by omega); (try have hy2 : w.heap.size + 1 < w'.heap.size := by omega); (try have hy3 : w.heap.size + 1 + 1 < w'.heap.size := by omega); clear hn) | (go_at_call 51; refine (of_any _ _ _).mono ?_; rintro e w' ⟨rfl, ⟨c0, c1⟩, hz, hg⟩) | (go_at_call 66; refine (dial_any o d t _ ht ht' o1 o2 d1 d2 _ c0 c1).mono ?_; rintro e w' ⟨rfl, n, rfl⟩))
      go_ret2
      exact ⟨ret_int2 hN.out hE.out, by repeat (first | (with_reducible exact Gr.refl _) | (with_reducible assumption) | (with_reducible refine Gr.alloc ?_ _) | (with_reducible refine Gr.drewN ?_ _) | (with_reducible refine Gr.drew ?_) | (with_reducible refine Gr.grown ?_ _ _) | (with_reducible refine Gr.regrown ?_ _ _) | (with_reducible refine Gr.setCell ?_ (by first | omega | (simp; omega) | simp) _) | (with_reducible refine Gr.trans ?_ (by with_reducible assumption)))⟩
    · have hN : Hid (0 = Ck.showN o d t) := by unfold Ck.showN; rw [if_neg (fun h => ht h.2)]; rfl
      have hE : Hid (2 = Ck.showE o d t) := by unfold Ck.showE; rw [if_pos hc, if_neg ht]; rfl
      have ht2 : t < 0 ∨ 1099511627776 < t := by omega
      rcases ht2 with ht2 | ht2
      all_goals
        go_enter Try.func43, Try.ntmps43
        go_wp2_with (first | (go_at_call 41; refine (check_any _ _ _).mono ?_; rintro e w' ⟨rfl, hn⟩; (first | have hg' := Gr.trans hg hn | have hg' := Gr.trans (Gr.alloc hg _) hn | have hg' := Gr.trans (Gr.drewN hg _) hn | have hg' := Gr.trans (Gr.alloc (Gr.alloc hg _) _) hn | have hg' := hn); (try clear hr hf hr2 hf2 hz hz2); (try clear hg); have hg := hg'; clear hg'; have hr := hg.rules.1; have hf := hg.rules.2; have hr2 := hn.rules.1; have hf2 := hn.rules.2; have hz := hg.size; (try simp only [World.size_alloc] at hz); have hz2 := hn.size; (try simp only [World.size_alloc] at hz2); (try clear hy1); (try clear hy2); (try clear hy3); (try have hy1 : w.heap.size < w'.heap.size := by omega); (try have hy2 : w.heap.size + 1 < w'.heap.size := by omega); (try have hy3 : w.heap.size + 1 + 1 < w'.heap.size := by omega); clear hn))
        go_ret2
        exact ⟨ret_int2 hN.out hE.out, by repeat (first | (with_reducible exact Gr.refl _) | (with_reducible assumption) | (with_reducible refine Gr.alloc ?_ _) | (with_reducible refine Gr.drewN ?_ _) | (with_reducible refine Gr.drew ?_) | (with_reducible refine Gr.grown ?_ _ _) | (with_reducible refine Gr.regrown ?_ _ _) | (with_reducible refine Gr.setCell ?_ (by first | omega | (simp; omega) | simp) _) | (with_reducible refine Gr.trans ?_ (by with_reducible assumption)))⟩
  · have hN : Hid (0 = Ck.showN o d t) := by unfold Ck.showN; rw [if_neg (fun h => by rw [hc] at h; exact absurd h.1 (by decide))]; rfl
    have hE : Hid (1 = Ck.showE o d t) := by unfold Ck.showE; rw [if_neg (by rw [hc]; decide)]; rfl
    go_enter Try.func43, Try.ntmps43
    go_wp2_with (first | (go_at_call 41; refine (check_any _ _ _).mono ?_; rintro e w' ⟨rfl, hn⟩; (first | have hg' := Gr.trans hg hn | have hg' := Gr.trans (Gr.alloc hg _) hn | have hg' := Gr.trans (Gr.drewN hg _) hn | have hg' := Gr.trans (Gr.alloc (Gr.alloc hg _) _) hn | have hg' := hn); (try clear hr hf hr2 hf2 hz hz2); (try clear hg); have hg := hg'; clear hg'; have hr := hg.rules.1; have hf := hg.rules.2; have hr2 := hn.rules.1; have hf2 := hn.rules.2; have hz := hg.size; (try simp only [World.size_alloc] at hz); have hz2 := hn.size; (try simp only [World.size_alloc] at hz2); (try clear hy1); (try clear hy2); (try clear hy3); (try have hy1 : w.heap.size < w'.heap.size := by omega); (try have hy2 : w.heap.size + 1 < w'.heap.size := by omega); (try have hy3 : w.heap.size + 1 + 1 < w'.heap.size := by omega); clear hn))
    go_ret2
    exact ⟨ret_int2 hN.out hE.out, by repeat (first | (with_reducible exact Gr.refl _) | (with_reducible assumption) | (with_reducible refine Gr.alloc ?_ _) | (with_reducible refine Gr.drewN ?_ _) | (with_reducible refine Gr.drew ?_) | (with_reducible refine Gr.grown ?_ _ _) | (with_reducible refine Gr.regrown ?_ _ _) | (with_reducible refine Gr.setCell ?_ (by first | omega | (simp; omega) | simp) _) | (with_reducible refine Gr.trans ?_ (by with_reducible assumption)))⟩
end Go.Proofs.Ytjiaemmhjkhdhaa
