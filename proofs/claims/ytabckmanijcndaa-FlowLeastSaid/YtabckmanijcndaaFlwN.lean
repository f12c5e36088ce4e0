/- flow.Check, Hyper and Find over any slice of flows. -/
import Derived.Test.YtabckmanijcndaaFlwE
import Derived.Test.YtabckmanijcndaaRow
import Derived.Outline
namespace Go.Proofs.Ytabckmanijcndaa
open Go.RowKit Go.Sort
set_option linter.unusedVariables false

/-- a flow's cells -/
abbrev encF (f : Fl) : List Value := [.int .i64 f.id, .int .i64 f.fr, .int .i64 f.to, .int .i64 f.pe, .int .i64 f.ph, .int .i64 f.de]
theorem encF_len (f : Fl) : (encF f).length = 6 := rfl
instance : Inhabited Fl := ⟨⟨0, 0, 0, 0, 0, 0⟩⟩
/-- the flow at an index -/
def at_ (l : List Fl) (j : Nat) : Fl := l.getD j default

theorem rows_fl {w : World} {l : List Fl} {b off : Nat} (h : ∀ i x, l[i]? = some x → ∀ j u, (encF x)[j]? = some u → w.cell? ⟨b, off + i * 6 + j, none⟩ = some u) : RowFl w b off l.length (at_ l) := by
  intro j hj
  have e : l[j]? = some (at_ l j) := by unfold at_; rw [List.getD_eq_getElem?_getD, List.getElem?_eq_getElem hj]; rfl
  exact ⟨h j _ e 0 _ rfl, h j _ e 1 _ rfl, h j _ e 2 _ rfl, h j _ e 3 _ rfl, h j _ e 4 _ rfl, h j _ e 5 _ rfl⟩

set_option maxHeartbeats 1000000 in
theorem check_nil (m : Int) (A : Option Addr) (c : Nat) (zs : Nat → Fl) (w : World) :
    Calls Try.prog 19 #[.int .i64 m, .slice A 0 c] w fun e w' => e = .returned (.tuple #[.int .i64 (Fw.cI m 0 zs), .int .i64 (Fw.cE m 0 zs)]) ∧ Gr w w' := by
  by_cases hm : 2 ≤ m ∧ m ≤ 32
  · obtain ⟨r1, r2⟩ := Fw.c_miss (zs := zs) (⟨hm.1, hm.2, by decide⟩ : Fw.okM m 0) (fun j hj => absurd hj (Nat.not_lt_zero _))
    obtain ⟨m1, m2⟩ := hm
    go_enter Try.func19, Try.ntmps19
    go_wp2
    go_loopg [6, 7, 8, 20] 0 (fun gg _ _ _ s20 wr => s20 = .int .i64 0 ∧ wr = w)
    case atStart => exact ⟨rfl, rfl⟩
    case round =>
      obtain ⟨rfl, rfl⟩ := hrel
      go_wp2
      go_ret2
      exact ⟨by first | rfl | exact ret_int2 r1.symm r2.symm, Gr.refl _⟩
  · obtain ⟨r1, r2⟩ := Fw.c_nodes (n := 0) (zs := zs) hm
    by_cases h2 : 2 ≤ m
    all_goals
      go_enter Try.func19, Try.ntmps19
      go_wp2
      go_ret2
      exact ⟨by first | rfl | exact ret_int2 r1.symm r2.symm, by repeat (first | (with_reducible exact Gr.refl _) | (with_reducible assumption) | (with_reducible refine Gr.alloc ?_ _) | (with_reducible refine Gr.drewN ?_ _) | (with_reducible refine Gr.drew ?_) | (with_reducible refine Gr.grown ?_ _ _) | (with_reducible refine Gr.regrown ?_ _ _) | (with_reducible refine Gr.setCell ?_ (by first | omega | (simp; omega) | simp) _) | (with_reducible refine Gr.trans ?_ (by with_reducible assumption)))⟩

set_option maxHeartbeats 1000000 in
theorem index_nil (g : Nat) (cb : Array Value) (A : Option Addr) (c : Nat) (w : World) :
    Calls Try.prog 35 #[.slice A 0 c, .func (.func g) #[] cb] w fun e w' => e = .returned (.int .i64 (-1)) ∧ w' = w := by
  go_enter Try.func35, Try.ntmps35
  go_wp2
  go_loopg [5, 8] 0 (fun gg _ s8 wr => s8 = .int .i64 0 ∧ wr = w)
  case atStart => exact ⟨rfl, rfl⟩
  case round =>
    obtain ⟨rfl, rfl⟩ := hrel
    go_wp2
    go_ret
    exact ⟨rfl, rfl⟩

set_option maxHeartbeats 1000000 in
theorem cont_nil (g : Nat) (cb : Array Value) (A : Option Addr) (c : Nat) (w : World) :
    Calls Try.prog 17 #[.slice A 0 c, .func (.func g) #[] cb] w fun e w' => e = .returned (.bool false) ∧ w' = w := by
  go_enter Try.func17, Try.ntmps17
  go_wp2_with (go_at_call 35; refine (index_nil g cb A c _).mono ?_; rintro e w' ⟨rfl, rfl⟩)
  go_ret
  exact ⟨rfl, rfl⟩

set_option maxHeartbeats 1000000 in
theorem hyper_nil (A : Option Addr) (c : Nat) (zs : Nat → Fl) (w : World) :
    Calls Try.prog 16 #[.slice A 0 c] w fun e w' => e = .returned (.tuple #[.int .i64 (Fw.hN 0 zs), .int .i64 (Fw.hE 0 zs)]) ∧ Gr w w' := by
  have H := check_nil 32 A c zs w
  have r2 := (Fw.c_miss (zs := zs) (⟨by decide, by decide, by decide⟩ : Fw.okM 32 0) (fun j hj => absurd hj (Nat.not_lt_zero _))).2
  have hq : hyp zs 0 ≤ 512 := by show 1 ≤ 512; decide
  have N : Hid (1 = Fw.hN 0 zs) := by show _ = _; unfold Fw.hN; rw [if_pos r2, if_pos hq]; rfl
  have E : Hid (0 = Fw.hE 0 zs) := by show _ = _; unfold Fw.hE; rw [if_pos r2, if_pos hq]
  clear hq
  go_enter Try.func16, Try.ntmps16
  go_wp2_with (first | (go_at_call 19; refine H.mono ?_; rintro e w' ⟨rfl, hg'⟩) | (go_at_call 17; refine (cont_nil _ _ _ _ _).mono ?_; rintro e w2 ⟨rfl, rfl⟩))
  go_ret2
  exact ⟨ret_int2 N.out E.out, by repeat (first | (with_reducible exact Gr.refl _) | (with_reducible assumption) | (with_reducible refine Gr.alloc ?_ _) | (with_reducible refine Gr.drewN ?_ _) | (with_reducible refine Gr.drew ?_) | (with_reducible refine Gr.grown ?_ _ _) | (with_reducible refine Gr.regrown ?_ _ _) | (with_reducible refine Gr.setCell ?_ (by first | omega | (simp; omega) | simp) _) | (with_reducible refine Gr.trans ?_ (by with_reducible assumption)))⟩

theorem check_rows (m : Int) (v : Value) (l : List Fl) (w : World) (h : Rows 6 encF w v l) (hbig : (l.length : Int) ≤ 9223372036854775807 ∧ l.length ≤ 4611686018427387904) :
    Calls Try.prog 19 #[.int .i64 m, v] w fun e w' => e = .returned (.tuple #[.int .i64 (Fw.cI m l.length (at_ l)), .int .i64 (Fw.cE m l.length (at_ l))]) ∧ Gr w w' := by
  rcases h with ⟨rfl, A, c, rfl, _⟩ | ⟨b, off, c, hb, rfl, hc⟩
  · exact check_nil m A c (at_ []) w
  · exact check_any m b off l.length c (at_ l) w hb (rows_fl hc) hbig.2
theorem hyper_rows (v : Value) (l : List Fl) (w : World) (h : Rows 6 encF w v l) (hbig : l.length ≤ 4611686018427387904) :
    Calls Try.prog 16 #[v] w fun e w' => e = .returned (.tuple #[.int .i64 (Fw.hN l.length (at_ l)), .int .i64 (Fw.hE l.length (at_ l))]) ∧ Gr w w' := by
  rcases h with ⟨rfl, A, c, rfl, _⟩ | ⟨b, off, c, hb, rfl, hc⟩
  · exact hyper_nil A c (at_ []) w
  · exact hyper_any b off l.length c (at_ l) w hb (rows_fl hc) hbig
end Go.Proofs.Ytabckmanijcndaa
