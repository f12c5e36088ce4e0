/- The contract of flow.Check over a slice of flows. -/
import Derived.Test.YtabckmanijcndaaFlwRow
import Derived.Test.YtabckmanijcndaaFlwL
namespace Go.Proofs.Ytabckmanijcndaa
open Go.RowKit Go.Sort
set_option linter.unusedVariables false

theorem chk_cases (n : Int) (f : Fl) : Fw.chk n f = 0 ∨ (¬ Fw.chk n f = 0 ∧ (Fw.chk n f != 0) = true) := by
  by_cases h : Fw.chk n f = 0
  · exact .inl h
  · exact .inr ⟨h, by simpa using h⟩

set_option maxHeartbeats 2000000 in
theorem check_any (m : Int) (b off n c : Nat) (zs : Nat → Fl) (w : World) (hb : b < w.heap.size) (hrow : RowFl w b off n zs) (hbig : n ≤ 4611686018427387904) :
    Calls Try.prog 19 #[.int .i64 m, .slice (some ⟨b, off, none⟩) n c] w fun e w' => e = .returned (.tuple #[.int .i64 (Fw.cI m n zs), .int .i64 (Fw.cE m n zs)]) ∧ Gr w w' := by
  by_cases hm : 2 ≤ m ∧ m ≤ 32
  · by_cases hn : n ≤ 16
    · have HM : Hid (Fw.okM m n) := ⟨hm.1, hm.2, hn⟩
      have HR := Lib.hid hrow
      have hg0 := Gr.refl w
      have HB := Lib.hid hb
      obtain ⟨m1, m2⟩ := hm
      clear hrow
      go_enter Try.func19, Try.ntmps19
      go_wp2
      go_loopg [6, 7, 8, 20] n (fun gg _ _ _ s20 wr => ∃ kk : Nat, kk ≤ n ∧ n - kk ≤ gg ∧ s20 = .int .i64 kk ∧ Aside (Gr w wr) ∧ Aside (∀ j, j < kk → Fw.badB m zs j = false))
      case atStart => exact ⟨0, Nat.zero_le _, by omega, rfl, hg0, fun j hj => absurd hj (Nat.not_lt_zero _)⟩
      case round =>
        obtain ⟨kk, hkk, hgg, rfl, G, A⟩ := hrel
        by_cases hlt : kk < n
        · have hltz : (kk : Int) < (n : Int) := by omega
          obtain ⟨l0, l1, l2, l3, l4, l5⟩ := (HR.out.gr HB.out G.out) kk hlt
          rcases chk_cases m (zs kk) with hk | ⟨hk, hk2⟩
          · cases kk with
            | zero =>
              simp only [Nat.zero_mul, Nat.add_zero] at l0 l1 l2 l3 l4 l5
              have HZ := Lib.hid (Fw.bad_no hk (fun h => absurd h.1 (Nat.lt_irrefl 0)))
              go_wp2_with (go_at_call 36; refine (fcheck_any m (zs 0) _).mono ?_; rintro e w' ⟨rfl, hn'⟩; have hg' := (Gr.alloc G.out _).trans hn'; have c2 : w'.cell? ⟨wr.heap.size, 0, none⟩ = some (.int .i64 (zs 0).id) := (hn'.cell (by simp)).trans (by go_simp); skip)
              go_quiet (fail)
              go_wp2_with fail
              go_roundg (n - (0 + 1))
              case measure => omega
              case rel => exact ⟨0 + 1, by omega, by omega, by go_num, hg'.drewN _, (show ∀ j, j < 0 + 1 → Fw.badB m zs j = false from fun j hj => by rw [show j = 0 by omega]; exact HZ.out)⟩
            | succ k =>
              by_cases hid : (zs (k + 1)).id ≤ (zs k).id
              · obtain ⟨z1, z2⟩ := Fw.bad_ord hk (Nat.succ_pos k) hid
                obtain ⟨r1, r2⟩ := Fw.c_hit HM.out A.out z2 hlt
                rw [z1] at r2
                have R1 := Lib.hid r1
                have R2 := Lib.hid r2
                clear r1 r2 z1 z2
                go_wp2_with (go_at_call 36; refine (fcheck_any m (zs (k + 1)) _).mono ?_; rintro e w' ⟨rfl, hn'⟩; have hg' := (Gr.alloc G.out _).trans hn'; have c2 : w'.cell? ⟨wr.heap.size, 0, none⟩ = some (.int .i64 (zs (k + 1)).id) := (hn'.cell (by simp)).trans (by go_simp); have c3 := ((HR.out.gr HB.out hg') k (by omega)).1)
                go_quiet (fail)
                go_wp2_with fail
                go_ret2
                exact ⟨ret_int2 (by have := R1.out; omega) R2.out.symm, hg'.drewN _⟩
              · have HZ := Lib.hid (Fw.bad_no (m := m) (zs := zs) (j := k + 1) hk (fun h => hid h.2))
                go_wp2_with (go_at_call 36; refine (fcheck_any m (zs (k + 1)) _).mono ?_; rintro e w' ⟨rfl, hn'⟩; have hg' := (Gr.alloc G.out _).trans hn'; have c2 : w'.cell? ⟨wr.heap.size, 0, none⟩ = some (.int .i64 (zs (k + 1)).id) := (hn'.cell (by simp)).trans (by go_simp); have c3 := ((HR.out.gr HB.out hg') k (by omega)).1)
                go_quiet (fail)
                go_wp2_with fail
                go_roundg (n - (k + 1 + 1))
                case measure => omega
                case rel => exact ⟨k + 1 + 1, by omega, by omega, by go_num, hg'.drewN _, (show ∀ j, j < k + 1 + 1 → Fw.badB m zs j = false from fun j hj => by
                  by_cases e : j = k + 1
                  · subst e; exact HZ.out
                  · exact A.out j (by omega))⟩
          · obtain ⟨z1, z2⟩ := Fw.bad_chk (zs := zs) hk
            obtain ⟨r1, r2⟩ := Fw.c_hit HM.out A.out z2 hlt
            rw [z1] at r2
            have R1 := Lib.hid r1
            have R2 := Lib.hid r2
            clear r1 r2 z1 z2
            go_wp2_with (go_at_call 36; refine (fcheck_any m (zs kk) _).mono ?_; rintro e w' ⟨rfl, hn'⟩; have hg' := (Gr.alloc G.out _).trans hn'; have c2 : w'.cell? ⟨wr.heap.size, 0, none⟩ = some (.int .i64 (zs kk).id) := (hn'.cell (by simp)).trans (by go_simp); skip)
            go_ret2
            exact ⟨ret_int2 R1.out.symm R2.out.symm, hg'⟩
        · have hltz : ¬ (kk : Int) < (n : Int) := by omega
          have : kk = n := by omega
          subst this
          obtain ⟨r1, r2⟩ := Fw.c_miss HM.out A.out
          go_wp2
          go_ret2
          exact ⟨by first | rfl | exact ret_int2 r1.symm r2.symm, G.out⟩
    · obtain ⟨r1, r2⟩ := Fw.c_big (zs := zs) hm hn
      obtain ⟨m1, m2⟩ := hm
      have hn2 : (16 : Int) < (n : Int) := by omega
      go_enter Try.func19, Try.ntmps19
      go_wp2
      go_ret2
      exact ⟨by first | rfl | exact ret_int2 r1.symm r2.symm, by repeat (first | (with_reducible exact Gr.refl _) | (with_reducible assumption) | (with_reducible refine Gr.alloc ?_ _) | (with_reducible refine Gr.drewN ?_ _) | (with_reducible refine Gr.drew ?_) | (with_reducible refine Gr.grown ?_ _ _) | (with_reducible refine Gr.regrown ?_ _ _) | (with_reducible refine Gr.setCell ?_ (by first | omega | (simp; omega) | simp) _) | (with_reducible refine Gr.trans ?_ (by with_reducible assumption)))⟩
  · obtain ⟨r1, r2⟩ := Fw.c_nodes (n := n) (zs := zs) hm
    by_cases h2 : 2 ≤ m
    all_goals
      go_enter Try.func19, Try.ntmps19
      go_wp2
      go_ret2
      exact ⟨by first | rfl | exact ret_int2 r1.symm r2.symm, by repeat (first | (with_reducible exact Gr.refl _) | (with_reducible assumption) | (with_reducible refine Gr.alloc ?_ _) | (with_reducible refine Gr.drewN ?_ _) | (with_reducible refine Gr.drew ?_) | (with_reducible refine Gr.grown ?_ _ _) | (with_reducible refine Gr.regrown ?_ _ _) | (with_reducible refine Gr.setCell ?_ (by first | omega | (simp; omega) | simp) _) | (with_reducible refine Gr.trans ?_ (by with_reducible assumption)))⟩
end Go.Proofs.Ytabckmanijcndaa
