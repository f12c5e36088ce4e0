/- The contracts of package allocate's within and Check. -/
import Derived.Test.YtkhanjhjcfhhiaaRows
import Derived.Test.YtkhanjhjcfhhiaaGr
import Derived.Test.YtkhanjhjcfhhiaaRet
import Derived.Test.YtkhanjhjcfhhiaaAlcRow
import Derived.WalkLawsBesides
import Derived.Laws.EntriesVeiled
import Derived.Handy
import Derived.Deep.LoopGhost
import Derived.IntWalk
namespace Go.Proofs.Ytkhanjhjcfhhiaa
open Go.RowKit Go.Sort
set_option linter.unusedVariables false

set_option maxHeartbeats 400000 in
theorem within_any (n h : Int) (w : World) :
    Calls Try.prog 39 #[.int .i64 n, .int .i64 h] w fun e w' => e = .returned (.bool (decide (0 ≤ n ∧ n ≤ h))) ∧ w' = w := by
  by_cases h : 0 ≤ n
  all_goals
    go_enter Try.func39, Try.ntmps39
    go_wp2_with fail
    go_ret
    exact ⟨ret_bool (by simp <;> omega), rfl⟩
theorem within_t (n h : Int) (w : World) (k : 0 ≤ n ∧ n ≤ h) : Calls Try.prog 39 #[.int .i64 n, .int .i64 h] w fun e w' => e = .returned (.bool true) ∧ w' = w :=
  (within_any n h w).mono fun e w' ⟨a, b⟩ => ⟨by rw [a, bt k], b⟩
theorem within_f (n h : Int) (w : World) (k : ¬ (0 ≤ n ∧ n ≤ h)) : Calls Try.prog 39 #[.int .i64 n, .int .i64 h] w fun e w' => e = .returned (.bool false) ∧ w' = w :=
  (within_any n h w).mono fun e w' ⟨a, b⟩ => ⟨by rw [a, bf k], b⟩

def W6 (p0 : Int) (c : Cl) : Prop := (c.k != 2) = true ∨ ((c.k != 2) = false ∧ c.b = false) ∨ ((c.k != 2) = false ∧ c.b = true ∧ (c.f != -1) = true) ∨ ((c.k != 2) = false ∧ c.b = true ∧ (c.f != -1) = false ∧ ¬ (0 ≤ c.p ∧ c.p ≤ 31)) ∨ ((c.k != 2) = false ∧ c.b = true ∧ (c.f != -1) = false ∧ (0 ≤ c.p ∧ c.p ≤ 31) ∧ (c.p != p0) = true) ∨ ((c.k != 2) = false ∧ c.b = true ∧ (c.f != -1) = false ∧ (0 ≤ c.p ∧ c.p ≤ 31) ∧ (c.p != p0) = false)
theorem w6_all (p0 : Int) (c : Cl) : W6 p0 c := by
  unfold W6
  simp only [bne_iff_ne, ne_eq, bne_eq_false_iff_eq]
  cases c.b <;> simp <;> omega
theorem w6_ok {p0 : Int} {c : Cl} (h1 : (c.k != 2) = false) (h2 : c.b = true) (h3 : (c.f != -1) = false) (h4 : 0 ≤ c.p ∧ c.p ≤ 31) (h5 : (c.p != p0) = false) : Al.okA p0 c := by
  simp only [bne_eq_false_iff_eq] at h1 h3 h5
  exact ⟨h1, h2, h3, h4, h5⟩
theorem w6_no1 {p0 : Int} {c : Cl} (h : (c.k != 2) = true) : ¬ Al.okA p0 c := fun k => by
  simp only [bne_iff_ne, ne_eq] at h
  exact h k.1
theorem w6_no2 {p0 : Int} {c : Cl} (h : c.b = false) : ¬ Al.okA p0 c := fun k => by rw [k.2.1] at h; cases h
theorem w6_no3 {p0 : Int} {c : Cl} (h : (c.f != -1) = true) : ¬ Al.okA p0 c := fun k => by
  simp only [bne_iff_ne, ne_eq] at h
  exact h k.2.2.1
theorem w6_no4 {p0 : Int} {c : Cl} (h : ¬ (0 ≤ c.p ∧ c.p ≤ 31)) : ¬ Al.okA p0 c := fun k => h k.2.2.2.1
theorem w6_no5 {p0 : Int} {c : Cl} (h : (c.p != p0) = true) : ¬ Al.okA p0 c := fun k => by
  simp only [bne_iff_ne, ne_eq] at h
  exact h k.2.2.2.2
/-- a fault at an index ends the check -/
theorem c_end {l : List Us} {k n : Nat} {x y : Us} {e : Int} (hl : l.length ≤ 64) (hn : l.length = n) (hk : k < n) (AL : ∀ j, j < k → Al.badE l j = 0) (h : Al.badE l k = e) (he : e ≠ 0) : Al.chk l = e :=
  Al.chk_hit hl AL h he (by omega)
theorem c_arg {l : List Us} {k n : Nat} {x y : Us} (hl : l.length ≤ 64) (hn : l.length = n) (hk : k < n) (AL : ∀ j, j < k → Al.badE l j = 0) (hx : Al.at_ l k = x) (hy : Al.at_ l 0 = y) (h : ¬ Al.okA y.c.p x.c) : Al.chk l = 1 := by
  subst hx hy
  exact Al.chk_hit hl AL (Al.bad_arg h) (by decide) (by omega)
theorem c_rng {l : List Us} {k n : Nat} {x y : Us} (hl : l.length ≤ 64) (hn : l.length = n) (hk : k < n) (AL : ∀ j, j < k → Al.badE l j = 0) (hx : Al.at_ l k = x) (hy : Al.at_ l 0 = y) (h : Al.okA y.c.p x.c) (h2 : ¬ Al.okN x) : Al.chk l = 2 := by
  subst hx hy
  exact Al.chk_hit hl AL (Al.bad_rng h h2) (by decide) (by omega)

set_option maxHeartbeats 4000000 in
set_option maxRecDepth 100000 in
theorem check_any (v : Value) (l : List Us) (w : World) (h : Rows 9 encU w v l) (hbig : (l.length : Int) ≤ 4611686018427387904) :
    Calls Try.prog 18 #[v] w fun e w' => e = .returned (.int .i64 (Al.chk l)) ∧ Gr w w' := by
  by_cases hl : l.length ≤ 64
  · obtain ⟨A, c, rfl⟩ := h.slice
    have CC0 : Aside (l.length = 0 ∨ ∃ b off, A = some ⟨b, off, none⟩ ∧ b < w.heap.size ∧ ∀ i x, l[i]? = some x → ∀ j u, (encU x)[j]? = some u → w.cell? ⟨b, off + i * 9 + j, none⟩ = some u) := by
      rcases h with ⟨rfl, _⟩ | ⟨b, off, c', hb, hv, hc⟩
      · exact .inl rfl
      · simp only [Value.slice.injEq] at hv
        exact .inr ⟨b, off, hv.1, hb, hc⟩
    have HL := Lib.hid hl
    obtain ⟨n, hn⟩ : ∃ n, l.length = n := ⟨_, rfl⟩
    have HN := Lib.hid hn
    rw [hn] at hbig hl ⊢
    have hz : ¬ (64 : Int) < (n : Int) := by omega
    clear h hn
    rcases CC0.out with h0 | ⟨b, off, rfl, hb, hc⟩
    · rw [HN.out] at h0
      subst h0
      have R := Lib.hid (Al.chk_miss (l := l) HL.out (fun j hj => absurd hj (by rw [HN.out]; exact Nat.not_lt_zero _)))
      clear CC0
      go_enter Try.func18, Try.ntmps18
      go_wp2
      go_loopg [3, 4, 5, 11] 0 (fun gg _ _ _ s11 wr => s11 = .int .i64 0 ∧ wr = w)
      case atStart => exact ⟨rfl, rfl⟩
      case round =>
        obtain ⟨rfl, rfl⟩ := hrel
        go_wp2
        go_ret
        exact ⟨ret_int R.out.symm, Gr.refl _⟩
    · have CC : Aside (∀ i x, l[i]? = some x → ∀ j u, (encU x)[j]? = some u → w.cell? ⟨b, off + i * 9 + j, none⟩ = some u) := hc
      have HB := Lib.hid hb
      clear CC0 hc
      go_enter Try.func18, Try.ntmps18
      go_wp2
      go_loopg [3, 4, 5, 11] n (fun gg _ _ _ s11 wr => ∃ kk : Nat, kk ≤ n ∧ n - kk ≤ gg ∧ s11 = .int .i64 (kk : Int) ∧ Aside (Gr w wr) ∧ Aside (∀ j, j < kk → Al.badE l j = 0))
      case atStart => exact ⟨0, Nat.zero_le _, by omega, rfl, Gr.refl _, fun j hj => absurd hj (Nat.not_lt_zero _)⟩
      case round =>
        obtain ⟨kk, hkk, hgg, rfl, G, AL⟩ := hrel
        by_cases hlt : kk < n
        · have hltz : (kk : Int) < (n : Int) := by omega
          have hpos : (0 : Int) < (n : Int) := by omega
          obtain ⟨x, hx⟩ : ∃ x, l[kk]? = some x := ⟨_, List.getElem?_eq_getElem (by rw [HN.out]; exact hlt)⟩
          obtain ⟨y, hy⟩ : ∃ y, l[0]? = some y := ⟨_, List.getElem?_eq_getElem (by rw [HN.out]; omega)⟩
          have l0 := (G.out.cell (p := ⟨b, off + kk * 9 + 0, none⟩) HB.out).trans (CC.out kk x hx 0 _ rfl)
          have l1 := (G.out.cell (p := ⟨b, off + kk * 9 + 1, none⟩) HB.out).trans (CC.out kk x hx 1 _ rfl)
          have l2 := (G.out.cell (p := ⟨b, off + kk * 9 + 2, none⟩) HB.out).trans (CC.out kk x hx 2 _ rfl)
          have l3 := (G.out.cell (p := ⟨b, off + kk * 9 + 3, none⟩) HB.out).trans (CC.out kk x hx 3 _ rfl)
          have l4 := (G.out.cell (p := ⟨b, off + kk * 9 + 4, none⟩) HB.out).trans (CC.out kk x hx 4 _ rfl)
          have l5 := (G.out.cell (p := ⟨b, off + kk * 9 + 5, none⟩) HB.out).trans (CC.out kk x hx 5 _ rfl)
          have l6 := (G.out.cell (p := ⟨b, off + kk * 9 + 6, none⟩) HB.out).trans (CC.out kk x hx 6 _ rfl)
          have l7 := (G.out.cell (p := ⟨b, off + kk * 9 + 7, none⟩) HB.out).trans (CC.out kk x hx 7 _ rfl)
          have l8 := (G.out.cell (p := ⟨b, off + kk * 9 + 8, none⟩) HB.out).trans (CC.out kk x hx 8 _ rfl)
          have y4 := (G.out.cell (p := ⟨b, off + 0 * 9 + 4, none⟩) HB.out).trans (CC.out 0 y hy 4 _ rfl)
          simp only [Nat.add_zero, Nat.zero_mul] at l0 y4
          have HX := Lib.hid (Al.at_eq hx)
          have HY := Lib.hid (Al.at_eq hy)
          have HBR : Aside (b < wr.heap.size) := Nat.lt_of_lt_of_le HB.out G.out.size
          have hbr : b < wr.heap.size := HBR.out
          clear hx hy
          go_wp2_with fail
          rcases w6_all y.c.p x.c with q | ⟨q1, q⟩ | ⟨q1, q2, q⟩ | ⟨q1, q2, q3, q⟩ | ⟨q1, q2, q3, q4, q⟩ | ⟨q1, q2, q3, q4, q5⟩
          · have R := Lib.hid (c_arg HL.out HN.out hlt AL.out HX.out HY.out (w6_no1 q))
            go_quiet (fail)
            go_wp2_with fail
            go_ret
            exact ⟨ret_int R.out.symm, by have hgg := G.out; repeat (first | (with_reducible exact Gr.refl _) | (with_reducible assumption) | (with_reducible refine Gr.alloc ?_ _) | (with_reducible refine Gr.drewN ?_ _) | (with_reducible refine Gr.drew ?_) | (with_reducible refine Gr.grown ?_ _ _) | (with_reducible refine Gr.regrown ?_ _ _) | (with_reducible refine Gr.setCell ?_ (by first | omega | (simp; omega) | simp) _) | (with_reducible refine Gr.trans ?_ (by with_reducible assumption)))⟩
          · have R := Lib.hid (c_arg HL.out HN.out hlt AL.out HX.out HY.out (w6_no2 q))
            go_quiet (fail)
            go_wp2_with fail
            go_ret
            exact ⟨ret_int R.out.symm, by have hgg := G.out; repeat (first | (with_reducible exact Gr.refl _) | (with_reducible assumption) | (with_reducible refine Gr.alloc ?_ _) | (with_reducible refine Gr.drewN ?_ _) | (with_reducible refine Gr.drew ?_) | (with_reducible refine Gr.grown ?_ _ _) | (with_reducible refine Gr.regrown ?_ _ _) | (with_reducible refine Gr.setCell ?_ (by first | omega | (simp; omega) | simp) _) | (with_reducible refine Gr.trans ?_ (by with_reducible assumption)))⟩
          · have R := Lib.hid (c_arg HL.out HN.out hlt AL.out HX.out HY.out (w6_no3 q))
            go_quiet (fail)
            go_wp2_with fail
            go_ret
            exact ⟨ret_int R.out.symm, by have hgg := G.out; repeat (first | (with_reducible exact Gr.refl _) | (with_reducible assumption) | (with_reducible refine Gr.alloc ?_ _) | (with_reducible refine Gr.drewN ?_ _) | (with_reducible refine Gr.drew ?_) | (with_reducible refine Gr.grown ?_ _ _) | (with_reducible refine Gr.regrown ?_ _ _) | (with_reducible refine Gr.setCell ?_ (by first | omega | (simp; omega) | simp) _) | (with_reducible refine Gr.trans ?_ (by with_reducible assumption)))⟩
          · have R := Lib.hid (c_arg HL.out HN.out hlt AL.out HX.out HY.out (w6_no4 q))
            go_quiet ((go_at_call 39; exact Calls.quiet_of_same (within_f _ _ _ q)))
            go_wp2_with fail
            go_ret
            exact ⟨ret_int R.out.symm, by have hgg := G.out; repeat (first | (with_reducible exact Gr.refl _) | (with_reducible assumption) | (with_reducible refine Gr.alloc ?_ _) | (with_reducible refine Gr.drewN ?_ _) | (with_reducible refine Gr.drew ?_) | (with_reducible refine Gr.grown ?_ _ _) | (with_reducible refine Gr.regrown ?_ _ _) | (with_reducible refine Gr.setCell ?_ (by first | omega | (simp; omega) | simp) _) | (with_reducible refine Gr.trans ?_ (by with_reducible assumption)))⟩
          · have R := Lib.hid (c_arg HL.out HN.out hlt AL.out HX.out HY.out (w6_no5 q))
            go_quiet ((go_at_call 39; exact Calls.quiet_of_same (within_t _ _ _ q4)))
            go_wp2_with fail
            go_ret
            exact ⟨ret_int R.out.symm, by have hgg := G.out; repeat (first | (with_reducible exact Gr.refl _) | (with_reducible assumption) | (with_reducible refine Gr.alloc ?_ _) | (with_reducible refine Gr.drewN ?_ _) | (with_reducible refine Gr.drew ?_) | (with_reducible refine Gr.grown ?_ _ _) | (with_reducible refine Gr.regrown ?_ _ _) | (with_reducible refine Gr.setCell ?_ (by first | omega | (simp; omega) | simp) _) | (with_reducible refine Gr.trans ?_ (by with_reducible assumption)))⟩
          · have OA := Lib.hid (w6_ok q1 q2 q3 q4 q5)
            go_quiet ((go_at_call 39; exact Calls.quiet_of_same (within_t _ _ _ q4)))
            go_wp2_with fail
            by_cases h0 : 0 ≤ x.c.s ∧ x.c.s ≤ 511
            · have b0 := bt h0
              by_cases h1 : 0 ≤ x.c.o ∧ x.c.o ≤ 15
              · have b1 := bt h1
                by_cases h2 : 0 ≤ x.pa ∧ x.pa ≤ 64
                · have b2 := bt h2
                  by_cases h3 : 0 ≤ x.us ∧ x.us ≤ x.pa
                  · have b3 := bt h3
                    by_cases h4 : 0 ≤ x.wo ∧ x.wo ≤ x.us
                    · have b4 := bt h4
                      have ON : Hid (Al.okN x) := (show Al.okN x from ⟨h0, h1, h2, h3, h4⟩)
                      clear h0 h1 h2 h3 h4
                      go_wp2_with (first | (go_at_call 39; refine (within_any _ _ _).mono ?_; rintro e w' ⟨rfl, rfl⟩))
                      rcases Nat.eq_zero_or_pos kk with e0 | e0
                      · subst e0
                        have HZ := Lib.hid (Al.bad_no (l := l) (j := 0) (by have e := HX.out.symm.trans HY.out; have o := OA.out; rw [← e] at o; rw [HX.out]; exact o) (by rw [HX.out]; exact ON.out) (fun h => absurd h.1 (Nat.lt_irrefl 0)))
                        go_quiet (fail)
                        go_wp2_with fail
                        go_roundg (n - (0 + 1))
                        case measure => omega
                        case rel => exact ⟨0 + 1, by omega, by omega, by go_num, by have hgg := G.out; show Gr _ _; repeat (first | (with_reducible exact Gr.refl _) | (with_reducible assumption) | (with_reducible refine Gr.alloc ?_ _) | (with_reducible refine Gr.drewN ?_ _) | (with_reducible refine Gr.drew ?_) | (with_reducible refine Gr.grown ?_ _ _) | (with_reducible refine Gr.regrown ?_ _ _) | (with_reducible refine Gr.setCell ?_ (by first | omega | (simp; omega) | simp) _) | (with_reducible refine Gr.trans ?_ (by with_reducible assumption))), (show ∀ j, j < 0 + 1 → Al.badE l j = 0 from fun j hj => by rw [show j = 0 by omega]; exact HZ.out)⟩
                      · obtain ⟨z, hz⟩ : ∃ z, l[kk - 1]? = some z := ⟨_, List.getElem?_eq_getElem (by rw [HN.out]; omega)⟩
                        have z0 := (G.out.cell (p := ⟨b, off + (kk - 1) * 9 + 0, none⟩) HB.out).trans (CC.out (kk - 1) z hz 0 _ rfl)
                        have HZZ := Lib.hid (Al.at_eq hz)
                        simp only [Nat.add_zero] at z0
                        clear hz
                        have ez : (0 : Int) < (kk : Int) := by omega
                        have es : IntKind.i64.wrap ((kk : Int) - 1) = ((kk - 1 : Nat) : Int) := by rw [IntWalk.i64_in _ (by omega)]; omega
                        have em : ((kk - 1 : Nat) : Int) < (n : Int) := by omega
                        by_cases hq : x.c.s ≤ z.c.s
                        · have R := Lib.hid (c_end (x := x) (y := y) HL.out HN.out hlt AL.out (Al.bad_ord (by rw [HX.out, HY.out]; exact OA.out) (by rw [HX.out]; exact ON.out) (by rw [HX.out, HZZ.out]; exact ⟨e0, hq⟩)) (by decide))
                          go_quiet (fail)
                          go_wp2_with fail
                          go_ret
                          exact ⟨ret_int R.out.symm, by have hgg := G.out; repeat (first | (with_reducible exact Gr.refl _) | (with_reducible assumption) | (with_reducible refine Gr.alloc ?_ _) | (with_reducible refine Gr.drewN ?_ _) | (with_reducible refine Gr.drew ?_) | (with_reducible refine Gr.grown ?_ _ _) | (with_reducible refine Gr.regrown ?_ _ _) | (with_reducible refine Gr.setCell ?_ (by first | omega | (simp; omega) | simp) _) | (with_reducible refine Gr.trans ?_ (by with_reducible assumption)))⟩
                        · have HZ := Lib.hid (Al.bad_no (l := l) (j := kk) (by rw [HX.out, HY.out]; exact OA.out) (by rw [HX.out]; exact ON.out) (fun h => by rw [HX.out, HZZ.out] at h; exact hq h.2))
                          go_quiet (fail)
                          go_wp2_with fail
                          go_roundg (n - (kk + 1))
                          case measure => omega
                          case rel => exact ⟨kk + 1, by omega, by omega, by go_num, by have hgg := G.out; show Gr _ _; repeat (first | (with_reducible exact Gr.refl _) | (with_reducible assumption) | (with_reducible refine Gr.alloc ?_ _) | (with_reducible refine Gr.drewN ?_ _) | (with_reducible refine Gr.drew ?_) | (with_reducible refine Gr.grown ?_ _ _) | (with_reducible refine Gr.regrown ?_ _ _) | (with_reducible refine Gr.setCell ?_ (by first | omega | (simp; omega) | simp) _) | (with_reducible refine Gr.trans ?_ (by with_reducible assumption))), (show ∀ j, j < kk + 1 → Al.badE l j = 0 from fun j hj => by
                            by_cases e : j = kk
                            · subst e; exact HZ.out
                            · exact AL.out j (by omega))⟩
                    · have b4 := bf h4
                      have R := Lib.hid (c_rng HL.out HN.out hlt AL.out HX.out HY.out OA.out (fun h => by unfold Al.okN at h; omega))
                      go_wp2_with (first | (go_at_call 39; refine (within_any _ _ _).mono ?_; rintro e w' ⟨rfl, rfl⟩))
                      go_ret
                      exact ⟨ret_int R.out.symm, by have hgg := G.out; repeat (first | (with_reducible exact Gr.refl _) | (with_reducible assumption) | (with_reducible refine Gr.alloc ?_ _) | (with_reducible refine Gr.drewN ?_ _) | (with_reducible refine Gr.drew ?_) | (with_reducible refine Gr.grown ?_ _ _) | (with_reducible refine Gr.regrown ?_ _ _) | (with_reducible refine Gr.setCell ?_ (by first | omega | (simp; omega) | simp) _) | (with_reducible refine Gr.trans ?_ (by with_reducible assumption)))⟩
                  · have b3 := bf h3
                    have R := Lib.hid (c_rng HL.out HN.out hlt AL.out HX.out HY.out OA.out (fun h => by unfold Al.okN at h; omega))
                    go_wp2_with (first | (go_at_call 39; refine (within_any _ _ _).mono ?_; rintro e w' ⟨rfl, rfl⟩))
                    go_ret
                    exact ⟨ret_int R.out.symm, by have hgg := G.out; repeat (first | (with_reducible exact Gr.refl _) | (with_reducible assumption) | (with_reducible refine Gr.alloc ?_ _) | (with_reducible refine Gr.drewN ?_ _) | (with_reducible refine Gr.drew ?_) | (with_reducible refine Gr.grown ?_ _ _) | (with_reducible refine Gr.regrown ?_ _ _) | (with_reducible refine Gr.setCell ?_ (by first | omega | (simp; omega) | simp) _) | (with_reducible refine Gr.trans ?_ (by with_reducible assumption)))⟩
                · have b2 := bf h2
                  have R := Lib.hid (c_rng HL.out HN.out hlt AL.out HX.out HY.out OA.out (fun h => by unfold Al.okN at h; omega))
                  go_wp2_with (first | (go_at_call 39; refine (within_any _ _ _).mono ?_; rintro e w' ⟨rfl, rfl⟩))
                  go_ret
                  exact ⟨ret_int R.out.symm, by have hgg := G.out; repeat (first | (with_reducible exact Gr.refl _) | (with_reducible assumption) | (with_reducible refine Gr.alloc ?_ _) | (with_reducible refine Gr.drewN ?_ _) | (with_reducible refine Gr.drew ?_) | (with_reducible refine Gr.grown ?_ _ _) | (with_reducible refine Gr.regrown ?_ _ _) | (with_reducible refine Gr.setCell ?_ (by first | omega | (simp; omega) | simp) _) | (with_reducible refine Gr.trans ?_ (by with_reducible assumption)))⟩
              · have b1 := bf h1
                have R := Lib.hid (c_rng HL.out HN.out hlt AL.out HX.out HY.out OA.out (fun h => by unfold Al.okN at h; omega))
                go_wp2_with (first | (go_at_call 39; refine (within_any _ _ _).mono ?_; rintro e w' ⟨rfl, rfl⟩))
                go_ret
                exact ⟨ret_int R.out.symm, by have hgg := G.out; repeat (first | (with_reducible exact Gr.refl _) | (with_reducible assumption) | (with_reducible refine Gr.alloc ?_ _) | (with_reducible refine Gr.drewN ?_ _) | (with_reducible refine Gr.drew ?_) | (with_reducible refine Gr.grown ?_ _ _) | (with_reducible refine Gr.regrown ?_ _ _) | (with_reducible refine Gr.setCell ?_ (by first | omega | (simp; omega) | simp) _) | (with_reducible refine Gr.trans ?_ (by with_reducible assumption)))⟩
            · have b0 := bf h0
              have R := Lib.hid (c_rng HL.out HN.out hlt AL.out HX.out HY.out OA.out (fun h => by unfold Al.okN at h; omega))
              go_wp2_with (first | (go_at_call 39; refine (within_any _ _ _).mono ?_; rintro e w' ⟨rfl, rfl⟩))
              go_ret
              exact ⟨ret_int R.out.symm, by have hgg := G.out; repeat (first | (with_reducible exact Gr.refl _) | (with_reducible assumption) | (with_reducible refine Gr.alloc ?_ _) | (with_reducible refine Gr.drewN ?_ _) | (with_reducible refine Gr.drew ?_) | (with_reducible refine Gr.grown ?_ _ _) | (with_reducible refine Gr.regrown ?_ _ _) | (with_reducible refine Gr.setCell ?_ (by first | omega | (simp; omega) | simp) _) | (with_reducible refine Gr.trans ?_ (by with_reducible assumption)))⟩
        · have hltz : ¬ (kk : Int) < (n : Int) := by omega
          have R := Lib.hid (Al.chk_miss (l := l) HL.out (fun j hj => AL.out j (by rw [HN.out] at hj; omega)))
          go_wp2
          go_ret
          exact ⟨ret_int R.out.symm, G.out⟩
  · obtain ⟨A, c, rfl⟩ := h.slice
    have R := Lib.hid (Al.chk_big hl)
    have hz : (64 : Int) < (l.length : Int) := by omega
    clear h hl
    go_enter Try.func18, Try.ntmps18
    go_wp2
    go_ret
    exact ⟨ret_int R.out.symm, by repeat (first | (with_reducible exact Gr.refl _) | (with_reducible assumption) | (with_reducible refine Gr.alloc ?_ _) | (with_reducible refine Gr.drewN ?_ _) | (with_reducible refine Gr.drew ?_) | (with_reducible refine Gr.grown ?_ _ _) | (with_reducible refine Gr.regrown ?_ _ _) | (with_reducible refine Gr.setCell ?_ (by first | omega | (simp; omega) | simp) _) | (with_reducible refine Gr.trans ?_ (by with_reducible assumption)))⟩
end Go.Proofs.Ytkhanjhjcfhhiaa
