/- The contract of the reference's Check. -/
import Derived.Test.YtkhanjhjcfhhiaaAlcA
namespace Go.Proofs.Ytkhanjhjcfhhiaa
open Go.RowKit Go.Sort
set_option linter.unusedVariables false

set_option maxHeartbeats 8000000 in
set_option maxRecDepth 100000 in
theorem rcheck_any (v : Value) (l : List Us) (w : World) (h : Rows 9 encU w v l) (hbig : (l.length : Int) ≤ 4611686018427387904) :
    Calls Try.prog 32 #[v] w fun e w' => e = .returned (.int .i64 (Al.chk l)) ∧ Gr w w' := by
  by_cases hl : l.length ≤ 64
  · obtain ⟨A, c, rfl⟩ := h.slice
    have CC0 : Aside (l.length = 0 ∨ ∃ b off, A = some ⟨b, off, none⟩ ∧ b < w.heap.size ∧ ∀ i x, l[i]? = some x → ∀ j u, (encU x)[j]? = some u → w.cell? ⟨b, off + i * 9 + j, none⟩ = some u) := by
      rcases h with ⟨rfl, _⟩ | ⟨b, off, c', hb, hv, hc⟩
      · exact .inl rfl
      · simp only [Value.slice.injEq] at hv
        exact .inr ⟨b, off, hv.1, hb, hc⟩
    have HL := Lib.hid hl
    obtain ⟨n, hn⟩ : ∃ n, l.length = n := ⟨_, rfl⟩
    have HN := Lib.hid hn
    rw [hn] at hbig hl ⊢
    have hz : ¬ (64 : Int) < (n : Int) := by omega
    clear h hn
    rcases CC0.out with h0 | ⟨b, off, rfl, hb, hc⟩
    · rw [HN.out] at h0
      subst h0
      have R := Lib.hid (Al.chk_miss (l := l) HL.out (fun j hj => absurd hj (by rw [HN.out]; exact Nat.not_lt_zero _)))
      clear CC0
      go_enter Try.func32, Try.ntmps32
      go_wp2
      go_loopg [3, 4] 0 (fun gg s3 _ wr => s3 = .int .i64 0 ∧ wr = w)
      case atStart => exact ⟨rfl, rfl⟩
      case round =>
        obtain ⟨rfl, rfl⟩ := hrel
        go_wp2
        go_ret
        exact ⟨ret_int R.out.symm, Gr.refl _⟩
    · have CC : Aside (∀ i x, l[i]? = some x → ∀ j u, (encU x)[j]? = some u → w.cell? ⟨b, off + i * 9 + j, none⟩ = some u) := hc
      have HB := Lib.hid hb
      clear CC0 hc
      go_enter Try.func32, Try.ntmps32
      go_wp2
      go_loopg [3, 4] n (fun gg s3 _ wr => ∃ kk : Nat, kk ≤ n ∧ n - kk ≤ gg ∧ s3 = .int .i64 (kk : Int) ∧ Aside (Gr w wr) ∧ Aside (∀ j, j < kk → Al.badE l j = 0))
      case atStart => exact ⟨0, Nat.zero_le _, by omega, rfl, Gr.refl _, fun j hj => absurd hj (Nat.not_lt_zero _)⟩
      case round =>
        obtain ⟨kk, hkk, hgg, rfl, G, AL⟩ := hrel
        by_cases hlt : kk < n
        · have hltz : (kk : Int) < (n : Int) := by omega
          have hpos : (0 : Int) < (n : Int) := by omega
          obtain ⟨x, hx⟩ : ∃ x, l[kk]? = some x := ⟨_, List.getElem?_eq_getElem (by rw [HN.out]; exact hlt)⟩
          obtain ⟨y, hy⟩ : ∃ y, l[0]? = some y := ⟨_, List.getElem?_eq_getElem (by rw [HN.out]; omega)⟩
          have l0 := (G.out.cell (p := ⟨b, off + kk * 9 + 0, none⟩) HB.out).trans (CC.out kk x hx 0 _ rfl)
          have l1 := (G.out.cell (p := ⟨b, off + kk * 9 + 1, none⟩) HB.out).trans (CC.out kk x hx 1 _ rfl)
          have l2 := (G.out.cell (p := ⟨b, off + kk * 9 + 2, none⟩) HB.out).trans (CC.out kk x hx 2 _ rfl)
          have l3 := (G.out.cell (p := ⟨b, off + kk * 9 + 3, none⟩) HB.out).trans (CC.out kk x hx 3 _ rfl)
          have l4 := (G.out.cell (p := ⟨b, off + kk * 9 + 4, none⟩) HB.out).trans (CC.out kk x hx 4 _ rfl)
          have l5 := (G.out.cell (p := ⟨b, off + kk * 9 + 5, none⟩) HB.out).trans (CC.out kk x hx 5 _ rfl)
          have l6 := (G.out.cell (p := ⟨b, off + kk * 9 + 6, none⟩) HB.out).trans (CC.out kk x hx 6 _ rfl)
          have l7 := (G.out.cell (p := ⟨b, off + kk * 9 + 7, none⟩) HB.out).trans (CC.out kk x hx 7 _ rfl)
          have l8 := (G.out.cell (p := ⟨b, off + kk * 9 + 8, none⟩) HB.out).trans (CC.out kk x hx 8 _ rfl)
          have y4 := (G.out.cell (p := ⟨b, off + 0 * 9 + 4, none⟩) HB.out).trans (CC.out 0 y hy 4 _ rfl)
          simp only [Nat.add_zero, Nat.zero_mul] at l0 y4
          have HX := Lib.hid (Al.at_eq hx)
          have HY := Lib.hid (Al.at_eq hy)
          have HBR : Aside (b < wr.heap.size) := Nat.lt_of_lt_of_le HB.out G.out.size
          have hbr : b < wr.heap.size := HBR.out
          clear hx hy
          go_wp2_with fail
          rcases w6_all y.c.p x.c with q | ⟨q1, q⟩ | ⟨q1, q2, q⟩ | ⟨q1, q2, q3, q⟩ | ⟨q1, q2, q3, q4, q⟩ | ⟨q1, q2, q3, q4, q5⟩
          · skip
            have R := Lib.hid (c_arg HL.out HN.out hlt AL.out HX.out HY.out (w6_no1 q))
            go_quiet (fail)
            go_wp2_with fail
            go_ret
            exact ⟨ret_int R.out.symm, by have hgg := G.out; repeat (first | (with_reducible exact Gr.refl _) | (with_reducible assumption) | (with_reducible refine Gr.alloc ?_ _) | (with_reducible refine Gr.drewN ?_ _) | (with_reducible refine Gr.drew ?_) | (with_reducible refine Gr.grown ?_ _ _) | (with_reducible refine Gr.regrown ?_ _ _) | (with_reducible refine Gr.setCell ?_ (by first | omega | (simp; omega) | simp) _) | (with_reducible refine Gr.trans ?_ (by with_reducible assumption)))⟩
          · skip
            have R := Lib.hid (c_arg HL.out HN.out hlt AL.out HX.out HY.out (w6_no2 q))
            go_quiet (fail)
            go_wp2_with fail
            go_ret
            exact ⟨ret_int R.out.symm, by have hgg := G.out; repeat (first | (with_reducible exact Gr.refl _) | (with_reducible assumption) | (with_reducible refine Gr.alloc ?_ _) | (with_reducible refine Gr.drewN ?_ _) | (with_reducible refine Gr.drew ?_) | (with_reducible refine Gr.grown ?_ _ _) | (with_reducible refine Gr.regrown ?_ _ _) | (with_reducible refine Gr.setCell ?_ (by first | omega | (simp; omega) | simp) _) | (with_reducible refine Gr.trans ?_ (by with_reducible assumption)))⟩
          · skip
            have R := Lib.hid (c_arg HL.out HN.out hlt AL.out HX.out HY.out (w6_no3 q))
            go_quiet (fail)
            go_wp2_with fail
            go_ret
            exact ⟨ret_int R.out.symm, by have hgg := G.out; repeat (first | (with_reducible exact Gr.refl _) | (with_reducible assumption) | (with_reducible refine Gr.alloc ?_ _) | (with_reducible refine Gr.drewN ?_ _) | (with_reducible refine Gr.drew ?_) | (with_reducible refine Gr.grown ?_ _ _) | (with_reducible refine Gr.regrown ?_ _ _) | (with_reducible refine Gr.setCell ?_ (by first | omega | (simp; omega) | simp) _) | (with_reducible refine Gr.trans ?_ (by with_reducible assumption)))⟩
          · have R := Lib.hid (c_arg HL.out HN.out hlt AL.out HX.out HY.out (w6_no4 q))
            by_cases p0 : x.c.p < 0
            · have p1 := bt p0
              skip
              go_quiet (fail)
              go_wp2_with fail
              go_ret
              exact ⟨ret_int R.out.symm, by have hgg := G.out; repeat (first | (with_reducible exact Gr.refl _) | (with_reducible assumption) | (with_reducible refine Gr.alloc ?_ _) | (with_reducible refine Gr.drewN ?_ _) | (with_reducible refine Gr.drew ?_) | (with_reducible refine Gr.grown ?_ _ _) | (with_reducible refine Gr.regrown ?_ _ _) | (with_reducible refine Gr.setCell ?_ (by first | omega | (simp; omega) | simp) _) | (with_reducible refine Gr.trans ?_ (by with_reducible assumption)))⟩
            · have p1 := bf p0
              have p2 : decide (32 ≤ x.c.p) = true := bt (by omega)
              skip
              go_quiet (fail)
              go_wp2_with fail
              go_ret
              exact ⟨ret_int R.out.symm, by have hgg := G.out; repeat (first | (with_reducible exact Gr.refl _) | (with_reducible assumption) | (with_reducible refine Gr.alloc ?_ _) | (with_reducible refine Gr.drewN ?_ _) | (with_reducible refine Gr.drew ?_) | (with_reducible refine Gr.grown ?_ _ _) | (with_reducible refine Gr.regrown ?_ _ _) | (with_reducible refine Gr.setCell ?_ (by first | omega | (simp; omega) | simp) _) | (with_reducible refine Gr.trans ?_ (by with_reducible assumption)))⟩
          · have p1 : decide (x.c.p < 0) = false := bf (by omega)
            have p2 : decide (32 ≤ x.c.p) = false := bf (by omega)
            have R := Lib.hid (c_arg HL.out HN.out hlt AL.out HX.out HY.out (w6_no5 q))
            go_quiet (fail)
            go_wp2_with fail
            go_ret
            exact ⟨ret_int R.out.symm, by have hgg := G.out; repeat (first | (with_reducible exact Gr.refl _) | (with_reducible assumption) | (with_reducible refine Gr.alloc ?_ _) | (with_reducible refine Gr.drewN ?_ _) | (with_reducible refine Gr.drew ?_) | (with_reducible refine Gr.grown ?_ _ _) | (with_reducible refine Gr.regrown ?_ _ _) | (with_reducible refine Gr.setCell ?_ (by first | omega | (simp; omega) | simp) _) | (with_reducible refine Gr.trans ?_ (by with_reducible assumption)))⟩
          · have OA := Lib.hid (w6_ok q1 q2 q3 q4 q5)
            have p1 : decide (x.c.p < 0) = false := bf (by omega)
            have p2 : decide (32 ≤ x.c.p) = false := bf (by omega)
            go_quiet (fail)
            go_wp2_with fail
            by_cases h0 : x.c.s < 0
            · have b0 := bt h0
              have R := Lib.hid (c_rng HL.out HN.out hlt AL.out HX.out HY.out OA.out (fun h => by unfold Al.okN at h; omega))
              go_quiet (fail)
              go_wp2_with fail
              go_ret
              exact ⟨ret_int R.out.symm, by have hgg := G.out; repeat (first | (with_reducible exact Gr.refl _) | (with_reducible assumption) | (with_reducible refine Gr.alloc ?_ _) | (with_reducible refine Gr.drewN ?_ _) | (with_reducible refine Gr.drew ?_) | (with_reducible refine Gr.grown ?_ _ _) | (with_reducible refine Gr.regrown ?_ _ _) | (with_reducible refine Gr.setCell ?_ (by first | omega | (simp; omega) | simp) _) | (with_reducible refine Gr.trans ?_ (by with_reducible assumption)))⟩
            · have b0 := bf h0
              by_cases h1 : 512 ≤ x.c.s
              · have b1 := bt h1
                have R := Lib.hid (c_rng HL.out HN.out hlt AL.out HX.out HY.out OA.out (fun h => by unfold Al.okN at h; omega))
                go_quiet (fail)
                go_wp2_with fail
                go_ret
                exact ⟨ret_int R.out.symm, by have hgg := G.out; repeat (first | (with_reducible exact Gr.refl _) | (with_reducible assumption) | (with_reducible refine Gr.alloc ?_ _) | (with_reducible refine Gr.drewN ?_ _) | (with_reducible refine Gr.drew ?_) | (with_reducible refine Gr.grown ?_ _ _) | (with_reducible refine Gr.regrown ?_ _ _) | (with_reducible refine Gr.setCell ?_ (by first | omega | (simp; omega) | simp) _) | (with_reducible refine Gr.trans ?_ (by with_reducible assumption)))⟩
              · have b1 := bf h1
                by_cases h2 : x.c.o < 0
                · have b2 := bt h2
                  have R := Lib.hid (c_rng HL.out HN.out hlt AL.out HX.out HY.out OA.out (fun h => by unfold Al.okN at h; omega))
                  go_quiet (fail)
                  go_wp2_with fail
                  go_ret
                  exact ⟨ret_int R.out.symm, by have hgg := G.out; repeat (first | (with_reducible exact Gr.refl _) | (with_reducible assumption) | (with_reducible refine Gr.alloc ?_ _) | (with_reducible refine Gr.drewN ?_ _) | (with_reducible refine Gr.drew ?_) | (with_reducible refine Gr.grown ?_ _ _) | (with_reducible refine Gr.regrown ?_ _ _) | (with_reducible refine Gr.setCell ?_ (by first | omega | (simp; omega) | simp) _) | (with_reducible refine Gr.trans ?_ (by with_reducible assumption)))⟩
                · have b2 := bf h2
                  by_cases h3 : 16 ≤ x.c.o
                  · have b3 := bt h3
                    have R := Lib.hid (c_rng HL.out HN.out hlt AL.out HX.out HY.out OA.out (fun h => by unfold Al.okN at h; omega))
                    go_quiet (fail)
                    go_wp2_with fail
                    go_ret
                    exact ⟨ret_int R.out.symm, by have hgg := G.out; repeat (first | (with_reducible exact Gr.refl _) | (with_reducible assumption) | (with_reducible refine Gr.alloc ?_ _) | (with_reducible refine Gr.drewN ?_ _) | (with_reducible refine Gr.drew ?_) | (with_reducible refine Gr.grown ?_ _ _) | (with_reducible refine Gr.regrown ?_ _ _) | (with_reducible refine Gr.setCell ?_ (by first | omega | (simp; omega) | simp) _) | (with_reducible refine Gr.trans ?_ (by with_reducible assumption)))⟩
                  · have b3 := bf h3
                    by_cases h4 : x.wo < 0
                    · have b4 := bt h4
                      have R := Lib.hid (c_rng HL.out HN.out hlt AL.out HX.out HY.out OA.out (fun h => by unfold Al.okN at h; omega))
                      go_quiet (fail)
                      go_wp2_with fail
                      go_ret
                      exact ⟨ret_int R.out.symm, by have hgg := G.out; repeat (first | (with_reducible exact Gr.refl _) | (with_reducible assumption) | (with_reducible refine Gr.alloc ?_ _) | (with_reducible refine Gr.drewN ?_ _) | (with_reducible refine Gr.drew ?_) | (with_reducible refine Gr.grown ?_ _ _) | (with_reducible refine Gr.regrown ?_ _ _) | (with_reducible refine Gr.setCell ?_ (by first | omega | (simp; omega) | simp) _) | (with_reducible refine Gr.trans ?_ (by with_reducible assumption)))⟩
                    · have b4 := bf h4
                      by_cases h5 : x.us < x.wo
                      · have b5 := bt h5
                        have R := Lib.hid (c_rng HL.out HN.out hlt AL.out HX.out HY.out OA.out (fun h => by unfold Al.okN at h; omega))
                        go_quiet (fail)
                        go_wp2_with fail
                        go_ret
                        exact ⟨ret_int R.out.symm, by have hgg := G.out; repeat (first | (with_reducible exact Gr.refl _) | (with_reducible assumption) | (with_reducible refine Gr.alloc ?_ _) | (with_reducible refine Gr.drewN ?_ _) | (with_reducible refine Gr.drew ?_) | (with_reducible refine Gr.grown ?_ _ _) | (with_reducible refine Gr.regrown ?_ _ _) | (with_reducible refine Gr.setCell ?_ (by first | omega | (simp; omega) | simp) _) | (with_reducible refine Gr.trans ?_ (by with_reducible assumption)))⟩
                      · have b5 := bf h5
                        by_cases h6 : x.pa < x.us
                        · have b6 := bt h6
                          have R := Lib.hid (c_rng HL.out HN.out hlt AL.out HX.out HY.out OA.out (fun h => by unfold Al.okN at h; omega))
                          go_quiet (fail)
                          go_wp2_with fail
                          go_ret
                          exact ⟨ret_int R.out.symm, by have hgg := G.out; repeat (first | (with_reducible exact Gr.refl _) | (with_reducible assumption) | (with_reducible refine Gr.alloc ?_ _) | (with_reducible refine Gr.drewN ?_ _) | (with_reducible refine Gr.drew ?_) | (with_reducible refine Gr.grown ?_ _ _) | (with_reducible refine Gr.regrown ?_ _ _) | (with_reducible refine Gr.setCell ?_ (by first | omega | (simp; omega) | simp) _) | (with_reducible refine Gr.trans ?_ (by with_reducible assumption)))⟩
                        · have b6 := bf h6
                          by_cases h7 : 64 < x.pa
                          · have b7 := bt h7
                            have R := Lib.hid (c_rng HL.out HN.out hlt AL.out HX.out HY.out OA.out (fun h => by unfold Al.okN at h; omega))
                            go_quiet (fail)
                            go_wp2_with fail
                            go_ret
                            exact ⟨ret_int R.out.symm, by have hgg := G.out; repeat (first | (with_reducible exact Gr.refl _) | (with_reducible assumption) | (with_reducible refine Gr.alloc ?_ _) | (with_reducible refine Gr.drewN ?_ _) | (with_reducible refine Gr.drew ?_) | (with_reducible refine Gr.grown ?_ _ _) | (with_reducible refine Gr.regrown ?_ _ _) | (with_reducible refine Gr.setCell ?_ (by first | omega | (simp; omega) | simp) _) | (with_reducible refine Gr.trans ?_ (by with_reducible assumption)))⟩
                          · have b7 := bf h7
                            have ON : Hid (Al.okN x) := (show Al.okN x by unfold Al.okN; omega)
                            clear h0 h1 h2 h3 h4 h5 h6 h7
                            go_quiet (fail)
                            go_wp2_with fail
                            rcases Nat.eq_zero_or_pos kk with e0 | e0
                            · subst e0
                              have HZ := Lib.hid (Al.bad_no (l := l) (j := 0) (by have e := HX.out.symm.trans HY.out; have o := OA.out; rw [← e] at o; rw [HX.out]; exact o) (by rw [HX.out]; exact ON.out) (fun h => absurd h.1 (Nat.lt_irrefl 0)))
                              go_quiet (fail)
                              go_wp2_with fail
                              go_roundg (n - (0 + 1))
                              case measure => omega
                              case rel => exact ⟨0 + 1, by omega, by omega, by go_num, by have hgg := G.out; show Gr _ _; repeat (first | (with_reducible exact Gr.refl _) | (with_reducible assumption) | (with_reducible refine Gr.alloc ?_ _) | (with_reducible refine Gr.drewN ?_ _) | (with_reducible refine Gr.drew ?_) | (with_reducible refine Gr.grown ?_ _ _) | (with_reducible refine Gr.regrown ?_ _ _) | (with_reducible refine Gr.setCell ?_ (by first | omega | (simp; omega) | simp) _) | (with_reducible refine Gr.trans ?_ (by with_reducible assumption))), (show ∀ j, j < 0 + 1 → Al.badE l j = 0 from fun j hj => by rw [show j = 0 by omega]; exact HZ.out)⟩
                            · obtain ⟨z, hz⟩ : ∃ z, l[kk - 1]? = some z := ⟨_, List.getElem?_eq_getElem (by rw [HN.out]; omega)⟩
                              have z0 := (G.out.cell (p := ⟨b, off + (kk - 1) * 9 + 0, none⟩) HB.out).trans (CC.out (kk - 1) z hz 0 _ rfl)
                              have HZZ := Lib.hid (Al.at_eq hz)
                              simp only [Nat.add_zero] at z0
                              clear hz
                              have ez : (0 : Int) < (kk : Int) := by omega
                              have es : IntKind.i64.wrap ((kk : Int) - 1) = ((kk - 1 : Nat) : Int) := by rw [IntWalk.i64_in _ (by omega)]; omega
                              have em : ((kk - 1 : Nat) : Int) < (n : Int) := by omega
                              by_cases hq : x.c.s ≤ z.c.s
                              · have R := Lib.hid (c_end (x := x) (y := y) HL.out HN.out hlt AL.out (Al.bad_ord (by rw [HX.out, HY.out]; exact OA.out) (by rw [HX.out]; exact ON.out) (by rw [HX.out, HZZ.out]; exact ⟨e0, hq⟩)) (by decide))
                                go_quiet (fail)
                                go_wp2_with fail
                                go_ret
                                exact ⟨ret_int R.out.symm, by have hgg := G.out; repeat (first | (with_reducible exact Gr.refl _) | (with_reducible assumption) | (with_reducible refine Gr.alloc ?_ _) | (with_reducible refine Gr.drewN ?_ _) | (with_reducible refine Gr.drew ?_) | (with_reducible refine Gr.grown ?_ _ _) | (with_reducible refine Gr.regrown ?_ _ _) | (with_reducible refine Gr.setCell ?_ (by first | omega | (simp; omega) | simp) _) | (with_reducible refine Gr.trans ?_ (by with_reducible assumption)))⟩
                              · have HZ := Lib.hid (Al.bad_no (l := l) (j := kk) (by rw [HX.out, HY.out]; exact OA.out) (by rw [HX.out]; exact ON.out) (fun h => by rw [HX.out, HZZ.out] at h; exact hq h.2))
                                go_quiet (fail)
                                go_wp2_with fail
                                go_roundg (n - (kk + 1))
                                case measure => omega
                                case rel => exact ⟨kk + 1, by omega, by omega, by go_num, by have hgg := G.out; show Gr _ _; repeat (first | (with_reducible exact Gr.refl _) | (with_reducible assumption) | (with_reducible refine Gr.alloc ?_ _) | (with_reducible refine Gr.drewN ?_ _) | (with_reducible refine Gr.drew ?_) | (with_reducible refine Gr.grown ?_ _ _) | (with_reducible refine Gr.regrown ?_ _ _) | (with_reducible refine Gr.setCell ?_ (by first | omega | (simp; omega) | simp) _) | (with_reducible refine Gr.trans ?_ (by with_reducible assumption))), (show ∀ j, j < kk + 1 → Al.badE l j = 0 from fun j hj => by
                                  by_cases e : j = kk
                                  · subst e; exact HZ.out
                                  · exact AL.out j (by omega))⟩
        · have hltz : ¬ (kk : Int) < (n : Int) := by omega
          have R := Lib.hid (Al.chk_miss (l := l) HL.out (fun j hj => AL.out j (by rw [HN.out] at hj; omega)))
          go_wp2
          go_ret
          exact ⟨ret_int R.out.symm, G.out⟩
  · obtain ⟨A, c, rfl⟩ := h.slice
    have R := Lib.hid (Al.chk_big hl)
    have hz : (64 : Int) < (l.length : Int) := by omega
    clear h hl
    go_enter Try.func32, Try.ntmps32
    go_wp2
    go_ret
    exact ⟨ret_int R.out.symm, by repeat (first | (with_reducible exact Gr.refl _) | (with_reducible assumption) | (with_reducible refine Gr.alloc ?_ _) | (with_reducible refine Gr.drewN ?_ _) | (with_reducible refine Gr.drew ?_) | (with_reducible refine Gr.grown ?_ _ _) | (with_reducible refine Gr.regrown ?_ _ _) | (with_reducible refine Gr.setCell ?_ (by first | omega | (simp; omega) | simp) _) | (with_reducible refine Gr.trans ?_ (by with_reducible assumption)))⟩
end Go.Proofs.Ytkhanjhjcfhhiaa
