/- The contracts of allocate's limits, Decide, Settle. -/
import Derived.Test.YtkhanjhjcfhhiaaAlcC
import Derived.Test.YtkhanjhjcfhhiaaAlcD
namespace Go.Proofs.Ytkhanjhjcfhhiaa
open Go.RowKit Go.Sort
set_option linter.unusedVariables false

set_option maxHeartbeats 400000 in
theorem limits_any (lo hi : Int) (w : World) :
    Calls Try.prog 40 #[.int .i64 lo, .int .i64 hi] w fun e w' => e = .returned (.bool (decide (Al.okL lo hi))) ∧ w' = w := by
  by_cases h : 0 ≤ lo ∧ lo ≤ hi
  · have h' := bt h
    have D : Hid (decide (Al.okL lo hi) = decide (hi ≤ 64)) := (show _ = _ by unfold Al.okL; simp only [h.1, h.2, and_self, true_and])
    clear h
    go_enter Try.func40, Try.ntmps40
    go_wp2_with (first | (go_at_call 39; refine (within_any _ _ _).mono ?_; rintro e w' ⟨rfl, rfl⟩))
    go_ret
    exact ⟨ret_bool D.out.symm, rfl⟩
  · have h' := bf h
    have D : Hid (decide (Al.okL lo hi) = false) := (show _ = _ from bf (fun k => h k.1))
    clear h
    go_enter Try.func40, Try.ntmps40
    go_wp2_with (first | (go_at_call 39; refine (within_any _ _ _).mono ?_; rintro e w' ⟨rfl, rfl⟩))
    go_ret
    exact ⟨ret_bool D.out.symm, rfl⟩

theorem fx_bd {l : List Us} {bk lo hi : Int} (hc : Al.chk l = 0) (h1 : 0 ≤ bk ∧ bk ≤ 1048576) (h2 : Al.okL lo hi) : FxB (Al.fx l bk lo hi) := by
  have hl := (Al.chk_inv hc).1
  have b := Al.s_bd (l := l) (fun j x hx => Al.chk_num hc hx) l.length
  rw [List.take_length] at b
  unfold Al.okL at h2
  have e1 : Al.ldU l = Al.sU l := if_pos hc
  have e2 : Al.ldP l = Al.sP l := if_pos hc
  constructor <;> simp only [Al.fx] <;> omega

set_option maxHeartbeats 2000000 in
theorem decide_err (v : Value) (l : List Us) (bk lo hi : Int) (w : World) (h : Rows 9 encU w v l) (hbig : (l.length : Int) ≤ 4611686018427387904) (he : ¬ Al.decE l bk lo hi = 0) :
    Calls Try.prog 14 #[v, .int .i64 bk, .int .i64 lo, .int .i64 hi] w fun e w' => e = .returned (.tuple #[.int .i64 (Al.decK l bk lo hi), .int .i64 (Al.decC l bk lo hi), .int .i64 (Al.decE l bk lo hi)]) ∧ Gr w w' := by
  have C1 := check_any v l w h hbig
  have K : Hid (Al.decK l bk lo hi = 0 ∧ Al.decC l bk lo hi = 0) := (show _ ∧ _ from ⟨if_neg he, if_neg he⟩)
  rcases Al.chk_cases l with hc | hc
  · have E : Hid (Al.decE l bk lo hi = 2) := by
      show _ = _
      unfold Al.decE at he ⊢
      rw [if_pos hc] at he ⊢
      split
      · rename_i hq; rw [if_pos hq] at he; exact absurd rfl he
      · rfl
    have E2 : ¬ ((0 ≤ bk ∧ bk ≤ 1048576) ∧ Al.okL lo hi) := fun hq => he (by unfold Al.decE; rw [if_pos hc, if_pos hq])
    rw [hc] at C1
    clear h hbig hc he
    by_cases hb : 0 ≤ bk ∧ bk ≤ 1048576
    · have b1 := bt hb
      have b2 := bf (fun hq => E2 ⟨hb, hq⟩)
      clear E2 hb
      go_enter Try.func14, Try.ntmps14
      go_wp2_with fail
      refine C1.mono ?_
      rintro e w1 ⟨rfl, g1⟩
      clear C1
      go_wp2_with (first | (go_at_call 39; refine (within_any _ _ _).mono ?_; rintro e w' ⟨rfl, rfl⟩) | (go_at_call 40; refine (limits_any _ _ _).mono ?_; rintro e w' ⟨rfl, rfl⟩))
      go_ret3
      exact ⟨ret_int3 K.out.1.symm K.out.2.symm E.out.symm, by repeat (first | (with_reducible exact Gr.refl _) | (with_reducible assumption) | (with_reducible refine Gr.alloc ?_ _) | (with_reducible refine Gr.drewN ?_ _) | (with_reducible refine Gr.drew ?_) | (with_reducible refine Gr.grown ?_ _ _) | (with_reducible refine Gr.regrown ?_ _ _) | (with_reducible refine Gr.setCell ?_ (by first | omega | (simp; omega) | simp) _) | (with_reducible refine Gr.trans ?_ (by with_reducible assumption)))⟩
    · have b1 := bf hb
      clear E2 hb
      go_enter Try.func14, Try.ntmps14
      go_wp2_with fail
      refine C1.mono ?_
      rintro e w1 ⟨rfl, g1⟩
      clear C1
      go_wp2_with (first | (go_at_call 39; refine (within_any _ _ _).mono ?_; rintro e w' ⟨rfl, rfl⟩) | (go_at_call 40; refine (limits_any _ _ _).mono ?_; rintro e w' ⟨rfl, rfl⟩))
      go_ret3
      exact ⟨ret_int3 K.out.1.symm K.out.2.symm E.out.symm, by repeat (first | (with_reducible exact Gr.refl _) | (with_reducible assumption) | (with_reducible refine Gr.alloc ?_ _) | (with_reducible refine Gr.drewN ?_ _) | (with_reducible refine Gr.drew ?_) | (with_reducible refine Gr.grown ?_ _ _) | (with_reducible refine Gr.regrown ?_ _ _) | (with_reducible refine Gr.setCell ?_ (by first | omega | (simp; omega) | simp) _) | (with_reducible refine Gr.trans ?_ (by with_reducible assumption)))⟩
  · have E : Hid (Al.decE l bk lo hi = 1) := (show _ = _ from if_neg (by simpa using hc))
    clear h hbig he
    go_enter Try.func14, Try.ntmps14
    go_wp2_with fail
    refine C1.mono ?_
    rintro e w1 ⟨rfl, g1⟩
    clear C1
    go_wp2_with fail
    go_ret3
    exact ⟨ret_int3 K.out.1.symm K.out.2.symm E.out.symm, by repeat (first | (with_reducible exact Gr.refl _) | (with_reducible assumption) | (with_reducible refine Gr.alloc ?_ _) | (with_reducible refine Gr.drewN ?_ _) | (with_reducible refine Gr.drew ?_) | (with_reducible refine Gr.grown ?_ _ _) | (with_reducible refine Gr.regrown ?_ _ _) | (with_reducible refine Gr.setCell ?_ (by first | omega | (simp; omega) | simp) _) | (with_reducible refine Gr.trans ?_ (by with_reducible assumption)))⟩

set_option maxHeartbeats 4000000 in
theorem decide_ok (v : Value) (l : List Us) (bk lo hi : Int) (w : World) (h : Rows 9 encU w v l) (hbig : (l.length : Int) ≤ 4611686018427387904) (hc : Al.chk l = 0) (hb : 0 ≤ bk ∧ bk ≤ 1048576) (hl : Al.okL lo hi) :
    Calls Try.prog 14 #[v, .int .i64 bk, .int .i64 lo, .int .i64 hi] w fun e w' => e = .returned (.tuple #[.int .i64 (Al.dk (Al.fx l bk lo hi)), .int .i64 (Al.dc (Al.fx l bk lo hi)), .int .i64 0]) ∧ Gr w w' := by
  have C1 := check_any v l w h hbig
  have C2 := fun W g => load_any v l W (h.gr (w := W) g) hbig
  have C3 := fun W g => worst_any v l W (h.gr (w := W) g) hbig
  have C4 := fun W => decide_any (Al.fx l bk lo hi) (fx_bd hc hb hl) W
  have C2' : Aside _ := C2
  have C3' : Aside _ := C3
  have b1 := bt hb
  have b2 := bt hl
  rw [hc] at C1
  obtain ⟨A, c, rfl⟩ := h.slice
  clear h hc hb hl C2 C3
  go_enter Try.func14, Try.ntmps14
  go_wp2_with fail
  refine C1.mono ?_
  rintro e w1 ⟨rfl, g1⟩
  clear C1
  go_wp2_with (first | (go_at_call 39; refine (within_any _ _ _).mono ?_; rintro e w9 ⟨rfl, e9⟩; rw [e9]; clear e9 w9) | (go_at_call 40; refine (limits_any _ _ _).mono ?_; rintro e w9 ⟨rfl, e9⟩; rw [e9]; clear e9 w9))
  generalize hW1 : w1.alloc (Obj.cells #[.int .i64 (l.length : Int), .int .i64 bk, .int .i64 lo, .int .i64 hi, .int .i64 0, .int .i64 0, .bool false] 60) = W1
  have G1 : Aside (Gr w W1) := by rw [← hW1]; exact Gr.alloc g1 _
  have F1 : Aside (FAt W1 w1.heap.size ⟨l.length, bk, lo, hi, 0, 0, false⟩) := by rw [← hW1]; exact FAt.new _ ⟨l.length, bk, lo, hi, 0, 0, false⟩ _
  have Z1 : Aside (∀ i, W1.frozen? ⟨w1.heap.size, i, none⟩ = false) := fun i => by subst hW1; go_simp
  have HS : Aside (w.heap.size ≤ w1.heap.size ∧ w1.heap.size < W1.heap.size) := ⟨g1.size, by rw [← hW1]; simp⟩
  clear hW1 g1
  refine (C2'.out W1 G1.out).mono ?_
  rintro e w2 ⟨rfl, g2⟩
  have z2 : ∀ i, w2.frozen? ⟨w1.heap.size, i, none⟩ = false := fun i => (g2.frozen HS.out.2).trans (Z1.out i)
  have F2 : Aside (FAt w2 w1.heap.size ⟨l.length, bk, lo, hi, 0, 0, false⟩) := F1.out.gr g2
  have f4 := F2.out 4 _ rfl
  have f5 := F2.out 5 _ rfl
  have hz2 : w1.heap.size < w2.heap.size := Nat.lt_of_lt_of_le HS.out.2 g2.size
  have HZ2 := Lib.hid hz2
  have G2 : Aside (Gr w w2) := G1.out.trans g2
  clear g2
  go_wp2_with fail
  have f6 := F2.out 6 _ rfl
  generalize hW3 : (w2.setCell ⟨w1.heap.size, 4, none⟩ (.int .i64 (Al.ldU l))).setCell ⟨w1.heap.size, 5, none⟩ (.int .i64 (Al.ldP l)) = W3
  have G3 : Aside (Gr w W3) := by rw [← hW3]; exact Gr.setCell (Gr.setCell G2.out HS.out.1 _) HS.out.1 _
  have e0 := F2.out 0 _ rfl
  have e1 := F2.out 1 _ rfl
  have e2 := F2.out 2 _ rfl
  have e3 := F2.out 3 _ rfl
  have F3 : Aside (FAt W3 w1.heap.size ⟨l.length, bk, lo, hi, Al.ldU l, Al.ldP l, false⟩) := by
    intro j u hj
    subst hW3
    match j with
    | 0 => simp at hj; subst hj; go_simp
    | 1 => simp at hj; subst hj; go_simp
    | 2 => simp at hj; subst hj; go_simp
    | 3 => simp at hj; subst hj; go_simp
    | 4 => simp at hj; subst hj; go_simp
    | 5 => simp at hj; subst hj; go_simp
    | 6 => simp at hj; subst hj; go_simp
    | j + 7 => simp at hj
  have Z3 : Aside (∀ i, W3.frozen? ⟨w1.heap.size, i, none⟩ = false) := fun i => by subst hW3; go_simp
  have hz3 : Aside (w1.heap.size < W3.heap.size) := by rw [← hW3]; show _ < _; simp; exact hz2
  clear hW3 f4 f5 f6 e0 e1 e2 e3 z2 hz2
  refine (C3'.out W3 G3.out).mono ?_
  rintro e w4 ⟨rfl, g4⟩
  have G4 : Aside (Gr w w4) := G3.out.trans g4
  have F4 : Aside (FAt w4 w1.heap.size ⟨l.length, bk, lo, hi, Al.ldU l, Al.ldP l, false⟩) := F3.out.gr g4
  have z4 : ∀ i, w4.frozen? ⟨w1.heap.size, i, none⟩ = false := fun i => (g4.frozen hz3.out).trans (Z3.out i)
  have hz4 : w1.heap.size < w4.heap.size := Nat.lt_of_lt_of_le hz3.out g4.size
  clear g4
  have e0 := F4.out 0 _ rfl
  have e1 := F4.out 1 _ rfl
  have e2 := F4.out 2 _ rfl
  have e3 := F4.out 3 _ rfl
  have e4 := F4.out 4 _ rfl
  have e5 := F4.out 5 _ rfl
  have e6 := F4.out 6 _ rfl
  go_wp2_with fail
  refine (C4 _).mono ?_
  rintro e w5 ⟨rfl, g5⟩
  have G5 : Aside (Gr w w5) := (Gr.setCell G4.out HS.out.1 _).trans g5
  clear g5 C4 e0 e1 e2 e3 e4 e5 e6 z4 hz4
  go_wp2_with fail
  go_ret3
  exact ⟨rfl, G5.out⟩
theorem decideA_any (v : Value) (l : List Us) (bk lo hi : Int) (w : World) (h : Rows 9 encU w v l) (hbig : (l.length : Int) ≤ 4611686018427387904) :
    Calls Try.prog 14 #[v, .int .i64 bk, .int .i64 lo, .int .i64 hi] w fun e w' => e = .returned (.tuple #[.int .i64 (Al.decK l bk lo hi), .int .i64 (Al.decC l bk lo hi), .int .i64 (Al.decE l bk lo hi)]) ∧ Gr w w' := by
  by_cases he : Al.decE l bk lo hi = 0
  · have e1 : Al.decK l bk lo hi = Al.dk (Al.fx l bk lo hi) := if_pos he
    have e2 : Al.decC l bk lo hi = Al.dc (Al.fx l bk lo hi) := if_pos he
    rw [e1, e2, he]
    unfold Al.decE at he
    split at he
    · split at he
      · rename_i hc hq
        exact decide_ok v l bk lo hi w h hbig hc hq.1 hq.2
      · exact absurd he (by decide)
    · exact absurd he (by decide)
  · exact decide_err v l bk lo hi w h hbig he

set_option maxHeartbeats 2000000 in
theorem settle_any (n d lo hi : Int) (w : World) :
    Calls Try.prog 16 #[.int .i64 n, .int .i64 d, .int .i64 lo, .int .i64 hi] w fun e w' => e = .returned (.tuple #[.int .i64 (Al.setN n d lo hi), .int .i64 (Al.setE n d lo hi)]) ∧ Gr w w' := by
  by_cases h : Al.okS n d lo hi
  · have S : Hid (Al.setN n d lo hi = Al.set_ n d lo hi ∧ Al.setE n d lo hi = 0) := (show _ ∧ _ from ⟨if_pos h, if_pos h⟩)
    have D0 : Aside (Al.Dom n d lo hi) := Al.okS_dom h
    have b1 := bt h.1
    have b2 := bt h.2.1
    have b3 := bt h.2.2
    have H := Lib.hid h
    clear h
    go_enter Try.func16, Try.ntmps16
    go_wp2_with (first | (go_at_call 39; refine (within_any _ _ _).mono ?_; rintro e w9 ⟨rfl, e9⟩; rw [e9]; clear e9 w9) | (go_at_call 40; refine (limits_any _ _ _).mono ?_; rintro e w9 ⟨rfl, e9⟩; rw [e9]; clear e9 w9))
    go_loopg [0, 10, 11] (Al.mu n d lo hi) (fun gg s0 _ _ wr => ∃ m : Int, Al.mu m d lo hi ≤ gg ∧ s0 = .int .i64 m ∧ Aside (Al.Dom m d lo hi) ∧ Aside (Al.set_ m d lo hi = Al.set_ n d lo hi) ∧ Aside (Gr w wr))
    case atStart => exact ⟨n, Nat.le_refl _, rfl, D0.out, rfl, Gr.refl _⟩
    case round =>
      obtain ⟨m, hgg, rfl, D, E, G⟩ := hrel
      have m0 := D.out.n0
      have m1 := D.out.n1
      have d0 := D.out.d0
      have d1 := H.out.2.2.2
      have l0 := D.out.l
      unfold Al.okL at l0
      have q0 : 0 ≤ min d m := by omega
      have q1 : min d m ≤ 64 := by omega
      have DC := fun W => decide_any (Al.sx m d lo hi) ⟨m0, m1, Int.le_refl 0, by show (0 : Int) ≤ 1048576; decide, l0.1.1, by show lo ≤ 64; omega, by show 0 ≤ hi; omega, l0.2, by show 0 ≤ 64 * min d m; omega, by show 64 * min d m ≤ 4096; omega, by show 0 ≤ 64 * m; omega, by show 64 * m ≤ 4096; omega⟩ W
      have GO : Aside (Al.dk (Al.sx m d lo hi) = 1 ∨ Al.dk (Al.sx m d lo hi) = 2 → Al.Dom (Al.nx m d lo hi) d lo hi ∧ Al.mu (Al.nx m d lo hi) d lo hi < Al.mu m d lo hi ∧ Al.set_ (Al.nx m d lo hi) d lo hi = Al.set_ n d lo hi) := fun hs => ⟨(Al.nx_dom D.out hs).1, (Al.nx_dom D.out hs).2.1, (Al.set_step D.out hs).trans E.out⟩
      have NX : Aside (Al.nx m d lo hi = if Al.dk (Al.sx m d lo hi) = 1 then m + Al.dc (Al.sx m d lo hi) else if Al.dk (Al.sx m d lo hi) = 2 then m - Al.dc (Al.sx m d lo hi) else m) := rfl
      have ST := Lib.hid (fun hs : ¬ (Al.dk (Al.sx m d lo hi) = 1 ∨ Al.dk (Al.sx m d lo hi) = 2) => (Al.set_stop hs).symm.trans E.out)
      have c := Al.step_cases D.out
      generalize Al.dk (Al.sx m d lo hi) = K at *
      generalize Al.dc (Al.sx m d lo hi) = C at *
      rcases c with ⟨rfl, c1, c2, c3, c4⟩ | ⟨rfl, rfl, c1, c2, c3⟩ | ⟨rfl, rfl, c4⟩
      · have N : Hid (Al.nx m d lo hi = m + C) := (show _ = _ by rw [NX.out]; rfl)
        have L := Lib.hid (GO.out (.inl rfl))
        have L2 := L.out.2.1
        clear c4
        go_wp2_with fail
        refine (DC _).mono ?_
        rintro e w1 ⟨rfl, g1⟩
        clear DC
        go_wp2_with fail
        go_roundg (Al.mu (Al.nx m d lo hi) d lo hi)
        case measure => omega
        case rel => exact ⟨m + C, by rw [N.out]; exact Nat.le_refl _, rfl, by rw [← N.out]; exact L.out.1, by rw [← N.out]; exact L.out.2.2, G.out.trans g1⟩
      · have N : Hid (Al.nx m d lo hi = m - 1) := (show _ = _ by rw [NX.out]; rfl)
        have L := Lib.hid (GO.out (.inr rfl))
        have L2 := L.out.2.1
        go_wp2_with fail
        refine (DC _).mono ?_
        rintro e w1 ⟨rfl, g1⟩
        clear DC
        go_wp2_with fail
        go_roundg (Al.mu (Al.nx m d lo hi) d lo hi)
        case measure => omega
        case rel => exact ⟨m - 1, by rw [N.out]; exact Nat.le_refl _, rfl, by rw [← N.out]; exact L.out.1, by rw [← N.out]; exact L.out.2.2, G.out.trans g1⟩
      · have N := Lib.hid (ST.out (by decide))
        clear c4
        go_wp2_with fail
        refine (DC _).mono ?_
        rintro e w1 ⟨rfl, g1⟩
        clear DC
        go_wp2_with fail
        go_ret2
        exact ⟨ret_int2 (N.out.trans S.out.1.symm) S.out.2.symm, G.out.trans g1⟩
  · have S : Hid (Al.setN n d lo hi = 0 ∧ Al.setE n d lo hi = 2) := (show _ ∧ _ from ⟨if_neg h, if_neg h⟩)
    by_cases h1 : Al.okL lo hi
    · have b1 := bt h1
      by_cases h2 : 0 ≤ n ∧ n ≤ 64
      · have b2 := bt h2
        have b3 := bf (fun h3 : 0 ≤ d ∧ d ≤ 1048576 => h ⟨h1, h2, h3⟩)
        clear h h1 h2
        go_enter Try.func16, Try.ntmps16
        go_wp2_with (first | (go_at_call 39; refine (within_any _ _ _).mono ?_; rintro e w9 ⟨rfl, e9⟩; rw [e9]; clear e9 w9) | (go_at_call 40; refine (limits_any _ _ _).mono ?_; rintro e w9 ⟨rfl, e9⟩; rw [e9]; clear e9 w9))
        go_ret2
        exact ⟨ret_int2 S.out.1.symm S.out.2.symm, by repeat (first | (with_reducible exact Gr.refl _) | (with_reducible assumption) | (with_reducible refine Gr.alloc ?_ _) | (with_reducible refine Gr.drewN ?_ _) | (with_reducible refine Gr.drew ?_) | (with_reducible refine Gr.grown ?_ _ _) | (with_reducible refine Gr.regrown ?_ _ _) | (with_reducible refine Gr.setCell ?_ (by first | omega | (simp; omega) | simp) _) | (with_reducible refine Gr.trans ?_ (by with_reducible assumption)))⟩
      · have b2 := bf h2
        clear h h1 h2
        go_enter Try.func16, Try.ntmps16
        go_wp2_with (first | (go_at_call 39; refine (within_any _ _ _).mono ?_; rintro e w9 ⟨rfl, e9⟩; rw [e9]; clear e9 w9) | (go_at_call 40; refine (limits_any _ _ _).mono ?_; rintro e w9 ⟨rfl, e9⟩; rw [e9]; clear e9 w9))
        go_ret2
        exact ⟨ret_int2 S.out.1.symm S.out.2.symm, by repeat (first | (with_reducible exact Gr.refl _) | (with_reducible assumption) | (with_reducible refine Gr.alloc ?_ _) | (with_reducible refine Gr.drewN ?_ _) | (with_reducible refine Gr.drew ?_) | (with_reducible refine Gr.grown ?_ _ _) | (with_reducible refine Gr.regrown ?_ _ _) | (with_reducible refine Gr.setCell ?_ (by first | omega | (simp; omega) | simp) _) | (with_reducible refine Gr.trans ?_ (by with_reducible assumption)))⟩
    · have b1 := bf h1
      clear h h1
      go_enter Try.func16, Try.ntmps16
      go_wp2_with (first | (go_at_call 39; refine (within_any _ _ _).mono ?_; rintro e w9 ⟨rfl, e9⟩; rw [e9]; clear e9 w9) | (go_at_call 40; refine (limits_any _ _ _).mono ?_; rintro e w9 ⟨rfl, e9⟩; rw [e9]; clear e9 w9))
      go_ret2
      exact ⟨ret_int2 S.out.1.symm S.out.2.symm, by repeat (first | (with_reducible exact Gr.refl _) | (with_reducible assumption) | (with_reducible refine Gr.alloc ?_ _) | (with_reducible refine Gr.drewN ?_ _) | (with_reducible refine Gr.drew ?_) | (with_reducible refine Gr.grown ?_ _ _) | (with_reducible refine Gr.regrown ?_ _ _) | (with_reducible refine Gr.setCell ?_ (by first | omega | (simp; omega) | simp) _) | (with_reducible refine Gr.trans ?_ (by with_reducible assumption)))⟩
end Go.Proofs.Ytkhanjhjcfhhiaa
