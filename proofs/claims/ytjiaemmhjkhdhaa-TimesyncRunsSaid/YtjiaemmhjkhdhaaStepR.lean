/- The contract of the reference's step. -/
import Derived.Test.YtjiaemmhjkhdhaaR10B
import Derived.Test.YtjiaemmhjkhdhaaClkLaws
import Derived.Test.YtjiaemmhjkhdhaaR8B
import Derived.Test.YtjiaemmhjkhdhaaRunRow
import Derived.Test.YtjiaemmhjkhdhaaRunPlain
import Derived.Test.YtjiaemmhjkhdhaaRunA
import Derived.Test.YtjiaemmhjkhdhaaHeld
namespace Go.Proofs.Ytjiaemmhjkhdhaa
open Go.RowKit Go.Sort
set_option linter.unusedVariables false

theorem mea_zero {o d po pd ps pc t : Int} (he : Ck.inE o d t 2120 = 0) (hk : Ts.okS po pd ps pc) : Ts.meaE po pd t (Ck.inN o d t 2120) = 0 := by
  obtain ⟨hs, hx, e⟩ := Ck.in_ok he
  obtain ⟨v, s0, s1⟩ := slot_valid hs
  have b := Ck.rc_bd o d _ v.d1 v.d2 hx
  rw [e]
  exact (Ts.mea_ok (show Ts.meaOk po pd t _ from ⟨hk.1, by omega, by omega, b.1, b.2⟩)).2

set_option maxHeartbeats 8000000 in
set_option maxRecDepth 100000 in
theorem rstep_in (L : List Sy) (n C1 C2 m g og b off a q : Nat) (t : Int) (ka : Bool) (w : World)
    (hL : ∀ i x, L[i]? = some x → ∀ j u, (encS x)[j]? = some u → w.cell? ⟨g, og + i * 4 + j, none⟩ = some u) (ha : a < n) (hq : q < n) (hn : L.length = n) (h1 : 1 ≤ a) (hnb : n ≤ 1048576)
    (hm : m = n) (hp : w.cell? ⟨b, off + a, none⟩ = some (.int .i64 (q : Int))) (hok : Ru.okS (Ru.gt L q)) :
    Calls Try.prog 58 #[.slice (some ⟨g, og, none⟩) n C1, .slice (some ⟨b, off, none⟩) m C2, .agg #[.int .i64 (a : Int), .int .i64 t, .bool ka]] w
      fun e w' => e = .returned (stV (Ru.stp (Ru.gt L a) (Ru.gt L q).o (Ru.gt L q).d t ka)) ∧ Gr w w' := by
  subst hm
  have ga := Ru.gt_get (l := L) (i := a) (by omega)
  have gq := Ru.gt_get (l := L) (i := q) (by omega)
  generalize Ru.gt L a = x at ga ⊢
  generalize Ru.gt L q = z at gq hok ⊢
  have x0 := hL a x ga 0 _ rfl
  have x1 := hL a x ga 1 _ rfl
  have x2 := hL a x ga 2 _ rfl
  have x3 := hL a x ga 3 _ rfl
  have z0 := hL q z gq 0 _ rfl
  have z1 := hL q z gq 1 _ rfl
  have z2 := hL q z gq 2 _ rfl
  have z3 := hL q z gq 3 _ rfl
  simp only [Nat.add_zero] at x0 z0
  clear hL ga gq
  have i1 : ¬ (a : Int) < 1 := by omega
  have i2 : ¬ (m : Int) ≤ (a : Int) := by omega
  have i3 : (a : Int) < (m : Int) := by omega
  have i4 : (0 : Int) ≤ (a : Int) := by omega
  have i5 : (q : Int) < (m : Int) := by omega
  have i6 : (0 : Int) ≤ (q : Int) := by omega
  have HOK := Lib.hid hok
  clear hok hn
  go_enter Try.func58, Try.ntmps58
  go_wp2_with fail
  obtain ⟨w1, hw1⟩ : ∃ w1, w1 = (w.alloc (Obj.cells #[.int .i64 (a : Int), .int .i64 t, .bool ka] 54)).alloc (Obj.cells #[.int .i64 0, .int .i64 0, .int .i64 0, .int .i64 0] 25) := ⟨_, rfl⟩
  rw [← hw1]
  have g1 : Gr w w1 := by rw [hw1]; exact Gr.alloc (Gr.alloc (Gr.refl w) _) _
  have c0 : w1.cell? ⟨w.heap.size, 0, none⟩ = some (.int .i64 (a : Int)) := by rw [hw1]; go_simp
  have c1 : w1.cell? ⟨w.heap.size, 1, none⟩ = some (.int .i64 t) := by rw [hw1]; go_simp
  have c2 : w1.cell? ⟨w.heap.size, 2, none⟩ = some (.bool ka) := by rw [hw1]; go_simp
  have r0 : ∀ i, i < 4 → w1.cell? ⟨w.heap.size + 1, i, none⟩ = some (.int .i64 0) := fun i hi => by
    rw [hw1]
    have : i = 0 ∨ i = 1 ∨ i = 2 ∨ i = 3 := by omega
    rcases this with rfl | rfl | rfl | rfl <;> go_simp
  have f0 : ∀ i, w1.frozen? ⟨w.heap.size + 1, i, none⟩ = false := fun i => by rw [hw1]; go_simp
  have y1 : w.heap.size + 1 < w1.heap.size := by rw [hw1]; simp
  have KEEP : Aside (∀ W, Gr w1 W → (Gr w1 W ∧ W.cell? ⟨w.heap.size, 0, none⟩ = some (.int .i64 (a : Int)) ∧ W.cell? ⟨w.heap.size, 1, none⟩ = some (.int .i64 t) ∧ W.cell? ⟨w.heap.size, 2, none⟩ = some (.bool ka) ∧ W.cell? ⟨g, og + a * 4, none⟩ = some (.int .i64 x.o) ∧ W.cell? ⟨g, og + a * 4 + 1, none⟩ = some (.int .i64 x.d) ∧ W.cell? ⟨g, og + a * 4 + 2, none⟩ = some (.int .i64 x.s) ∧ W.cell? ⟨g, og + a * 4 + 3, none⟩ = some (.int .i64 x.c) ∧ W.cell? ⟨g, og + q * 4, none⟩ = some (.int .i64 z.o) ∧ W.cell? ⟨g, og + q * 4 + 1, none⟩ = some (.int .i64 z.d) ∧ W.cell? ⟨g, og + q * 4 + 2, none⟩ = some (.int .i64 z.s) ∧ W.cell? ⟨g, og + q * 4 + 3, none⟩ = some (.int .i64 z.c) ∧ W.cell? ⟨b, off + a, none⟩ = some (.int .i64 (q : Int)))) := fun W k =>
    ⟨k, held_keep k c0, held_keep k c1, held_keep k c2, held_keep k (held_keep g1 x0), held_keep k (held_keep g1 x1), held_keep k (held_keep g1 x2), held_keep k (held_keep g1 x3), held_keep k (held_keep g1 z0), held_keep k (held_keep g1 z1), held_keep k (held_keep g1 z2), held_keep k (held_keep g1 z3), held_keep k (held_keep g1 hp)⟩
  have G1 : Aside (Gr w w1) := g1
  have R0 := Lib.hid r0
  have F0 := Lib.hid f0
  have Y1 := Lib.hid y1
  have C0 := Lib.hid c0
  have C1' := Lib.hid c1
  have C2' := Lib.hid c2
  clear hw1 g1 c0 c1 c2 r0 f0 y1 x0 x1 x2 x3 z0 z1 z2 z3 hp
  apply wp_join2 (F := fun W v1 v2 => Gr w1 W ∧ ∃ b8 b9, v1 = .pointer (some ⟨b8, 0, none⟩) ∧ v2 = .pointer (some ⟨b9, 0, none⟩) ∧ W.cell? ⟨b8, 0, none⟩ = some (.int .i64 x.o) ∧ W.cell? ⟨b8, 1, none⟩ = some (.int .i64 x.d) ∧ W.cell? ⟨b8, 2, none⟩ = some (.int .i64 x.s) ∧ W.cell? ⟨b8, 3, none⟩ = some (.int .i64 x.c) ∧ W.cell? ⟨b9, 0, none⟩ = some (.int .i64 z.o) ∧ W.cell? ⟨b9, 1, none⟩ = some (.int .i64 z.d))
  case h =>
    go_region_held3 (fun W => Gr w1 W ∧ W.cell? ⟨w.heap.size, 0, none⟩ = some (.int .i64 (a : Int)) ∧ W.cell? ⟨w.heap.size, 1, none⟩ = some (.int .i64 t) ∧ W.cell? ⟨w.heap.size, 2, none⟩ = some (.bool ka) ∧ W.cell? ⟨g, og + a * 4, none⟩ = some (.int .i64 x.o) ∧ W.cell? ⟨g, og + a * 4 + 1, none⟩ = some (.int .i64 x.d) ∧ W.cell? ⟨g, og + a * 4 + 2, none⟩ = some (.int .i64 x.s) ∧ W.cell? ⟨g, og + a * 4 + 3, none⟩ = some (.int .i64 x.c) ∧ W.cell? ⟨g, og + q * 4, none⟩ = some (.int .i64 z.o) ∧ W.cell? ⟨g, og + q * 4 + 1, none⟩ = some (.int .i64 z.d) ∧ W.cell? ⟨g, og + q * 4 + 2, none⟩ = some (.int .i64 z.s) ∧ W.cell? ⟨g, og + q * 4 + 3, none⟩ = some (.int .i64 z.c) ∧ W.cell? ⟨b, off + a, none⟩ = some (.int .i64 (q : Int))) ((refine KEEP.out _ ?_; (repeat (first | assumption | exact And.left (by assumption) | exact Gr.refl _ | refine Gr.drew ?_ | refine Gr.alloc ?_ _ | refine Gr.setCell ?_ (by first | exact Nat.le_refl _ | omega) _ | refine Gr.trans ?_ (by assumption))))) (fail)
    · have hG := (‹Gr w1 _ ∧ _›).1
      generalize hp8 : Value.pointer (some ⟨w1.heap.size, 0, none⟩) = p8
      generalize hp9 : Value.pointer (some ⟨w1.heap.size + 1, 0, none⟩) = p9
      refine ⟨rfl, p8, p9, rfl, hG, w1.heap.size, w1.heap.size + 1, hp8.symm, hp9.symm, ?_, ?_, ?_, ?_, ?_, ?_⟩ <;> go_simp
    · have hG := (‹Gr w1 _ ∧ _›).1
      generalize hp8 : Value.pointer (some ⟨w1.heap.size + 1, 0, none⟩) = p8
      generalize hp9 : Value.pointer (some ⟨w1.heap.size, 0, none⟩) = p9
      refine ⟨rfl, p8, p9, rfl, hG, w1.heap.size + 1, w1.heap.size, hp8.symm, hp9.symm, ?_, ?_, ?_, ?_, ?_, ?_⟩ <;> go_simp
  case k =>
    intro v8 v9 w2 hF
    obtain ⟨g2, b8, b9, rfl, rfl, e0, e1, e2, e3, d0, d1⟩ := hF
    have KK := KEEP.out w2 g2
    obtain ⟨-, -, c1, c2, -⟩ := KK
    have G2 : Aside (Gr w w2) := G1.out.trans g2
    have KQ : Aside (∀ W, Gr w2 W → (W.cell? ⟨w.heap.size, 1, none⟩ = some (.int .i64 t) ∧ W.cell? ⟨b8, 0, none⟩ = some (.int .i64 x.o) ∧ W.cell? ⟨b8, 1, none⟩ = some (.int .i64 x.d) ∧ W.cell? ⟨b8, 2, none⟩ = some (.int .i64 x.s) ∧ W.cell? ⟨b8, 3, none⟩ = some (.int .i64 x.c) ∧ W.cell? ⟨b9, 0, none⟩ = some (.int .i64 z.o) ∧ W.cell? ⟨b9, 1, none⟩ = some (.int .i64 z.d) ∧ (∀ i, i < 4 → W.cell? ⟨w.heap.size + 1, i, none⟩ = some (.int .i64 0)) ∧ (∀ i, W.frozen? ⟨w.heap.size + 1, i, none⟩ = false) ∧ w.heap.size + 1 < W.heap.size ∧ b8 < W.heap.size ∧ b9 < W.heap.size)) := fun W gW => by
      have hy : w.heap.size + 1 < w2.heap.size := Nat.lt_of_lt_of_le Y1.out g2.size
      exact ⟨held_keep gW c1, held_keep gW e0, held_keep gW e1, held_keep gW e2, held_keep gW e3, held_keep gW d0, held_keep gW d1, fun i hi => held_keep gW (held_keep g2 (R0.out i hi)), fun i => (gW.frozen (p := ⟨w.heap.size + 1, i, none⟩) hy).trans ((g2.frozen (p := ⟨w.heap.size + 1, i, none⟩) Y1.out).trans (F0.out i)), Nat.lt_of_lt_of_le hy gW.size, block_lt_of_cell (held_keep gW e0), block_lt_of_cell (held_keep gW d0)⟩
    have hzz : w.heap.size < w2.heap.size := block_lt_of_cell c1
    have h8 := block_lt_of_cell e0
    have h9 := block_lt_of_cell d0
    clear KEEP R0 F0 Y1 C0 C1' C2' g2
    cases ka
    · by_cases he : Ck.inE z.o z.d t 2120 = 0
      · have H : Hid (Ru.stp x z.o z.d t false = Ts.hear x.o x.d x.s x.c t (Ck.inN z.o z.d t 2120)) := (show Ru.hr x z.o z.d t = _ from if_pos he)
        generalize hq : Ts.hear x.o x.d x.s x.c t (Ck.inN z.o z.d t 2120) = q
        have HQ := Lib.hid hq
        have SQ := Lib.hid hq
        clear hq
        go_wp2_with fail
        refine (rsend_any _ _ _ _).mono ?_
        rintro e w3 ⟨rfl, g3⟩
        have GQ0 : Aside (Gr w2 w3) := g3
        obtain ⟨t1, p0, p1, p2, p3, q0, q1, -, -, y1, y8, y9⟩ := KQ.out _ g3
        clear g3 e0 e1 e2 e3 d0 d1 c1 c2 hzz h8 h9
        go_wp2_with fail
        refine (rhear_any _ _ _ _ _ _ _).mono ?_
        rw [HQ.out]
        rintro e w4 ⟨rfl, g4⟩
        have GQ : Aside (Gr w2 w4) := GQ0.out.trans g4
        clear g4 GQ0 t1 p0 p1 p2 p3 q0 q1 y1 y8 y9
        obtain ⟨t1, e0, e1, e2, e3, d0, d1, r0, f0, y1, y8, y9⟩ := KQ.out _ GQ.out
        go_wp2_with fail
        refine bodyPost_ret (v := stV q) (by simp [results, Try.results58, go_sem, r0]) rfl ⟨by rw [H.out, SQ.out], ?_⟩
        have GG : Aside (Gr w _) := G2.out.trans GQ.out
        exact ((((GG.out.setCell (by simp) _).setCell (by simp) _).setCell (by simp) _).setCell (by simp) _)
      · have H : Hid (Ru.stp x z.o z.d t false = Ts.no (Ck.inE z.o z.d t 2120)) := (show Ru.hr x z.o z.d t = _ from if_neg he)
        have hb : (Ck.inE z.o z.d t 2120 != 0) = true := by simpa using he
        clear he
        go_wp2_with fail
        refine (rsend_any _ _ _ _).mono ?_
        rintro e w3 ⟨rfl, g3⟩
        have GQ : Aside (Gr w2 w3) := g3
        clear g3 e0 e1 e2 e3 d0 d1 c1 c2 hzz h8 h9
        obtain ⟨t1, e0, e1, e2, e3, d0, d1, r0, f0, y1, y8, y9⟩ := KQ.out _ GQ.out
        go_wp2_with fail
        refine bodyPost_ret (v := stV (Ts.no (Ck.inE z.o z.d t 2120))) (by simp [results, Try.results58, go_sem, r0, Ts.no]) rfl ⟨by rw [H.out], ?_⟩
        have GG : Aside (Gr w _) := G2.out.trans GQ.out
        exact ((((GG.out.setCell (by simp) _).setCell (by simp) _).setCell (by simp) _).setCell (by simp) _)
    · by_cases he : Ck.inE x.o x.d t 2120 = 0
      · have hm : Ts.meaE z.o z.d t (Ck.inN x.o x.d t 2120) = 0 := mea_zero he HOK.out
        have H : Hid (Ru.stp x z.o z.d t true = Ts.ack x.o x.d x.s x.c t (Ts.meaN z.o z.d t (Ck.inN x.o x.d t 2120))) := (show Ru.ak x z.o z.d t = _ by unfold Ru.ak; rw [if_pos he, if_pos hm])
        clear hm
        generalize hq : Ts.ack x.o x.d x.s x.c t (Ts.meaN z.o z.d t (Ck.inN x.o x.d t 2120)) = q
        have HQ := Lib.hid hq
        have SQ := Lib.hid hq
        clear hq
        go_wp2_with fail
        refine (rsend_any _ _ _ _).mono ?_
        rintro e w3 ⟨rfl, g3⟩
        have GQ0 : Aside (Gr w2 w3) := g3
        obtain ⟨t1, p0, p1, p2, p3, q0, q1, -, -, y1, y8, y9⟩ := KQ.out _ g3
        clear g3 e0 e1 e2 e3 d0 d1 c1 c2 hzz h8 h9
        go_wp2_with fail
        refine (rmeasure_any _ _ _ _ _).mono ?_
        rintro e w4 ⟨rfl, g4⟩
        have GQ1 : Aside (Gr w2 w4) := GQ0.out.trans g4
        clear g4 t1 p0 p1 p2 p3 q0 q1 y1 y8 y9
        obtain ⟨t1, p0, p1, p2, p3, q0, q1, -, -, y1, y8, y9⟩ := KQ.out _ GQ1.out
        go_wp2_with fail
        refine (racked_any _ _ _ _ _ _ _).mono ?_
        rw [HQ.out]
        rintro e w5 ⟨rfl, g5⟩
        have GQ : Aside (Gr w2 w5) := GQ1.out.trans g5
        clear g5 GQ0 GQ1 t1 p0 p1 p2 p3 q0 q1 y1 y8 y9
        obtain ⟨t1, e0, e1, e2, e3, d0, d1, r0, f0, y1, y8, y9⟩ := KQ.out _ GQ.out
        go_wp2_with fail
        refine bodyPost_ret (v := stV q) (by simp [results, Try.results58, go_sem, r0]) rfl ⟨by rw [H.out, SQ.out], ?_⟩
        have GG : Aside (Gr w _) := G2.out.trans GQ.out
        exact ((((GG.out.setCell (by simp) _).setCell (by simp) _).setCell (by simp) _).setCell (by simp) _)
      · have H : Hid (Ru.stp x z.o z.d t true = Ts.no (Ck.inE x.o x.d t 2120)) := (show Ru.ak x z.o z.d t = _ by unfold Ru.ak; rw [if_neg he])
        have hb : (Ck.inE x.o x.d t 2120 != 0) = true := by simpa using he
        clear he
        go_wp2_with fail
        refine (rsend_any _ _ _ _).mono ?_
        rintro e w3 ⟨rfl, g3⟩
        have GQ : Aside (Gr w2 w3) := g3
        clear g3 e0 e1 e2 e3 d0 d1 c1 c2 hzz h8 h9
        obtain ⟨t1, e0, e1, e2, e3, d0, d1, r0, f0, y1, y8, y9⟩ := KQ.out _ GQ.out
        go_wp2_with fail
        refine bodyPost_ret (v := stV (Ts.no (Ck.inE x.o x.d t 2120))) (by simp [results, Try.results58, go_sem, r0, Ts.no]) rfl ⟨by rw [H.out], ?_⟩
        have GG : Aside (Gr w _) := G2.out.trans GQ.out
        exact ((((GG.out.setCell (by simp) _).setCell (by simp) _).setCell (by simp) _).setCell (by simp) _)
end Go.Proofs.Ytjiaemmhjkhdhaa
