/- The contract of timesync.Run. -/
import Derived.Test.YtjiaemmhjkhdhaaRunB
import Derived.Test.YtjiaemmhjkhdhaaIndexS
import Derived.Test.YtjiaemmhjkhdhaaCloneS
import Derived.Test.YtjiaemmhjkhdhaaDepA
import Derived.Test.YtjiaemmhjkhdhaaQTail
import Derived.Outline
import Derived.Deep.RegionHeld3
namespace Go.Proofs.Ytjiaemmhjkhdhaa
open Go.RowKit Go.Sort
set_option linter.unusedVariables false

/-- states, an index and an error come back -/
def RunPost (r : List Sy × Int × Int) (w : World) (e : Ending) (w' : World) : Prop := ∃ v, e = .returned (.tuple #[v, .int .i64 r.2.1, .int .i64 r.2.2]) ∧ Rows 4 encS w' v r.1 ∧ Gr w w'
theorem ret_vii {k l : IntKind} {v u : Value} {a b c d : Int} (h : v = u) (h' : a = b) (h'' : c = d) : Ending.returned (.tuple #[v, .int k a, .int l c]) = .returned (.tuple #[u, .int k b, .int l d]) := by rw [h, h', h'']

theorem gt_cell {w : World} {base e n cap g : Nat} {l : List Sy} (h : w.ownsRow base e 4 (.slice (some ⟨g, 0, none⟩) n cap) n ((l.map encS).flatten)) (hn : l.length = n) (i : Nat) (hi : i < n) :
    w.cell? ⟨g, i * 4, none⟩ = some (.int .i64 (Ru.gt l i).o) ∧ w.cell? ⟨g, i * 4 + 1, none⟩ = some (.int .i64 (Ru.gt l i).d) ∧ w.cell? ⟨g, i * 4 + 2, none⟩ = some (.int .i64 (Ru.gt l i).s) ∧ w.cell? ⟨g, i * 4 + 3, none⟩ = some (.int .i64 (Ru.gt l i).c) := by
  have hg := Ru.gt_get (l := l) (i := i) (by omega)
  have key : ∀ j u, j < 4 → (encS (Ru.gt l i))[j]? = some u → w.cell? ⟨g, i * 4 + j, none⟩ = some u := fun j u hj hu => by
    rw [h.cellAt (i * 4 + j) (by omega), flat_get encS_len l i j _ hg hj]
    exact hu
  exact ⟨key 0 _ (by omega) rfl, key 1 _ (by omega) rfl, key 2 _ (by omega) rfl, key 3 _ (by omega) rfl⟩

theorem gr_keep {a b : World} {p : Addr} {v : Value} (h : Gr a b) (k : a.cell? p = some v) : b.cell? p = some v := (h.cell (block_lt_of_cell k)).trans k
theorem fresh4 {w w' : World} {a b c d : Value} {t : TypeId} (h : Gr (w.alloc (Obj.cells #[a, b, c, d] t)).drew w') :
    (w'.cell? ⟨w.heap.size, 0, none⟩ = some a ∧ w'.cell? ⟨w.heap.size, 1, none⟩ = some b ∧ w'.cell? ⟨w.heap.size, 2, none⟩ = some c ∧ w'.cell? ⟨w.heap.size, 3, none⟩ = some d) ∧ ∀ j, w'.frozen? ⟨w.heap.size, j, none⟩ = false := by
  have hb : ∀ j, (⟨w.heap.size, j, none⟩ : Addr).block < (w.alloc (Obj.cells #[a, b, c, d] t)).drew.heap.size := fun j => by simp [World.drew]
  have e : ∀ j, (w.alloc (Obj.cells #[a, b, c, d] t)).drew.cell? ⟨w.heap.size, j, none⟩ = (w.alloc (Obj.cells #[a, b, c, d] t)).cell? ⟨w.heap.size, j, none⟩ := fun _ => rfl
  have f : ∀ j, (w.alloc (Obj.cells #[a, b, c, d] t)).drew.frozen? ⟨w.heap.size, j, none⟩ = (w.alloc (Obj.cells #[a, b, c, d] t)).frozen? ⟨w.heap.size, j, none⟩ := fun _ => rfl
  refine ⟨⟨?_, ?_, ?_, ?_⟩, fun j => ?_⟩
  · rw [h.cell (hb 0), e]; go_simp
  · rw [h.cell (hb 1), e]; go_simp
  · rw [h.cell (hb 2), e]; go_simp
  · rw [h.cell (hb 3), e]; go_simp
  · rw [h.frozen (hb j), f]; go_simp
theorem made4 (w : World) (t : TypeId) (a b c d : Value) :
    (w.alloc (Obj.cells #[a, b, c, d] t)).cell? ⟨w.heap.size, 0, none⟩ = some a ∧ (w.alloc (Obj.cells #[a, b, c, d] t)).cell? ⟨w.heap.size, 1, none⟩ = some b ∧ (w.alloc (Obj.cells #[a, b, c, d] t)).cell? ⟨w.heap.size, 2, none⟩ = some c ∧ (w.alloc (Obj.cells #[a, b, c, d] t)).cell? ⟨w.heap.size, 3, none⟩ = some d := by
  refine ⟨?_, ?_, ?_, ?_⟩ <;> go_simp
theorem read4 {w : World} {n : Nat} {p q r s : Value} (a b c d : Value) (h0 : w.cell? ⟨n, 0, none⟩ = some p) (h1 : w.cell? ⟨n, 1, none⟩ = some q) (h2 : w.cell? ⟨n, 2, none⟩ = some r) (h3 : w.cell? ⟨n, 3, none⟩ = some s) :
    ((((w.setCell ⟨n, 0, none⟩ a).setCell ⟨n, 1, none⟩ b).setCell ⟨n, 2, none⟩ c).setCell ⟨n, 3, none⟩ d).cell? ⟨n, 0, none⟩ = some a ∧ ((((w.setCell ⟨n, 0, none⟩ a).setCell ⟨n, 1, none⟩ b).setCell ⟨n, 2, none⟩ c).setCell ⟨n, 3, none⟩ d).cell? ⟨n, 1, none⟩ = some b ∧ ((((w.setCell ⟨n, 0, none⟩ a).setCell ⟨n, 1, none⟩ b).setCell ⟨n, 2, none⟩ c).setCell ⟨n, 3, none⟩ d).cell? ⟨n, 2, none⟩ = some c ∧ ((((w.setCell ⟨n, 0, none⟩ a).setCell ⟨n, 1, none⟩ b).setCell ⟨n, 2, none⟩ c).setCell ⟨n, 3, none⟩ d).cell? ⟨n, 3, none⟩ = some d := by
  refine ⟨?_, ?_, ?_, ?_⟩ <;> go_simp
theorem rows_S {w : World} {base e n : Nat} {v : Value} {l : List Sy} (h : w.ownsRow base e 4 v n ((l.map encS).flatten)) (hn : l.length = n) : Rows 4 encS w v l := by
  subst hn
  exact Rows.of_owns encS_len h

set_option maxHeartbeats 8000000 in
set_option maxRecDepth 100000 in
theorem run_any (v0 v1 v2 : Value) (S : List Sy) (p : List Int) (Y : List Yn) (w : World) (h0 : Rows 4 encS w v0 S) (h1 : Rows 1 encI w v1 p) (h2 : Rows 3 encY w v2 Y) (b0 : S.length ≤ 1048576) (b1 : p.length ≤ 1048576) (b2 : Y.length ≤ 1048576) :
    Calls Try.prog 26 #[v0, v1, v2] w (RunPost (Ru.run p S Y) w) := by
  obtain ⟨A0, C0, rfl⟩ := h0.slice
  obtain ⟨A1, C1, rfl⟩ := h1.slice
  obtain ⟨A2, C2, rfl⟩ := h2.slice
  have H0 := Lib.hid h0
  have H1 := Lib.hid h1
  have H2 := Lib.hid h2
  clear h0 h1 h2
  have DEP := fun W g => depths_any (.slice A1 p.length C1) p W (H1.out.gr (w := W) g) (by omega)
  have CON := fun W g => containsS_any 54 #[] badS (.slice A0 S.length C0) S W (H0.out.gr (w := W) g) (by omega) (enters_of Try.func54 (by kernel_rfl) rfl) (fun W2 i x _ _ => run1_any x W2)
  have CLO := fun W g => cloneCloneS_any (.slice A0 S.length C0) S W (H0.out.gr (w := W) g) b0
  rw [okL_any] at CON
  obtain ⟨n0, e0⟩ : ∃ n, S.length = n := ⟨_, rfl⟩
  obtain ⟨n1, e1⟩ : ∃ n, p.length = n := ⟨_, rfl⟩
  obtain ⟨n2, e2⟩ : ∃ n, Y.length = n := ⟨_, rfl⟩
  have E0 := Lib.hid e0
  have E1 := Lib.hid e1
  have E2 := Lib.hid e2
  rw [e0] at CON CLO b0 ⊢
  rw [e1] at DEP b1 ⊢
  rw [e2] at b2 ⊢
  clear e0 e1 e2
  have NO : Hid (¬ Ru.okR p S Y → Ru.run p S Y = ([], -1, 1)) := fun h => if_neg h
  have YES : Hid (Ru.okR p S Y → Ru.run p S Y = Ru.runs p S Y 0) := fun h => if_pos h
  by_cases hD : Dp.okD p
  · have d1 := (Dp.d_ok hD).1
    rw [d1] at DEP
    by_cases hl : n0 = n1
    · by_cases hy : n2 ≤ 1024
      · by_cases hL : Ru.okL S
        · have HR : Hid (Ru.okR p S Y) := ⟨hD, by rw [E0.out, E1.out]; exact hl, by rw [E2.out]; exact hy, hL⟩
          have cL : (!decide (Ru.okL S)) = false := by rw [decide_eq_true hL]; rfl
          rw [cL] at CON
          have q1 : ((n0 : Int) != (n1 : Int)) = false := by rw [bne_eq_false_iff_eq]; omega
          have q2 : ¬ (1024 : Int) < (n2 : Int) := by omega
          have R := Lib.hid (YES.out HR.out)
          have hN1 : 1 ≤ n1 := by have := hD.1.1; rw [E1.out] at this; exact this
          have hN2 : n1 ≤ 32 := by have := hD.1.2.1; rw [E1.out] at this; exact this
          subst hl
          have PAR : Aside (∀ i, i + 1 < n0 → ∃ a, a < n0 ∧ Dp.par p (i + 1) = (a : Int)) := fun i hi => by
            obtain ⟨q1, q2, q3⟩ := Dp.d_parent hD (i := i) (by rw [E1.out]; exact hi)
            rw [E1.out] at q2
            exact ⟨(Dp.par p (i + 1)).toNat, by omega, by omega⟩
          have PC : Aside (∃ b off, A1 = some ⟨b, off, none⟩ ∧ b < w.heap.size ∧ ∀ i, i < n0 → w.cell? ⟨b, off + i, none⟩ = some (.int .i64 (Dp.par p i))) := by
            rcases H1.out with ⟨hp, _⟩ | ⟨b, off, c', hb, hv, hc⟩
            · have := E1.out; rw [hp] at this; simp at this; omega
            · simp only [Value.slice.injEq] at hv
              refine ⟨b, off, hv.1, hb, fun i hi => ?_⟩
              have := Rows.int_cell hc i (by rw [E1.out]; exact hi)
              rwa [par_get] at this
          obtain ⟨b, off, hA1, hb, PCC⟩ := PC.out
          have YC : Aside (n2 = 0 ∨ ∃ b off, A2 = some ⟨b, off, none⟩ ∧ b < w.heap.size ∧ ∀ i x, Y[i]? = some x → ∀ j u, (encY x)[j]? = some u → w.cell? ⟨b, off + i * 3 + j, none⟩ = some u) := by
            rcases H2.out with ⟨hp, _⟩ | ⟨b, off, c', hb, hv, hc⟩
            · left; have := E2.out; rw [hp] at this; simp at this; omega
            · simp only [Value.slice.injEq] at hv
              exact .inr ⟨b, off, hv.1, hb, hc⟩
          have PCX := Lib.hid PCC
          have HB := Lib.hid hb
          have eN : ∀ (W : World) (o : Option Addr), True := fun _ _ => trivial
          clear hD hL d1 NO YES HR PC PCC hb eN cL
          subst hA1
          go_enter Try.func26, Try.ntmps26
          go_wp2_with fail
          refine (DEP _ (Gr.refl w)).mono ?_
          rintro e w1 ⟨vd, rfl, Rd, g1⟩
          go_wp2_with fail
          refine (CON _ g1).mono ?_
          rintro e w2 ⟨rfl, g2⟩
          have G2 : Aside (Gr w w2) := g1.trans g2
          go_wp2_with fail
          refine (CLO _ G2.out).mono ?_
          rintro e w3 ⟨vo, rfl, O, g3⟩
          have G3 : Aside (Gr w w3) := G2.out.trans g3
          have O3 : Aside (w3.ownsRow w2.heap.size 25 4 vo n0 ((S.map encS).flatten)) := by rw [E0.out] at O; exact O
          have GB : Hid (w.heap.size ≤ w2.heap.size) := G2.out.size
          clear O g1 g2 g3 DEP CON CLO Rd
          have O4 := O3.out
          rcases O4.2 with ⟨_, hz⟩ | ⟨g, cap, cur, rfl, hgb, _⟩
          · omega
          · clear O4
            rcases YC.out with h0 | ⟨b2, o2, hA2, hb2, YCC⟩
            · subst h0
              go_wp2_with fail
              go_loopg [6, 7, 8, 12, 13, 14, 15, 16, 44] 0 (fun _ _ _ _ _ _ _ _ _ s44 wr => s44 = .int .i64 0 ∧ wr = w3)
              case atStart => exact ⟨rfl, rfl⟩
              case round =>
                obtain ⟨rfl, rfl⟩ := hrel
                have hY : Y = [] := List.eq_nil_of_length_eq_zero E2.out
                go_wp2_with fail
                go_ret3
                exact ⟨.slice (some ⟨g, 0, none⟩) n0 cap, ret_vii rfl (by rw [R.out, hY]; rfl) (by rw [R.out, hY]; rfl), by rw [R.out, hY]; exact rows_S O3.out E0.out, G3.out⟩
            · subst hA2
              have YX : Aside (∀ i x, Y[i]? = some x → ∀ j u, (encY x)[j]? = some u → w.cell? ⟨b2, o2 + i * 3 + j, none⟩ = some u) := YCC
              have HB2 := Lib.hid hb2
              clear YCC hb2 YC H0 H1 H2
              go_wp2_with fail
              go_loopg [6, 7, 8, 12, 13, 14, 15, 16, 44] n2 (fun gg _ _ _ _ _ _ _ _ s44 wr => ∃ kk : Nat, ∃ L : List Sy, kk ≤ n2 ∧ n2 - kk ≤ gg ∧ s44 = .int .i64 (kk : Int) ∧ Aside (Gr w wr) ∧ Aside (wr.ownsRow w2.heap.size 25 4 (.slice (some ⟨g, 0, none⟩) n0 cap) n0 ((L.map encS).flatten)) ∧ Aside (L.length = n0) ∧ Aside (Ru.runs p S Y 0 = Ru.runs p L (Y.drop kk) (kk : Int)))
              case atStart => exact ⟨0, S, Nat.zero_le _, by omega, rfl, G3.out, O3.out, E0.out, (show Ru.runs p S Y 0 = Ru.runs p S (Y.drop 0) 0 by rw [List.drop_zero])⟩
              case round =>
                obtain ⟨kk, L, hkk, hgg, rfl, G, O, EL, RR⟩ := hrel
                by_cases hlt : kk < n2
                · have hltz : (kk : Int) < (n2 : Int) := by omega
                  obtain ⟨y, hy⟩ : ∃ y, Y[kk]? = some y := ⟨_, List.getElem?_eq_getElem (by rw [E2.out]; exact hlt)⟩
                  have l0 := (G.out.cell (p := ⟨b2, o2 + kk * 3 + 0, none⟩) HB2.out).trans (YX.out kk y hy 0 _ rfl)
                  have l1 := (G.out.cell (p := ⟨b2, o2 + kk * 3 + 1, none⟩) HB2.out).trans (YX.out kk y hy 1 _ rfl)
                  have l2 := (G.out.cell (p := ⟨b2, o2 + kk * 3 + 2, none⟩) HB2.out).trans (YX.out kk y hy 2 _ rfl)
                  simp only [Nat.add_zero] at l0
                  have RD : Hid (Ru.run p S Y = Ru.runs p L (y :: Y.drop (kk + 1)) (kk : Int)) := by
                    show _ = _
                    rw [R.out, RR.out]
                    congr 1
                    rw [List.drop_eq_getElem_cons (by rw [E2.out]; exact hlt)]
                    congr 1
                    rw [List.getElem?_eq_getElem (by rw [E2.out]; exact hlt)] at hy
                    exact Option.some.inj hy
                  clear hy
                  by_cases hbad : y.n < 1 ∨ (n0 : Int) ≤ y.n
                  · have RB : Hid (Ru.run p S Y = ([], (kk : Int), 7)) := RD.out.trans (Ru.runs_bad (by rw [EL.out]; exact hbad))
                    rcases hbad with h1 | h1
                    · go_wp2_with fail
                      go_ret3
                      exact ⟨.slice none 0 0, ret_vii rfl (by rw [RB.out]) (by rw [RB.out]), by rw [RB.out]; exact Rows.nil _ _, G.out.alloc _⟩
                    · have h2 : ¬ y.n < 1 := by omega
                      go_wp2_with fail
                      go_ret3
                      exact ⟨.slice none 0 0, ret_vii rfl (by rw [RB.out]) (by rw [RB.out]), by rw [RB.out]; exact Rows.nil _ _, G.out.alloc _⟩
                  · have HBAD := Lib.hid hbad
                    obtain ⟨a, ha⟩ : ∃ a : Nat, y.n = (a : Int) := ⟨y.n.toNat, by omega⟩
                    have a1 : 1 ≤ a := by omega
                    have a2 : a < n0 := by omega
                    have hya : Hid (y.n.toNat = a) := by show _ = _; omega
                    rw [ha] at l0
                    obtain ⟨q, q1', q2'⟩ := PAR.out (a - 1) (by omega)
                    rw [show a - 1 + 1 = a by omega] at q2'
                    have CQ : Hid (Ru.cor1 p L y = Ru.stp (Ru.gt L a) (Ru.gt L q).o (Ru.gt L q).d y.t y.a) := by
                      show Ru.stp _ _ _ _ _ = _
                      rw [hya.out, q2']; rfl
                    clear hbad ha
                    generalize hx : Ru.gt L a = x at CQ
                    generalize hz : Ru.gt L q = z at CQ
                    have gc := gt_cell O.out EL.out a a2
                    have zc := gt_cell O.out EL.out q q1'
                    rw [hx] at gc
                    rw [hz] at zc
                    obtain ⟨x0, x1, x2, x3⟩ := gc
                    obtain ⟨z0, z1, -, -⟩ := zc
                    have pc := (G.out.cell (p := ⟨b, off + a, none⟩) HB.out).trans (PCX.out a a2)
                    rw [q2'] at pc
                    clear hx hz q2'
                    rcases Bool.eq_false_or_eq_true y.a with hya2 | hya2
                    · rw [hya2] at CQ l2
                      clear hya2
                      go_wp2_with fail
                      obtain ⟨w4, hw4⟩ : ∃ w4, w4 = wr.alloc (Obj.cells #[.int .i64 (a : Int), .int .i64 y.t, .bool true] 54) := ⟨_, rfl⟩
                      rw [← hw4]
                      have G4 : Gr wr w4 := by rw [hw4]; exact Gr.alloc (Gr.refl wr) _
                      have bw : g < wr.heap.size := block_lt_of_cell x0
                      have bp : b < wr.heap.size := block_lt_of_cell pc
                      have m0 : w4.cell? ⟨wr.heap.size, 0, none⟩ = some (.int .i64 (a : Int)) := by rw [hw4]; go_simp
                      have m1 : w4.cell? ⟨wr.heap.size, 1, none⟩ = some (.int .i64 y.t) := by rw [hw4]; go_simp
                      have KG : Aside (∀ W, Gr w4 W → (Gr w4 W ∧ W.cell? ⟨wr.heap.size, 0, none⟩ = some (.int .i64 (a : Int)) ∧ W.cell? ⟨wr.heap.size, 1, none⟩ = some (.int .i64 y.t) ∧ W.cell? ⟨g, a * 4, none⟩ = some (.int .i64 x.o) ∧ W.cell? ⟨g, a * 4 + 1, none⟩ = some (.int .i64 x.d) ∧ W.cell? ⟨g, a * 4 + 2, none⟩ = some (.int .i64 x.s) ∧ W.cell? ⟨g, a * 4 + 3, none⟩ = some (.int .i64 x.c) ∧ W.cell? ⟨g, q * 4, none⟩ = some (.int .i64 z.o) ∧ W.cell? ⟨g, q * 4 + 1, none⟩ = some (.int .i64 z.d) ∧ W.cell? ⟨b, off + a, none⟩ = some (.int .i64 (q : Int)))) := fun W gW =>
                        ⟨gW, gr_keep gW m0, gr_keep gW m1, gr_keep gW (gr_keep G4 x0), gr_keep gW (gr_keep G4 x1), gr_keep gW (gr_keep G4 x2), gr_keep gW (gr_keep G4 x3), gr_keep gW (gr_keep G4 z0), gr_keep gW (gr_keep G4 z1), gr_keep gW (gr_keep G4 pc)⟩
                      have i1 : (a : Int) < (n0 : Int) := by omega
                      have i2 : (0 : Int) ≤ (a : Int) := by omega
                      have i3 : (q : Int) < (n0 : Int) := by omega
                      have i4 : (0 : Int) ≤ (q : Int) := by omega
                      have mixed : Try.prog.follows .mixedOrders = true := by kernel_rfl
                      have CALL := fun W => isAcked_any x z.o z.d y.t W
                      have CQ2 : Ru.stp x z.o z.d y.t true = Ru.ak x z.o z.d y.t := rfl
                      rw [CQ2] at CQ
                      generalize Ru.ak x z.o z.d y.t = qq at CQ CALL
                      have M0 := Lib.hid m0
                      have HW4 := Lib.hid hw4
                      have GX : Aside (Gr w w4) := G.out.trans G4
                      clear x0 x1 x2 x3 z0 z1 pc m0 m1 hw4 CQ2
                      go_region_held3 (fun W => Gr w4 W ∧ W.cell? ⟨wr.heap.size, 0, none⟩ = some (.int .i64 (a : Int)) ∧ W.cell? ⟨wr.heap.size, 1, none⟩ = some (.int .i64 y.t) ∧ W.cell? ⟨g, a * 4, none⟩ = some (.int .i64 x.o) ∧ W.cell? ⟨g, a * 4 + 1, none⟩ = some (.int .i64 x.d) ∧ W.cell? ⟨g, a * 4 + 2, none⟩ = some (.int .i64 x.s) ∧ W.cell? ⟨g, a * 4 + 3, none⟩ = some (.int .i64 x.c) ∧ W.cell? ⟨g, q * 4, none⟩ = some (.int .i64 z.o) ∧ W.cell? ⟨g, q * 4 + 1, none⟩ = some (.int .i64 z.d) ∧ W.cell? ⟨b, off + a, none⟩ = some (.int .i64 (q : Int))) ((refine KG.out _ ?_; (repeat (first | assumption | exact And.left (by assumption) | exact Gr.refl _ | refine Gr.drew ?_ | refine Gr.alloc ?_ _ | refine Gr.setCell ?_ (by first | exact Nat.le_refl _ | omega) _ | refine Gr.trans ?_ (by assumption))))) ((go_at_call 56; refine (CALL _).mono ?_; rintro e w9 ⟨rfl, g9⟩; (first | (have ff := fresh4 g9; obtain ⟨⟨c0, c1, c2, c3⟩, f9⟩ := ff) | skip)))
                      · obtain ⟨gq, m5, -, k0, k1, k2, k3, -, -, -⟩ := (‹Gr w4 _ ∧ _›)
                        obtain ⟨r0, r1, r2, r3⟩ := made4 w9 25 (.int .i64 qq.o) (.int .i64 qq.d) (.int .i64 qq.s) (.int .i64 qq.c)
                        generalize (w9.alloc (Obj.cells #[.int .i64 qq.o, .int .i64 qq.d, .int .i64 qq.s, .int .i64 qq.c] 25)) = w5 at gq m5 k0 k1 k2 k3 r0 r1 r2 r3 ⊢
                        generalize w9.heap.size = pb at r0 r1 r2 r3 ⊢
                        clear g9
                        have O5 := Lib.hid (owns_gr O.out (G4.trans gq))
                        have fz := fun j => O5.out.frozenAt j
                        have G5 := Lib.hid (GX.out.trans gq)
                        have hgw : w.heap.size ≤ g := Nat.le_trans GB.out hgb
                        have RC := Lib.hid CQ
                        clear CQ CALL G4
                        by_cases he : qq.e = 0
                        · have RG : Hid (Ru.run p S Y = Ru.runs p (L.set a (Ru.sy qq)) (Y.drop (kk + 1)) ((kk + 1 : Nat) : Int)) := by
                            show _ = _
                            rw [RD.out, Ru.runs_go (by rw [EL.out]; exact HBAD.out) (by rw [RC.out]; exact he), RC.out, hya.out]
                            rfl
                          go_wp2_with fail
                          go_roundg (n2 - (kk + 1))
                          case measure => omega
                          case rel => exact ⟨kk + 1, L.set a (Ru.sy qq), by omega, by omega, by go_num, (by show Gr _ _; (repeat (first | (with_reducible exact (G5).out) | (with_reducible refine Gr.alloc ?_ _) | ((with_reducible refine Gr.setCell ?_ ?_ _); rotate_left; exact hgw)))), owns_store O5.out EL.out a a2 (Ru.sy qq), (show (L.set a (Ru.sy qq)).length = n0 by rw [List.length_set]; exact EL.out), by rw [← R.out]; exact RG.out⟩
                        · have hb : (qq.e != 0) = true := by simpa using he
                          have RB : Hid (Ru.run p S Y = ([], (kk : Int), qq.e)) := by
                            show _ = _
                            rw [RD.out, Ru.runs_no (by rw [EL.out]; exact HBAD.out) (by rw [RC.out]; exact he), RC.out]
                          clear he
                          go_wp2_with fail
                          go_ret3
                          exact ⟨.slice none 0 0, ret_vii rfl (by rw [RB.out]) (by rw [RB.out]), by rw [RB.out]; exact Rows.nil _ _, (by show Gr _ _; (repeat (first | (with_reducible exact (G5).out) | (with_reducible refine Gr.alloc ?_ _) | ((with_reducible refine Gr.setCell ?_ ?_ _); rotate_left; exact hgw))))⟩
                      · obtain ⟨gq, m5, -, k0, k1, k2, k3, -, -, -⟩ := (‹Gr w4 _ ∧ _›)
                        obtain ⟨r0, r1, r2, r3⟩ := read4 (.int .i64 qq.o) (.int .i64 qq.d) (.int .i64 qq.s) (.int .i64 qq.c) c0 c1 c2 c3
                        clear c0 c1 c2 c3 f9
                        generalize ((((w9.setCell ⟨w4.heap.size, 0, none⟩ (.int .i64 qq.o)).setCell ⟨w4.heap.size, 1, none⟩ (.int .i64 qq.d)).setCell ⟨w4.heap.size, 2, none⟩ (.int .i64 qq.s)).setCell ⟨w4.heap.size, 3, none⟩ (.int .i64 qq.c)) = w5 at gq m5 k0 k1 k2 k3 r0 r1 r2 r3 ⊢
                        generalize w4.heap.size = pb at r0 r1 r2 r3 ⊢
                        clear g9
                        have O5 := Lib.hid (owns_gr O.out (G4.trans gq))
                        have fz := fun j => O5.out.frozenAt j
                        have G5 := Lib.hid (GX.out.trans gq)
                        have hgw : w.heap.size ≤ g := Nat.le_trans GB.out hgb
                        have RC := Lib.hid CQ
                        clear CQ CALL G4
                        by_cases he : qq.e = 0
                        · have RG : Hid (Ru.run p S Y = Ru.runs p (L.set a (Ru.sy qq)) (Y.drop (kk + 1)) ((kk + 1 : Nat) : Int)) := by
                            show _ = _
                            rw [RD.out, Ru.runs_go (by rw [EL.out]; exact HBAD.out) (by rw [RC.out]; exact he), RC.out, hya.out]
                            rfl
                          go_wp2_with fail
                          go_roundg (n2 - (kk + 1))
                          case measure => omega
                          case rel => exact ⟨kk + 1, L.set a (Ru.sy qq), by omega, by omega, by go_num, (by show Gr _ _; (repeat (first | (with_reducible exact (G5).out) | (with_reducible refine Gr.alloc ?_ _) | ((with_reducible refine Gr.setCell ?_ ?_ _); rotate_left; exact hgw)))), owns_store O5.out EL.out a a2 (Ru.sy qq), (show (L.set a (Ru.sy qq)).length = n0 by rw [List.length_set]; exact EL.out), by rw [← R.out]; exact RG.out⟩
                        · have hb : (qq.e != 0) = true := by simpa using he
                          have RB : Hid (Ru.run p S Y = ([], (kk : Int), qq.e)) := by
                            show _ = _
                            rw [RD.out, Ru.runs_no (by rw [EL.out]; exact HBAD.out) (by rw [RC.out]; exact he), RC.out]
                          clear he
                          go_wp2_with fail
                          go_ret3
                          exact ⟨.slice none 0 0, ret_vii rfl (by rw [RB.out]) (by rw [RB.out]), by rw [RB.out]; exact Rows.nil _ _, (by show Gr _ _; (repeat (first | (with_reducible exact (G5).out) | (with_reducible refine Gr.alloc ?_ _) | ((with_reducible refine Gr.setCell ?_ ?_ _); rotate_left; exact hgw))))⟩
                    · rw [hya2] at CQ l2
                      clear hya2
                      go_wp2_with fail
                      obtain ⟨w4, hw4⟩ : ∃ w4, w4 = wr.alloc (Obj.cells #[.int .i64 (a : Int), .int .i64 y.t, .bool false] 54) := ⟨_, rfl⟩
                      rw [← hw4]
                      have G4 : Gr wr w4 := by rw [hw4]; exact Gr.alloc (Gr.refl wr) _
                      have bw : g < wr.heap.size := block_lt_of_cell x0
                      have bp : b < wr.heap.size := block_lt_of_cell pc
                      have m0 : w4.cell? ⟨wr.heap.size, 0, none⟩ = some (.int .i64 (a : Int)) := by rw [hw4]; go_simp
                      have m1 : w4.cell? ⟨wr.heap.size, 1, none⟩ = some (.int .i64 y.t) := by rw [hw4]; go_simp
                      have KG : Aside (∀ W, Gr w4 W → (Gr w4 W ∧ W.cell? ⟨wr.heap.size, 0, none⟩ = some (.int .i64 (a : Int)) ∧ W.cell? ⟨wr.heap.size, 1, none⟩ = some (.int .i64 y.t) ∧ W.cell? ⟨g, a * 4, none⟩ = some (.int .i64 x.o) ∧ W.cell? ⟨g, a * 4 + 1, none⟩ = some (.int .i64 x.d) ∧ W.cell? ⟨g, a * 4 + 2, none⟩ = some (.int .i64 x.s) ∧ W.cell? ⟨g, a * 4 + 3, none⟩ = some (.int .i64 x.c) ∧ W.cell? ⟨g, q * 4, none⟩ = some (.int .i64 z.o) ∧ W.cell? ⟨g, q * 4 + 1, none⟩ = some (.int .i64 z.d) ∧ W.cell? ⟨b, off + a, none⟩ = some (.int .i64 (q : Int)))) := fun W gW =>
                        ⟨gW, gr_keep gW m0, gr_keep gW m1, gr_keep gW (gr_keep G4 x0), gr_keep gW (gr_keep G4 x1), gr_keep gW (gr_keep G4 x2), gr_keep gW (gr_keep G4 x3), gr_keep gW (gr_keep G4 z0), gr_keep gW (gr_keep G4 z1), gr_keep gW (gr_keep G4 pc)⟩
                      have i1 : (a : Int) < (n0 : Int) := by omega
                      have i2 : (0 : Int) ≤ (a : Int) := by omega
                      have i3 : (q : Int) < (n0 : Int) := by omega
                      have i4 : (0 : Int) ≤ (q : Int) := by omega
                      have mixed : Try.prog.follows .mixedOrders = true := by kernel_rfl
                      have CALL := fun W => hears_any x z.o z.d y.t W
                      have CQ2 : Ru.stp x z.o z.d y.t false = Ru.hr x z.o z.d y.t := rfl
                      rw [CQ2] at CQ
                      generalize Ru.hr x z.o z.d y.t = qq at CQ CALL
                      have M0 := Lib.hid m0
                      have HW4 := Lib.hid hw4
                      have GX : Aside (Gr w w4) := G.out.trans G4
                      clear x0 x1 x2 x3 z0 z1 pc m0 m1 hw4 CQ2
                      go_region_held3 (fun W => Gr w4 W ∧ W.cell? ⟨wr.heap.size, 0, none⟩ = some (.int .i64 (a : Int)) ∧ W.cell? ⟨wr.heap.size, 1, none⟩ = some (.int .i64 y.t) ∧ W.cell? ⟨g, a * 4, none⟩ = some (.int .i64 x.o) ∧ W.cell? ⟨g, a * 4 + 1, none⟩ = some (.int .i64 x.d) ∧ W.cell? ⟨g, a * 4 + 2, none⟩ = some (.int .i64 x.s) ∧ W.cell? ⟨g, a * 4 + 3, none⟩ = some (.int .i64 x.c) ∧ W.cell? ⟨g, q * 4, none⟩ = some (.int .i64 z.o) ∧ W.cell? ⟨g, q * 4 + 1, none⟩ = some (.int .i64 z.d) ∧ W.cell? ⟨b, off + a, none⟩ = some (.int .i64 (q : Int))) ((refine KG.out _ ?_; (repeat (first | assumption | exact And.left (by assumption) | exact Gr.refl _ | refine Gr.drew ?_ | refine Gr.alloc ?_ _ | refine Gr.setCell ?_ (by first | exact Nat.le_refl _ | omega) _ | refine Gr.trans ?_ (by assumption))))) ((go_at_call 55; refine (CALL _).mono ?_; rintro e w9 ⟨rfl, g9⟩; (first | (have ff := fresh4 g9; obtain ⟨⟨c0, c1, c2, c3⟩, f9⟩ := ff) | skip)))
                      · obtain ⟨gq, m5, -, k0, k1, k2, k3, -, -, -⟩ := (‹Gr w4 _ ∧ _›)
                        obtain ⟨r0, r1, r2, r3⟩ := made4 w9 25 (.int .i64 qq.o) (.int .i64 qq.d) (.int .i64 qq.s) (.int .i64 qq.c)
                        generalize (w9.alloc (Obj.cells #[.int .i64 qq.o, .int .i64 qq.d, .int .i64 qq.s, .int .i64 qq.c] 25)) = w5 at gq m5 k0 k1 k2 k3 r0 r1 r2 r3 ⊢
                        generalize w9.heap.size = pb at r0 r1 r2 r3 ⊢
                        clear g9
                        have O5 := Lib.hid (owns_gr O.out (G4.trans gq))
                        have fz := fun j => O5.out.frozenAt j
                        have G5 := Lib.hid (GX.out.trans gq)
                        have hgw : w.heap.size ≤ g := Nat.le_trans GB.out hgb
                        have RC := Lib.hid CQ
                        clear CQ CALL G4
                        by_cases he : qq.e = 0
                        · have RG : Hid (Ru.run p S Y = Ru.runs p (L.set a (Ru.sy qq)) (Y.drop (kk + 1)) ((kk + 1 : Nat) : Int)) := by
                            show _ = _
                            rw [RD.out, Ru.runs_go (by rw [EL.out]; exact HBAD.out) (by rw [RC.out]; exact he), RC.out, hya.out]
                            rfl
                          go_wp2_with fail
                          go_roundg (n2 - (kk + 1))
                          case measure => omega
                          case rel => exact ⟨kk + 1, L.set a (Ru.sy qq), by omega, by omega, by go_num, (by show Gr _ _; (repeat (first | (with_reducible exact (G5).out) | (with_reducible refine Gr.alloc ?_ _) | ((with_reducible refine Gr.setCell ?_ ?_ _); rotate_left; exact hgw)))), owns_store O5.out EL.out a a2 (Ru.sy qq), (show (L.set a (Ru.sy qq)).length = n0 by rw [List.length_set]; exact EL.out), by rw [← R.out]; exact RG.out⟩
                        · have hb : (qq.e != 0) = true := by simpa using he
                          have RB : Hid (Ru.run p S Y = ([], (kk : Int), qq.e)) := by
                            show _ = _
                            rw [RD.out, Ru.runs_no (by rw [EL.out]; exact HBAD.out) (by rw [RC.out]; exact he), RC.out]
                          clear he
                          go_wp2_with fail
                          go_ret3
                          exact ⟨.slice none 0 0, ret_vii rfl (by rw [RB.out]) (by rw [RB.out]), by rw [RB.out]; exact Rows.nil _ _, (by show Gr _ _; (repeat (first | (with_reducible exact (G5).out) | (with_reducible refine Gr.alloc ?_ _) | ((with_reducible refine Gr.setCell ?_ ?_ _); rotate_left; exact hgw))))⟩
                      · obtain ⟨gq, m5, -, k0, k1, k2, k3, -, -, -⟩ := (‹Gr w4 _ ∧ _›)
                        obtain ⟨r0, r1, r2, r3⟩ := read4 (.int .i64 qq.o) (.int .i64 qq.d) (.int .i64 qq.s) (.int .i64 qq.c) c0 c1 c2 c3
                        clear c0 c1 c2 c3 f9
                        generalize ((((w9.setCell ⟨w4.heap.size, 0, none⟩ (.int .i64 qq.o)).setCell ⟨w4.heap.size, 1, none⟩ (.int .i64 qq.d)).setCell ⟨w4.heap.size, 2, none⟩ (.int .i64 qq.s)).setCell ⟨w4.heap.size, 3, none⟩ (.int .i64 qq.c)) = w5 at gq m5 k0 k1 k2 k3 r0 r1 r2 r3 ⊢
                        generalize w4.heap.size = pb at r0 r1 r2 r3 ⊢
                        clear g9
                        have O5 := Lib.hid (owns_gr O.out (G4.trans gq))
                        have fz := fun j => O5.out.frozenAt j
                        have G5 := Lib.hid (GX.out.trans gq)
                        have hgw : w.heap.size ≤ g := Nat.le_trans GB.out hgb
                        have RC := Lib.hid CQ
                        clear CQ CALL G4
                        by_cases he : qq.e = 0
                        · have RG : Hid (Ru.run p S Y = Ru.runs p (L.set a (Ru.sy qq)) (Y.drop (kk + 1)) ((kk + 1 : Nat) : Int)) := by
                            show _ = _
                            rw [RD.out, Ru.runs_go (by rw [EL.out]; exact HBAD.out) (by rw [RC.out]; exact he), RC.out, hya.out]
                            rfl
                          go_wp2_with fail
                          go_roundg (n2 - (kk + 1))
                          case measure => omega
                          case rel => exact ⟨kk + 1, L.set a (Ru.sy qq), by omega, by omega, by go_num, (by show Gr _ _; (repeat (first | (with_reducible exact (G5).out) | (with_reducible refine Gr.alloc ?_ _) | ((with_reducible refine Gr.setCell ?_ ?_ _); rotate_left; exact hgw)))), owns_store O5.out EL.out a a2 (Ru.sy qq), (show (L.set a (Ru.sy qq)).length = n0 by rw [List.length_set]; exact EL.out), by rw [← R.out]; exact RG.out⟩
                        · have hb : (qq.e != 0) = true := by simpa using he
                          have RB : Hid (Ru.run p S Y = ([], (kk : Int), qq.e)) := by
                            show _ = _
                            rw [RD.out, Ru.runs_no (by rw [EL.out]; exact HBAD.out) (by rw [RC.out]; exact he), RC.out]
                          clear he
                          go_wp2_with fail
                          go_ret3
                          exact ⟨.slice none 0 0, ret_vii rfl (by rw [RB.out]) (by rw [RB.out]), by rw [RB.out]; exact Rows.nil _ _, (by show Gr _ _; (repeat (first | (with_reducible exact (G5).out) | (with_reducible refine Gr.alloc ?_ _) | ((with_reducible refine Gr.setCell ?_ ?_ _); rotate_left; exact hgw))))⟩
                · have hge : ¬ (kk : Int) < (n2 : Int) := by omega
                  have hdrop : Y.drop kk = [] := List.drop_eq_nil_of_le (by rw [E2.out]; omega)
                  have RF : Hid (Ru.run p S Y = Ru.runs p L [] (kk : Int)) := by
                    show _ = _
                    rw [R.out, RR.out, hdrop]
                  clear hdrop
                  go_wp2_with fail
                  go_ret3
                  exact ⟨.slice (some ⟨g, 0, none⟩) n0 cap, ret_vii rfl (by rw [RF.out]; rfl) (by rw [RF.out]; rfl), by rw [RF.out]; exact rows_S O.out EL.out, G.out⟩
        · have cL : (!decide (Ru.okL S)) = true := by rw [decide_eq_false hL]; rfl
          rw [cL] at CON
          have q1 : ((n0 : Int) != (n1 : Int)) = false := by rw [bne_eq_false_iff_eq]; omega
          have q2 : ¬ (1024 : Int) < (n2 : Int) := by omega
          have R := Lib.hid (NO.out (fun h => hL h.2.2.2))
          clear hD hL d1 cL
          subst hl
          go_enter Try.func26, Try.ntmps26
          go_wp2_with fail
          refine (DEP _ (Gr.refl w)).mono ?_
          rintro e w1 ⟨vd, rfl, Rd, g1⟩
          go_wp2_with fail
          refine (CON _ g1).mono ?_
          rintro e w2 ⟨rfl, g2⟩
          go_wp2_with fail
          go_ret3
          exact ⟨.slice none 0 0, ret_vii rfl (by rw [R.out]) (by rw [R.out]), by rw [R.out]; exact Rows.nil _ _, g1.trans g2⟩
      · have q1 : ((n0 : Int) != (n1 : Int)) = false := by rw [bne_eq_false_iff_eq]; omega
        have q2 : (1024 : Int) < (n2 : Int) := by omega
        have R := Lib.hid (NO.out (fun h => hy (by rw [← E2.out]; exact h.2.2.1)))
        clear hD d1
        go_enter Try.func26, Try.ntmps26
        go_wp2_with fail
        refine (DEP _ (Gr.refl w)).mono ?_
        rintro e w1 ⟨vd, rfl, Rd, g1⟩
        go_wp2_with fail
        go_ret3
        exact ⟨.slice none 0 0, ret_vii rfl (by rw [R.out]) (by rw [R.out]), by rw [R.out]; exact Rows.nil _ _, g1⟩
    · have q1 : ((n0 : Int) != (n1 : Int)) = true := by rw [bne_iff_ne]; omega
      have R := Lib.hid (NO.out (fun h => hl (by rw [← E0.out, ← E1.out]; exact h.2.1)))
      clear hD d1
      go_enter Try.func26, Try.ntmps26
      go_wp2_with fail
      refine (DEP _ (Gr.refl w)).mono ?_
      rintro e w1 ⟨vd, rfl, Rd, g1⟩
      go_wp2_with fail
      go_ret3
      exact ⟨.slice none 0 0, ret_vii rfl (by rw [R.out]) (by rw [R.out]), by rw [R.out]; exact Rows.nil _ _, g1⟩
  · have d1 := (Dp.d_no hD).1
    rw [d1] at DEP
    have R := Lib.hid (NO.out (fun h => hD h.1))
    clear hD
    go_enter Try.func26, Try.ntmps26
    go_wp2_with fail
    refine (DEP _ (Gr.refl w)).mono ?_
    rintro e w1 ⟨vd, rfl, Rd, g1⟩
    go_wp2_with fail
    go_ret3
    exact ⟨.slice none 0 0, ret_vii rfl (by rw [R.out]) (by rw [R.out]), by rw [R.out]; exact Rows.nil _ _, g1⟩
end Go.Proofs.Ytjiaemmhjkhdhaa
