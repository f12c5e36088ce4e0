/- The contract of timesync.Spread. -/
import Derived.Test.YtjiaemmhjkhdhaaRunB
import Derived.Test.YtjiaemmhjkhdhaaIndexS
import Derived.Test.YtjiaemmhjkhdhaaClkC
import Derived.Test.YtjiaemmhjkhdhaaSpdPlain
import Derived.Test.YtjiaemmhjkhdhaaHeld
namespace Go.Proofs.Ytjiaemmhjkhdhaa
open Go.RowKit Go.Sort
set_option linter.unusedVariables false

theorem made4c (w : World) (t : TypeId) (a b c d : Value) :
    (w.alloc (Obj.cells #[a, b, c, d] t)).cell? ⟨w.heap.size, 0, none⟩ = some a ∧ (w.alloc (Obj.cells #[a, b, c, d] t)).cell? ⟨w.heap.size, 1, none⟩ = some b := by
  refine ⟨?_, ?_⟩ <;> go_simp

set_option maxHeartbeats 8000000 in
set_option maxRecDepth 100000 in
theorem spread_any (v : Value) (l : List Sy) (t : Int) (w : World) (h : Rows 4 encS w v l) (hbig : (l.length : Int) ≤ 4611686018427387904) (hcap : ∀ A m c, v = .slice A m c → m ≤ c) :
    Calls Try.prog 34 #[v, .int .i64 t] w fun e w' => e = .returned (.tuple #[.int .i64 (Ru.sprN l t), .int .i64 (Ru.sprE l t)]) ∧ Gr w w' := by
  obtain ⟨A, C, rfl⟩ := h.slice
  obtain ⟨n, hn⟩ : ∃ n, l.length = n := ⟨_, rfl⟩
  have H : Hid (Rows 4 encS w (.slice A n C) l) := by rw [hn] at h; exact h
  rw [hn] at hbig hcap ⊢
  have HN := Lib.hid hn
  have hnc : n ≤ C := hcap _ _ _ rfl
  clear h hn hcap
  have CON := fun W g => containsS_any 59 #[] badS (.slice A n C) l W (H.out.gr (w := W) g) (by rw [HN.out]; exact hbig) (enters_of Try.func59 (by kernel_rfl) rfl) (fun W2 i x _ _ => spread1_any x W2)
  rw [okL_any] at CON
  by_cases hbn : 32 < n
  · have z : (32 : Int) < (n : Int) := by omega
    have R : Hid (Ru.sprN l t = 0 ∧ Ru.sprE l t = 1) := by
      have := HN.out
      refine ⟨?_, ?_⟩
      · unfold Ru.sprN; rw [if_neg (by omega)]
      · unfold Ru.sprE; rw [if_neg (by omega)]
    clear CON
    go_enter Try.func34, Try.ntmps34
    go_wp2_with fail
    go_ret2
    exact ⟨ret_int2 R.out.1.symm R.out.2.symm, Gr.refl _⟩
  · have z : ¬ (32 : Int) < (n : Int) := by omega
    by_cases hL : Ru.okL l
    · have OKL := Lib.hid hL
      have cL : (!decide (Ru.okL l)) = false := by rw [decide_eq_true hL]; rfl
      rw [cL] at CON
      clear hL cL
      by_cases ht : 0 ≤ t ∧ t ≤ 1099511627776
      · have RR : Hid (Ru.sprN l t = Ru.spr l t ∧ Ru.sprE l t = 0) := by
          have h2 := HN.out
          refine ⟨?_, ?_⟩
          · unfold Ru.sprN; rw [if_pos ⟨by omega, OKL.out, ht⟩]
          · unfold Ru.sprE; rw [if_pos ⟨by omega, OKL.out⟩, if_pos ht]
        have t0 : ¬ t < 0 := by omega
        have t1 : ¬ 1099511627776 < t := by omega
        have HT := Lib.hid ht
        have SC : Aside (n = 0 ∨ ∃ b off, A = some ⟨b, off, none⟩ ∧ b < w.heap.size ∧ ∀ i x, l[i]? = some x → ∀ j u, (encS x)[j]? = some u → w.cell? ⟨b, off + i * 4 + j, none⟩ = some u) := by
          rcases H.out with ⟨hp, _⟩ | ⟨b, off, c', hb, hv, hc⟩
          · left; rw [← HN.out, hp]; rfl
          · simp only [Value.slice.injEq] at hv
            exact .inr ⟨b, off, hv.1, hb, hc⟩
        clear ht
        go_enter Try.func34, Try.ntmps34
        go_wp2_with fail
        refine (CON _ (Gr.refl w)).mono ?_
        rintro e w1 ⟨rfl, g1⟩
        have G0 : Aside (Gr w w1) := g1
        clear CON g1
        go_wp2_with fail
        go_loopg [6, 7, 8, 10, 11, 12, 28] n (fun g s6 _ _ _ _ _ s28 wr => ∃ i : Nat, ∃ M : Int, i ≤ n ∧ n - i ≤ g ∧ s28 = .int .i64 (i : Int) ∧ s6 = .int .i64 M ∧ Aside (Gr w wr) ∧ Aside (Ru.PT l t i 0 M))
        case atStart => exact ⟨0, 0, Nat.zero_le _, by omega, rfl, rfl, G0.out, Ru.PT.start l t⟩
        case round =>
          obtain ⟨i, M, hi, hg, rfl, rfl, G, I⟩ := hrel
          by_cases hlt1 : i < n
          · have hltz1 : (i : Int) < (n : Int) := by omega
            rcases SC.out with h0 | ⟨b, off, rfl, hb, hc⟩
            · omega
            obtain ⟨x, hx⟩ : ∃ x, l[i]? = some x := ⟨_, List.getElem?_eq_getElem (by rw [HN.out]; exact hlt1)⟩
            have p0 := held_keep G.out (hc i x hx 0 _ rfl)
            have p1 := held_keep G.out (hc i x hx 1 _ rfl)
            have p2 := held_keep G.out (hc i x hx 2 _ rfl)
            have p3 := held_keep G.out (hc i x hx 3 _ rfl)
            simp only [Nat.add_zero] at p0
            have HX := Lib.hid hx
            have HC := Lib.hid hc
            have vx : Hid (Ck.Valid x.o x.d) := Ru.valid_of (OKL.out x (List.mem_of_getElem? hx)).1
            have i1 : (0 : Int) ≤ (i : Int) := by omega
            have i2 : (i : Int) ≤ (C : Int) := by omega
            have i3 : (i : Int) ≤ (n : Int) := by omega
            clear hx hc hb
            go_wp2_with fail
            obtain ⟨a0, a1⟩ := made4c wr 25 (.int .i64 x.o) (.int .i64 x.d) (.int .i64 x.s) (.int .i64 x.c)
            have A0 := Lib.hid a0
            have A1 := Lib.hid a1
            have G1 : Aside (Gr w (wr.alloc (Obj.cells #[.int .i64 x.o, .int .i64 x.d, .int .i64 x.s, .int .i64 x.c] 25))) := G.out.alloc _
            have I1 : Aside (Ru.PT l t i 0 M) := I.out
            generalize wr.alloc (Obj.cells #[.int .i64 x.o, .int .i64 x.d, .int .i64 x.s, .int .i64 x.c] 25) = wa at A0 A1 G1 ⊢
            generalize wr.heap.size = ba at A0 A1 ⊢
            clear G I p0 p1 p2 p3 a0 a1
            go_loopg [6, 10, 11, 12, 37] i (fun g s6 _ _ _ s37 wr => ∃ k : Nat, ∃ M : Int, k ≤ i ∧ i - k ≤ g ∧ s37 = .int .i64 (k : Int) ∧ s6 = .int .i64 M ∧ Aside (Gr wa wr) ∧ Aside (Ru.PT l t i k M))
            case atStart => exact ⟨0, M, Nat.zero_le _, by omega, rfl, rfl, Gr.refl _, I1.out⟩
            case round =>
              obtain ⟨k, M, hk, hg2, rfl, rfl, G, I⟩ := hrel
              clear I1
              by_cases hlt2 : k < i
              · have hltz2 : (k : Int) < (i : Int) := by omega
                obtain ⟨y, hy⟩ : ∃ y, l[k]? = some y := ⟨_, List.getElem?_eq_getElem (by rw [HN.out]; omega)⟩
                have vy := Ru.valid_of (OKL.out y (List.mem_of_getElem? hy)).1
                have q0 := held_keep G.out (held_keep G1.out (HC.out k y hy 0 _ rfl))
                have q1 := held_keep G.out (held_keep G1.out (HC.out k y hy 1 _ rfl))
                have q2 := held_keep G.out (held_keep G1.out (HC.out k y hy 2 _ rfl))
                have q3 := held_keep G.out (held_keep G1.out (HC.out k y hy 3 _ rfl))
                simp only [Nat.add_zero] at q0
                have c0 := held_keep G.out A0.out
                have c1 := held_keep G.out A1.out
                have hba : ba < wr.heap.size := block_lt_of_cell c0
                have HY := Lib.hid hy
                clear hy
                by_cases e0 : x.o = y.o
                · by_cases e1 : x.d = y.d
                  · have I2 : Hid (Ru.PT l t i (k + 1) M) := I.out.skip HX.out HY.out e0 e1
                    clear vy
                    go_wp2_with fail
                    go_roundg (i - (k + 1))
                    case measure => omega
                    case rel => exact ⟨k + 1, M, by omega, by omega, by go_num, rfl, G.out.alloc _, I2.out⟩
                  · have bx := Ck.sh_bd x.o x.d t vx.out HT.out.1 HT.out.2
                    have by' := Ck.sh_bd y.o y.d t vy HT.out.1 HT.out.2
                    have an : Ck.apaN x.o x.d y.o y.d t = Ru.df t y x := by
                      unfold Ck.apaN Ru.df
                      rw [if_pos ⟨Ck.chk_ok vx.out, Ck.chk_ok vy, HT.out⟩]
                    have wn : IntKind.i64.wrap (-(Ru.df t y x)) = -(Ru.df t y x) := IntWalk.i64_in _ (by unfold Ru.df; omega)
                    have AP := fun W => apart_any x.o x.d y.o y.d t W
                    have e0' : (x.o == y.o) = true := by simpa using e0
                    have e1' : (x.d == y.d) = false := by simpa using e1
                    clear e0 e1
                    clear vy bx by'
                    go_wp2_with fail
                    obtain ⟨b0, b1⟩ := made4c wr 25 (.int .i64 y.o) (.int .i64 y.d) (.int .i64 y.s) (.int .i64 y.c)
                    refine (AP _).mono ?_
                    rintro e w2 ⟨rfl, g2⟩
                    rw [an]
                    go_wp2_with fail
                    all_goals
                      go_roundg (i - (k + 1))
                      case measure => omega
                      case rel => exact ⟨k + 1, _, by omega, by omega, by go_num, rfl, (G.out.alloc _).trans g2, (show Ru.PT l t i (k + 1) _ from Ru.PT.to (I.out.step HX.out HY.out) (by omega))⟩
                · have bx := Ck.sh_bd x.o x.d t vx.out HT.out.1 HT.out.2
                  have by' := Ck.sh_bd y.o y.d t vy HT.out.1 HT.out.2
                  have an : Ck.apaN x.o x.d y.o y.d t = Ru.df t y x := by
                    unfold Ck.apaN Ru.df
                    rw [if_pos ⟨Ck.chk_ok vx.out, Ck.chk_ok vy, HT.out⟩]
                  have wn : IntKind.i64.wrap (-(Ru.df t y x)) = -(Ru.df t y x) := IntWalk.i64_in _ (by unfold Ru.df; omega)
                  have AP := fun W => apart_any x.o x.d y.o y.d t W
                  have e0' : (x.o == y.o) = false := by simpa using e0
                  clear e0
                  clear vy bx by'
                  go_wp2_with fail
                  obtain ⟨b0, b1⟩ := made4c wr 25 (.int .i64 y.o) (.int .i64 y.d) (.int .i64 y.s) (.int .i64 y.c)
                  refine (AP _).mono ?_
                  rintro e w2 ⟨rfl, g2⟩
                  rw [an]
                  go_wp2_with fail
                  all_goals
                    go_roundg (i - (k + 1))
                    case measure => omega
                    case rel => exact ⟨k + 1, _, by omega, by omega, by go_num, rfl, (G.out.alloc _).trans g2, (show Ru.PT l t i (k + 1) _ from Ru.PT.to (I.out.step HX.out HY.out) (by omega))⟩
              · have hltz2 : ¬ (k : Int) < (i : Int) := by omega
                have hkn : k = i := by omega
                have I2 : Hid (Ru.PT l t (i + 1) 0 M) := Ru.PT.row (by rw [hkn] at I; exact I.out)
                clear hkn
                go_wp2_with fail
                go_roundg (n - (i + 1))
                case measure => omega
                case rel => exact ⟨i + 1, M, by omega, by omega, by go_num, rfl, G1.out.trans G.out, I2.out⟩
          · have hltz1 : ¬ (i : Int) < (n : Int) := by omega
            have hin : i = n := by omega
            have D : Hid (M = Ru.spr l t) := Ru.PT.done (by rw [HN.out, ← hin]; exact I.out)
            clear hin
            go_wp2_with fail
            go_ret2
            exact ⟨ret_int2 (by rw [RR.out.1]; exact D.out) RR.out.2.symm, G.out⟩
      · have R : Hid (Ru.sprN l t = 0 ∧ Ru.sprE l t = 2) := by
          have h2 := HN.out
          refine ⟨?_, ?_⟩
          · unfold Ru.sprN; rw [if_neg (fun h => ht h.2.2)]
          · unfold Ru.sprE; rw [if_pos ⟨by omega, OKL.out⟩, if_neg ht]
        by_cases t0 : t < 0
        · clear ht
          go_enter Try.func34, Try.ntmps34
          go_wp2_with fail
          refine (CON _ (Gr.refl w)).mono ?_
          rintro e w1 ⟨rfl, g1⟩
          go_wp2_with fail
          go_ret2
          exact ⟨ret_int2 R.out.1.symm R.out.2.symm, g1⟩
        · have t1 : 1099511627776 < t := by omega
          clear ht
          go_enter Try.func34, Try.ntmps34
          go_wp2_with fail
          refine (CON _ (Gr.refl w)).mono ?_
          rintro e w1 ⟨rfl, g1⟩
          go_wp2_with fail
          go_ret2
          exact ⟨ret_int2 R.out.1.symm R.out.2.symm, g1⟩
    · have cL : (!decide (Ru.okL l)) = true := by rw [decide_eq_false hL]; rfl
      rw [cL] at CON
      have R : Hid (Ru.sprN l t = 0 ∧ Ru.sprE l t = 1) := by
        refine ⟨?_, ?_⟩
        · unfold Ru.sprN; rw [if_neg (fun h => hL h.2.1)]
        · unfold Ru.sprE; rw [if_neg (fun h => hL h.2)]
      clear hL cL
      go_enter Try.func34, Try.ntmps34
      go_wp2_with fail
      refine (CON _ (Gr.refl w)).mono ?_
      rintro e w1 ⟨rfl, g1⟩
      go_wp2_with fail
      go_ret2
      exact ⟨ret_int2 R.out.1.symm R.out.2.symm, g1⟩
end Go.Proofs.Ytjiaemmhjkhdhaa
