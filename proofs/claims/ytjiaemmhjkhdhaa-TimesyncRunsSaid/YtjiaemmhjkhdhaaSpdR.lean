/- The contract of the reference's Spread. -/
import Derived.Test.YtjiaemmhjkhdhaaR10A
import Derived.Test.YtjiaemmhjkhdhaaRunRow
import Derived.Test.YtjiaemmhjkhdhaaSpdPlain
import Derived.Test.YtjiaemmhjkhdhaaRet
import Derived.Test.YtjiaemmhjkhdhaaHeld
namespace Go.Proofs.Ytjiaemmhjkhdhaa
open Go.RowKit Go.Sort
set_option linter.unusedVariables false

set_option maxHeartbeats 8000000 in
set_option maxRecDepth 100000 in
theorem rspread_any (v : Value) (l : List Sy) (t : Int) (w : World) (h : Rows 4 encS w v l) (hbig : (l.length : Int) ≤ 4611686018427387904) :
    Calls Try.prog 35 #[v, .int .i64 t] w fun e w' => e = .returned (.tuple #[.int .i64 (Ru.sprN l t), .int .i64 (Ru.sprE l t)]) ∧ Gr w w' := by
  obtain ⟨A, C, rfl⟩ := h.slice
  obtain ⟨n, hn⟩ : ∃ n, l.length = n := ⟨_, rfl⟩
  have H : Hid (Rows 4 encS w (.slice A n C) l) := by rw [hn] at h; exact h
  rw [hn] at hbig ⊢
  have HN := Lib.hid hn
  clear h hn
  by_cases hbn : 32 < n
  · have z : (32 : Int) < (n : Int) := by omega
    have R : Hid (Ru.sprN l t = 0 ∧ Ru.sprE l t = 1) := by
      have := HN.out
      refine ⟨?_, ?_⟩
      · unfold Ru.sprN; rw [if_neg (by omega)]
      · unfold Ru.sprE; rw [if_neg (by omega)]
    go_enter Try.func35, Try.ntmps35
    go_wp2_with fail
    go_ret2
    exact ⟨ret_int2 R.out.1.symm R.out.2.symm, Gr.refl _⟩
  · have z : ¬ (32 : Int) < (n : Int) := by omega
    have SC : Aside (n = 0 ∨ ∃ b off, A = some ⟨b, off, none⟩ ∧ b < w.heap.size ∧ ∀ i x, l[i]? = some x → ∀ j u, (encS x)[j]? = some u → w.cell? ⟨b, off + i * 4 + j, none⟩ = some u) := by
      rcases H.out with ⟨hp, _⟩ | ⟨b, off, c', hb, hv, hc⟩
      · left; rw [← HN.out, hp]; rfl
      · simp only [Value.slice.injEq] at hv
        exact .inr ⟨b, off, hv.1, hb, hc⟩
    go_enter Try.func35, Try.ntmps35
    go_wp2_with fail
    go_loopg [4, 5, 6] n (fun g _ _ s6 wr => ∃ kk : Nat, kk ≤ n ∧ n - kk ≤ g ∧ s6 = .int .i64 (kk : Int) ∧ Aside (Gr w wr) ∧ Aside (∀ i x, i < kk → l[i]? = some x → Ru.okS x))
    case atStart => exact ⟨0, Nat.zero_le _, by omega, rfl, Gr.refl _, fun i x hi => absurd hi (Nat.not_lt_zero _)⟩
    case round =>
      obtain ⟨kk, hkk, hg, rfl, G, OK⟩ := hrel
      by_cases hlt : kk < n
      · have hltz : (kk : Int) < (n : Int) := by omega
        rcases SC.out with h0 | ⟨b, off, rfl, hb, hc⟩
        · omega
        obtain ⟨x, hx⟩ : ∃ x, l[kk]? = some x := ⟨_, List.getElem?_eq_getElem (by rw [HN.out]; exact hlt)⟩
        have q0 := held_keep G.out (hc kk x hx 0 _ rfl)
        have q1 := held_keep G.out (hc kk x hx 1 _ rfl)
        have q2 := held_keep G.out (hc kk x hx 2 _ rfl)
        have q3 := held_keep G.out (hc kk x hx 3 _ rfl)
        simp only [Nat.add_zero] at q0
        have HX := Lib.hid hx
        clear hc hx
        by_cases hk : Ru.okS x
        · have he : Ts.chkS x.o x.d x.s x.c = 0 := Ts.chkS_ok hk
          have HK := Lib.hid hk
          clear hk
          go_wp2_with fail
          refine (rtcheck_any _ _ _ _ _).mono ?_
          rintro e w1 ⟨rfl, g1⟩
          rw [he]
          go_wp2_with fail
          go_roundg (n - (kk + 1))
          case measure => omega
          case rel => exact ⟨kk + 1, by omega, by omega, by go_num, G.out.trans g1, (show ∀ i x, i < kk + 1 → l[i]? = some x → Ru.okS x from fun i y hi hy => by
            by_cases e : i = kk
            · subst e; rw [HX.out] at hy; obtain rfl := Option.some.inj hy; exact HK.out
            · exact OK.out i y (by omega) hy)⟩
        · have he : Ts.chkS x.o x.d x.s x.c = 1 := Ts.chkS_no hk
          have R : Hid (Ru.sprN l t = 0 ∧ Ru.sprE l t = 1) := by
            have hno : ¬ Ru.okL l := fun h => hk (h x (List.mem_of_getElem? HX.out))
            refine ⟨?_, ?_⟩
            · unfold Ru.sprN; rw [if_neg (fun h => hno h.2.1)]
            · unfold Ru.sprE; rw [if_neg (fun h => hno h.2)]
          clear hk
          go_wp2_with fail
          refine (rtcheck_any _ _ _ _ _).mono ?_
          rintro e w1 ⟨rfl, g1⟩
          rw [he]
          go_wp2_with fail
          go_ret2
          exact ⟨ret_int2 R.out.1.symm R.out.2.symm, G.out.trans g1⟩
      · have hltz : ¬ (kk : Int) < (n : Int) := by omega
        have OKL : Hid (Ru.okL l) := fun x hx => by
          obtain ⟨i, hi⟩ := List.mem_iff_getElem?.1 hx
          have := (List.getElem?_eq_some_iff.1 hi).1
          have h2 := HN.out
          exact OK.out i x (by omega) hi
        by_cases ht : 0 ≤ t ∧ t ≤ 1099511627776
        · have RR : Hid (Ru.sprN l t = Ru.spr l t ∧ Ru.sprE l t = 0) := by
            have h2 := HN.out
            refine ⟨?_, ?_⟩
            · unfold Ru.sprN; rw [if_pos ⟨by omega, OKL.out, ht⟩]
            · unfold Ru.sprE; rw [if_pos ⟨by omega, OKL.out⟩, if_pos ht]
          have bt : decide (0 ≤ t ∧ t ≤ 1099511627776) = true := decide_eq_true ht
          have HT := Lib.hid ht
          clear ht
          go_wp2_with fail
          refine (rtime_any _ _).mono ?_
          rintro e w1 ⟨rfl, rfl⟩
          rw [bt]
          go_wp2_with fail
          have G0 : Aside (Gr w w1) := G.out
          clear G OK hkk hg hltz bt
          go_loopg [7, 8, 9] n (fun g s7 s8 _ wr => ∃ i : Nat, ∃ M : Int, i ≤ n ∧ n - i ≤ g ∧ s8 = .int .i64 (i : Int) ∧ s7 = .int .i64 M ∧ Aside (Gr w wr) ∧ Aside (Ru.RT l t i 0 M))
          case atStart => exact ⟨0, 0, Nat.zero_le _, by omega, rfl, rfl, G0.out, Ru.RT.start l t⟩
          case round =>
            obtain ⟨i, M, hi, hg, rfl, rfl, G, I⟩ := hrel
            by_cases hlt1 : i < n
            · have hltz1 : (i : Int) < (n : Int) := by omega
              rcases SC.out with h0 | ⟨b, off, rfl, hb, hc⟩
              · omega
              obtain ⟨x, hx⟩ : ∃ x, l[i]? = some x := ⟨_, List.getElem?_eq_getElem (by rw [HN.out]; exact hlt1)⟩
              have HX := Lib.hid hx
              have HC := Lib.hid hc
              have HB := Lib.hid hb
              have vx : Hid (Ck.Valid x.o x.d) := Ru.valid_of (OKL.out x (List.mem_of_getElem? hx)).1
              clear hx hc hb
              go_wp2_with fail
              have G1 : Aside (Gr w wr) := G.out
              have I1 : Aside (Ru.RT l t i 0 M) := I.out
              clear G I
              go_loopg [7, 9] n (fun g s7 s9 wr => ∃ k : Nat, ∃ M : Int, k ≤ n ∧ n - k ≤ g ∧ s9 = .int .i64 (k : Int) ∧ s7 = .int .i64 M ∧ Aside (Gr w wr) ∧ Aside (Ru.RT l t i k M))
              case atStart => exact ⟨0, M, Nat.zero_le _, by omega, rfl, rfl, G1.out, I1.out⟩
              case round =>
                obtain ⟨k, M, hk, hg2, rfl, rfl, G, I⟩ := hrel
                clear G1 I1
                by_cases hlt2 : k < n
                · have hltz2 : (k : Int) < (n : Int) := by omega
                  obtain ⟨y, hy⟩ : ∃ y, l[k]? = some y := ⟨_, List.getElem?_eq_getElem (by rw [HN.out]; exact hlt2)⟩
                  have vy := Ru.valid_of (OKL.out y (List.mem_of_getElem? hy)).1
                  have bx := Ck.sh_bd x.o x.d t vx.out HT.out.1 HT.out.2
                  have by' := Ck.sh_bd y.o y.d t vy HT.out.1 HT.out.2
                  have p0 := held_keep G.out (HC.out i x HX.out 0 _ rfl)
                  have p1 := held_keep G.out (HC.out i x HX.out 1 _ rfl)
                  have q0 := held_keep G.out (HC.out k y hy 0 _ rfl)
                  have q1 := held_keep G.out (HC.out k y hy 1 _ rfl)
                  simp only [Nat.add_zero] at p0 q0
                  have p0' := fun d os => cell_regrown (w := wr) p0 d os
                  have p1' := fun d os => cell_regrown (w := wr) p1 d os
                  have q0' := fun d os => cell_regrown (w := wr) q0 d os
                  have q1' := fun d os => cell_regrown (w := wr) q1 d os
                  have ws : IntKind.i64.wrap (Ck.sh x.o x.d t - Ck.sh y.o y.d t) = Ck.sh x.o x.d t - Ck.sh y.o y.d t := IntWalk.i64_in _ (by omega)
                  have mixed : Try.prog.follows .mixedOrders = true := by kernel_rfl
                  have CA := fun W => rat_any x.o x.d t HT.out.1 HT.out.2 vx.out W
                  have CB := fun W => rat_any y.o y.d t HT.out.1 HT.out.2 vy W
                  have HY := Lib.hid hy
                  have z1 : (0 : Int) ≤ (i : Int) := by omega
                  have z2 : (0 : Int) ≤ (k : Int) := by omega
                  clear p0 p1 q0 q1 vy bx by' hy
                  go_wp2_with fail
                  refine wp_region_quiet_below (by assumption) (by kernel_rfl) ?_; (repeat (first | go_big_quiet_skip | quiet_step ((first | (go_at_call 47; with_reducible exact Gr.meet (CA _)) | (go_at_call 47; with_reducible exact Gr.meet (CB _)))))); refine wpQuiet_nil ?_; intro _ hw'; obtain ⟨⟨nq, osq⟩, hw''⟩ := hw'; subst hw''
                  go_wp2_with fail
                  go_roundg (n - (k + 1))
                  case measure => omega
                  case rel => exact ⟨k + 1, _, by omega, by omega, by go_num, rfl, Gr.regrown G.out nq osq, I.out.step HX.out HY.out⟩
                · have hltz2 : ¬ (k : Int) < (n : Int) := by omega
                  have hkn : k = n := by omega
                  have I2 : Hid (Ru.RT l t (i + 1) 0 M) := Ru.RT.row (by rw [HN.out, ← hkn]; exact I.out)
                  clear hkn
                  go_wp2_with fail
                  go_roundg (n - (i + 1))
                  case measure => omega
                  case rel => exact ⟨i + 1, M, by omega, by omega, by go_num, rfl, G.out, I2.out⟩
            · have hltz1 : ¬ (i : Int) < (n : Int) := by omega
              have hin : i = n := by omega
              have D : Hid (M = Ru.spr l t) := Ru.RT.done (by rw [HN.out, ← hin]; exact I.out)
              clear hin
              go_wp2_with fail
              go_ret2
              exact ⟨ret_int2 (by rw [RR.out.1]; exact D.out) RR.out.2.symm, G.out⟩
        · have R : Hid (Ru.sprN l t = 0 ∧ Ru.sprE l t = 2) := by
            have h2 := HN.out
            refine ⟨?_, ?_⟩
            · unfold Ru.sprN; rw [if_neg (fun h => ht h.2.2)]
            · unfold Ru.sprE; rw [if_pos ⟨by omega, OKL.out⟩, if_neg ht]
          have bt : decide (0 ≤ t ∧ t ≤ 1099511627776) = false := decide_eq_false ht
          clear ht
          go_wp2_with fail
          refine (rtime_any _ _).mono ?_
          rintro e w1 ⟨rfl, rfl⟩
          rw [bt]
          go_wp2_with fail
          go_ret2
          exact ⟨ret_int2 R.out.1.symm R.out.2.symm, G.out⟩
end Go.Proofs.Ytjiaemmhjkhdhaa
