/- The contract of the reference's Worst. -/
import Derived.Test.YtkhanjhjcfhhiaaR29B
namespace Go.Proofs.Ytkhanjhjcfhhiaa
open Go.RowKit Go.Sort
set_option linter.unusedVariables false

set_option maxHeartbeats 4000000 in
set_option maxRecDepth 100000 in
theorem rworst_any (v : Value) (l : List Us) (w : World) (h : Rows 9 encU w v l) (hbig : (l.length : Int) ≤ 4611686018427387904) :
    Calls Try.prog 13 #[v] w fun e w' => e = .returned (.tuple #[.int .i64 (Al.worN l), .bool (Al.worB l)]) ∧ Gr w w' := by
  have C1 := rcheck_any v l w h hbig
  rcases Al.chk_cases l with hc | hc
  · have HC := Lib.hid hc
    have NUM := Lib.hid (fun (j : Nat) x (hx : l[j]? = some x) => Al.chk_num hc hx)
    have HL := Lib.hid (Al.chk_inv hc).1
    obtain ⟨A, c, rfl⟩ := h.slice
    have US : Aside (USl w (.slice A l.length c) l) := h.usl
    obtain ⟨n, hn⟩ : ∃ n, l.length = n := ⟨_, rfl⟩
    have HN := Lib.hid hn
    rw [hc] at C1
    rw [hn] at hbig C1 ⊢
    clear h hn hc
    go_enter Try.func13, Try.ntmps13
    go_wp2_with fail
    refine C1.mono ?_
    rintro e w1 ⟨rfl, g1⟩
    clear C1
    go_wp2_with fail
    go_loopg [4, 5, 6] n (fun gg s4 s5 s6 wr => ∃ kk : Nat, kk ≤ n ∧ n - kk ≤ gg ∧ s6 = .int .i64 (kk : Int) ∧ WV l kk s4 s5 ∧ Aside (Gr w wr))
    case atStart => exact ⟨0, Nat.zero_le _, by omega, rfl, .inl ⟨rfl, rfl, rfl⟩, g1⟩
    case round =>
      obtain ⟨kk, hkk, hgg, rfl, hWV, G⟩ := hrel
      by_cases hlt : kk < n
      · have hltz : (kk : Int) < (n : Int) := by omega
        obtain ⟨x, hx⟩ : ∃ x, l[kk]? = some x := ⟨_, List.getElem?_eq_getElem (by rw [HN.out]; exact hlt)⟩
        rcases US.out with h0 | ⟨b, off, ⟨c', hv⟩, hb, hU⟩
        · rw [HN.out] at h0; omega
        simp only [Value.slice.injEq] at hv
        obtain ⟨rfl, -, rfl⟩ := hv
        have UU : Aside (∀ (i : Nat) x, l[i]? = some x → UAt wr b (off + i * 9) x) := fun i x hx => (hU i x hx).gr G.out
        have HX := Lib.hid (Al.at_eq hx)
        have HX2 := Lib.hid hx
        have NX := Lib.hid (NUM.out kk x hx)
        have HB : Aside (b < wr.heap.size) := Nat.lt_of_lt_of_le hb G.out.size
        have l0 := (UU.out kk x hx) 0 _ rfl; have l1 := (UU.out kk x hx) 1 _ rfl; have l2 := (UU.out kk x hx) 2 _ rfl; have l3 := (UU.out kk x hx) 3 _ rfl; have l4 := (UU.out kk x hx) 4 _ rfl; have l5 := (UU.out kk x hx) 5 _ rfl; have l6 := (UU.out kk x hx) 6 _ rfl; have l7 := (UU.out kk x hx) 7 _ rfl; have l8 := (UU.out kk x hx) 8 _ rfl; (try simp only [Nat.add_zero] at l0); (try simp only [Nat.zero_add] at l0 l1 l2 l3 l4 l5 l6 l7 l8)
        clear hU hb
        by_cases h8 : 8 ≤ x.us
        · rcases hWV with ⟨hw, rfl, rfl⟩ | ⟨a, m, hw, ha, hd, rfl, rfl⟩
          · have HW : Hid (WV l (kk + 1) (.int .i64 (kk : Int)) (.int .i64 (kk : Int))) := (show WV _ _ _ _ from .inr ⟨kk, kk, Al.wb_one (by rw [HX.out]; exact h8) hw, by omega, by omega, rfl, rfl⟩)
            clear hw hx
            go_wp2_with fail
            refine (tried_any x _).mono ?_
            rintro e w2 ⟨rfl, g2⟩
            have G2 : Aside (Gr w w2) := G.out.trans g2
            clear g2 l0 l1 l2 l3 l4 l5 l6 l7 l8
            go_wp2_with fail
            go_quiet (fail)
            go_wp2_with fail
            go_quiet (fail)
            go_wp2_with fail
            go_roundg (n - (kk + 1))
            case measure => omega
            case rel => exact ⟨kk + 1, by omega, by omega, by go_num, HW.out, by have hgg := G2.out; show Gr _ _; repeat (first | (with_reducible exact Gr.refl _) | (with_reducible assumption) | (with_reducible refine Gr.alloc ?_ _) | (with_reducible refine Gr.drewN ?_ _) | (with_reducible refine Gr.drew ?_) | (with_reducible refine Gr.grown ?_ _ _) | (with_reducible refine Gr.regrown ?_ _ _) | (with_reducible refine Gr.setCell ?_ (by first | omega | (simp; omega) | simp) _) | (with_reducible refine Gr.trans ?_ (by with_reducible assumption)))⟩
          · obtain ⟨y, hy⟩ : ∃ y, l[a]? = some y := ⟨_, List.getElem?_eq_getElem (by rw [HN.out]; omega)⟩
            obtain ⟨z, hz⟩ : ∃ z, l[m]? = some z := ⟨_, List.getElem?_eq_getElem (by rw [HN.out]; omega)⟩
            have L1 := fun W => rless_any x y NX.out (NUM.out a y hy) W
            have L2 := fun W => rless_any z x (NUM.out m z hz) NX.out W
            obtain ⟨p, hp⟩ : ∃ p, Al.ls x y = p := ⟨_, rfl⟩
            obtain ⟨q, hq⟩ : ∃ q, Al.ls z x = q := ⟨_, rfl⟩
            rw [hp] at L1
            rw [hq] at L2
            have HW := Lib.hid (WV.more hw HX.out (Al.at_eq hy) (Al.at_eq hz) h8 hp hq ⟨ha, hd⟩)
            have mixed : Try.prog.follows .mixedOrders = true := by kernel_rfl
            have i1 : (a : Int) < (n : Int) := by omega
            have i2 : (m : Int) < (n : Int) := by omega
            have i3 : decide ((a : Int) < 0) = false := bf (by omega)
            have i4 : decide ((m : Int) < 0) = false := bf (by omega)
            have HY := Lib.hid hy
            have HZ := Lib.hid hz
            clear hw hx hp hq hy hz
            go_wp2_with fail
            refine (tried_any x _).mono ?_
            rintro e w2 ⟨rfl, g2⟩
            have G2 : Aside (Gr wr w2) := g2
            clear g2 l0 l1 l2 l3 l4 l5 l6 l7 l8
            go_wp2_with fail
            have u0 := fun dq oq => cell_regrown (((UU.out kk x HX2.out).gr G2.out) 0 _ rfl) dq oq; have u1 := fun dq oq => cell_regrown (((UU.out kk x HX2.out).gr G2.out) 1 _ rfl) dq oq; have u2 := fun dq oq => cell_regrown (((UU.out kk x HX2.out).gr G2.out) 2 _ rfl) dq oq; have u3 := fun dq oq => cell_regrown (((UU.out kk x HX2.out).gr G2.out) 3 _ rfl) dq oq; have u4 := fun dq oq => cell_regrown (((UU.out kk x HX2.out).gr G2.out) 4 _ rfl) dq oq; have u5 := fun dq oq => cell_regrown (((UU.out kk x HX2.out).gr G2.out) 5 _ rfl) dq oq; have u6 := fun dq oq => cell_regrown (((UU.out kk x HX2.out).gr G2.out) 6 _ rfl) dq oq; have u7 := fun dq oq => cell_regrown (((UU.out kk x HX2.out).gr G2.out) 7 _ rfl) dq oq; have u8 := fun dq oq => cell_regrown (((UU.out kk x HX2.out).gr G2.out) 8 _ rfl) dq oq; (try simp only [Nat.add_zero] at u0); (try simp only [Nat.zero_add] at u0 u1 u2 u3 u4 u5 u6 u7 u8)
            have v0 := fun dq oq => cell_regrown (((UU.out a y HY.out).gr G2.out) 0 _ rfl) dq oq; have v1 := fun dq oq => cell_regrown (((UU.out a y HY.out).gr G2.out) 1 _ rfl) dq oq; have v2 := fun dq oq => cell_regrown (((UU.out a y HY.out).gr G2.out) 2 _ rfl) dq oq; have v3 := fun dq oq => cell_regrown (((UU.out a y HY.out).gr G2.out) 3 _ rfl) dq oq; have v4 := fun dq oq => cell_regrown (((UU.out a y HY.out).gr G2.out) 4 _ rfl) dq oq; have v5 := fun dq oq => cell_regrown (((UU.out a y HY.out).gr G2.out) 5 _ rfl) dq oq; have v6 := fun dq oq => cell_regrown (((UU.out a y HY.out).gr G2.out) 6 _ rfl) dq oq; have v7 := fun dq oq => cell_regrown (((UU.out a y HY.out).gr G2.out) 7 _ rfl) dq oq; have v8 := fun dq oq => cell_regrown (((UU.out a y HY.out).gr G2.out) 8 _ rfl) dq oq; (try simp only [Nat.add_zero] at v0); (try simp only [Nat.zero_add] at v0 v1 v2 v3 v4 v5 v6 v7 v8)
            refine wp_region_quiet_below (by assumption) (by kernel_rfl) ?_; (repeat (quiet_step ((first | (go_at_call 38; with_reducible exact Gr.meet (L1 _)))))); refine wpQuiet_nil ?_; intro _ hw'; obtain ⟨⟨nq, osq⟩, hw''⟩ := hw'; subst hw''
            generalize hW3 : Go.Sort.grow (redrawn w2 nq) osq = W3
            have G3 : Aside (Gr wr W3) := by rw [← hW3]; exact Gr.regrown G2.out _ _
            clear hW3 u0 u1 u2 u3 u4 u5 u6 u7 u8 v0 v1 v2 v3 v4 v5 v6 v7 v8
            have u0 := fun dq oq => cell_regrown (((UU.out kk x HX2.out).gr G3.out) 0 _ rfl) dq oq; have u1 := fun dq oq => cell_regrown (((UU.out kk x HX2.out).gr G3.out) 1 _ rfl) dq oq; have u2 := fun dq oq => cell_regrown (((UU.out kk x HX2.out).gr G3.out) 2 _ rfl) dq oq; have u3 := fun dq oq => cell_regrown (((UU.out kk x HX2.out).gr G3.out) 3 _ rfl) dq oq; have u4 := fun dq oq => cell_regrown (((UU.out kk x HX2.out).gr G3.out) 4 _ rfl) dq oq; have u5 := fun dq oq => cell_regrown (((UU.out kk x HX2.out).gr G3.out) 5 _ rfl) dq oq; have u6 := fun dq oq => cell_regrown (((UU.out kk x HX2.out).gr G3.out) 6 _ rfl) dq oq; have u7 := fun dq oq => cell_regrown (((UU.out kk x HX2.out).gr G3.out) 7 _ rfl) dq oq; have u8 := fun dq oq => cell_regrown (((UU.out kk x HX2.out).gr G3.out) 8 _ rfl) dq oq; (try simp only [Nat.add_zero] at u0); (try simp only [Nat.zero_add] at u0 u1 u2 u3 u4 u5 u6 u7 u8)
            have v0 := fun dq oq => cell_regrown (((UU.out m z HZ.out).gr G3.out) 0 _ rfl) dq oq; have v1 := fun dq oq => cell_regrown (((UU.out m z HZ.out).gr G3.out) 1 _ rfl) dq oq; have v2 := fun dq oq => cell_regrown (((UU.out m z HZ.out).gr G3.out) 2 _ rfl) dq oq; have v3 := fun dq oq => cell_regrown (((UU.out m z HZ.out).gr G3.out) 3 _ rfl) dq oq; have v4 := fun dq oq => cell_regrown (((UU.out m z HZ.out).gr G3.out) 4 _ rfl) dq oq; have v5 := fun dq oq => cell_regrown (((UU.out m z HZ.out).gr G3.out) 5 _ rfl) dq oq; have v6 := fun dq oq => cell_regrown (((UU.out m z HZ.out).gr G3.out) 6 _ rfl) dq oq; have v7 := fun dq oq => cell_regrown (((UU.out m z HZ.out).gr G3.out) 7 _ rfl) dq oq; have v8 := fun dq oq => cell_regrown (((UU.out m z HZ.out).gr G3.out) 8 _ rfl) dq oq; (try simp only [Nat.add_zero] at v0); (try simp only [Nat.zero_add] at v0 v1 v2 v3 v4 v5 v6 v7 v8)
            cases p <;> cases q
            all_goals
              go_wp2_with fail
              refine wp_region_quiet_below (by assumption) (by kernel_rfl) ?_; (repeat (quiet_step ((first | (go_at_call 38; with_reducible exact Gr.meet (L2 _)))))); refine wpQuiet_nil ?_; intro _ hw'; obtain ⟨⟨nq, osq⟩, hw''⟩ := hw'; subst hw''
              go_wp2_with fail
              go_roundg (n - (kk + 1))
              case measure => omega
              case rel => exact ⟨kk + 1, by omega, by omega, by go_num, by have := HW.out; simpa using this, by have hgg := G.out.trans G3.out; show Gr _ _; repeat (first | (with_reducible exact Gr.refl _) | (with_reducible assumption) | (with_reducible refine Gr.alloc ?_ _) | (with_reducible refine Gr.drewN ?_ _) | (with_reducible refine Gr.drew ?_) | (with_reducible refine Gr.grown ?_ _ _) | (with_reducible refine Gr.regrown ?_ _ _) | (with_reducible refine Gr.setCell ?_ (by first | omega | (simp; omega) | simp) _) | (with_reducible refine Gr.trans ?_ (by with_reducible assumption)))⟩
        · have h9 : x.us < 8 := by omega
          have ew := Al.wb_few (l := l) (k := kk) (by rw [HX.out]; exact h8)
          rcases hWV with ⟨hw, rfl, rfl⟩ | ⟨a, m, hw, ha, hd, rfl, rfl⟩
          · have HW : Hid (WV l (kk + 1) (.int .i64 (-1)) (.int .i64 (-1))) := (show WV _ _ _ _ from .inl ⟨by rw [ew]; exact hw, rfl, rfl⟩)
            clear hw hx ew
            go_wp2_with fail
            refine (tried_any x _).mono ?_
            rintro e w2 ⟨he, g2⟩
            rw [bf (show ¬ 8 ≤ x.us by omega)] at he
            subst he
            go_wp2_with fail
            go_roundg (n - (kk + 1))
            case measure => omega
            case rel => exact ⟨kk + 1, by omega, by omega, by go_num, HW.out, by have hgg := G.out.trans g2; show Gr _ _; repeat (first | (with_reducible exact Gr.refl _) | (with_reducible assumption) | (with_reducible refine Gr.alloc ?_ _) | (with_reducible refine Gr.drewN ?_ _) | (with_reducible refine Gr.drew ?_) | (with_reducible refine Gr.grown ?_ _ _) | (with_reducible refine Gr.regrown ?_ _ _) | (with_reducible refine Gr.setCell ?_ (by first | omega | (simp; omega) | simp) _) | (with_reducible refine Gr.trans ?_ (by with_reducible assumption)))⟩
          · have HW : Hid (WV l (kk + 1) (.int .i64 (a : Int)) (.int .i64 (m : Int))) := (show WV _ _ _ _ from .inr ⟨a, m, by rw [ew]; exact hw, by omega, by omega, rfl, rfl⟩)
            clear hw hx ew
            go_wp2_with fail
            refine (tried_any x _).mono ?_
            rintro e w2 ⟨he, g2⟩
            rw [bf (show ¬ 8 ≤ x.us by omega)] at he
            subst he
            go_wp2_with fail
            go_roundg (n - (kk + 1))
            case measure => omega
            case rel => exact ⟨kk + 1, by omega, by omega, by go_num, HW.out, by have hgg := G.out.trans g2; show Gr _ _; repeat (first | (with_reducible exact Gr.refl _) | (with_reducible assumption) | (with_reducible refine Gr.alloc ?_ _) | (with_reducible refine Gr.drewN ?_ _) | (with_reducible refine Gr.drew ?_) | (with_reducible refine Gr.grown ?_ _ _) | (with_reducible refine Gr.regrown ?_ _ _) | (with_reducible refine Gr.setCell ?_ (by first | omega | (simp; omega) | simp) _) | (with_reducible refine Gr.trans ?_ (by with_reducible assumption)))⟩
      · have hltz : ¬ (kk : Int) < (n : Int) := by omega
        have hk : kk = l.length := by rw [HN.out]; omega
        rcases hWV with ⟨hw, rfl, rfl⟩ | ⟨a, m, hw, ha, hd, rfl, rfl⟩
        · rw [hk] at hw
          have RU := Lib.hid (Al.wor_none HC.out hw)
          clear hw hk
          go_wp2_with fail
          go_quiet (fail)
          go_wp2_with fail
          go_ret2
          exact ⟨ret_ib RU.out.1.symm RU.out.2.symm, by have hgg := G.out; repeat (first | (with_reducible exact Gr.refl _) | (with_reducible assumption) | (with_reducible refine Gr.alloc ?_ _) | (with_reducible refine Gr.drewN ?_ _) | (with_reducible refine Gr.drew ?_) | (with_reducible refine Gr.grown ?_ _ _) | (with_reducible refine Gr.regrown ?_ _ _) | (with_reducible refine Gr.setCell ?_ (by first | omega | (simp; omega) | simp) _) | (with_reducible refine Gr.trans ?_ (by with_reducible assumption)))⟩
        · rw [hk] at hw
          have RU := Lib.hid (Al.wor_some HC.out hw)
          clear hw hk
          obtain ⟨y, hy⟩ : ∃ y, l[a]? = some y := ⟨_, List.getElem?_eq_getElem (by rw [HN.out]; omega)⟩
          obtain ⟨z, hz⟩ : ∃ z, l[m]? = some z := ⟨_, List.getElem?_eq_getElem (by rw [HN.out]; omega)⟩
          have ny := NUM.out a y hy
          have nz := NUM.out m z hz
          obtain ⟨p1, p2⟩ := pr_bd ny nz
          obtain ⟨q1, q2⟩ := pr_bd nz ny
          have e2 : 2 * y.wo * z.us = 2 * (y.wo * z.us) := Int.mul_assoc _ _ _
          unfold Al.okN at ny
          have ws1 : IntKind.i64.wrap (2 * y.wo) = 2 * y.wo := IntWalk.i64_in _ (by omega)
          have ws2 : IntKind.i64.wrap (2 * y.wo * z.us) = 2 * y.wo * z.us := IntWalk.i64_in _ (by omega)
          have ws3 : IntKind.i64.wrap (z.wo * y.us) = z.wo * y.us := IntWalk.i64_in _ (by omega)
          rcases US.out with h0 | ⟨b, off, ⟨c', hv⟩, hb, hU⟩
          · rw [HN.out] at h0; omega
          simp only [Value.slice.injEq] at hv
          obtain ⟨rfl, -, rfl⟩ := hv
          have R := RU.out
          rw [Al.at_eq hy, Al.at_eq hz] at R
          have i1 : (a : Int) < (n : Int) := by omega
          have i2 : (m : Int) < (n : Int) := by omega
          have i3 : decide ((a : Int) < 0) = false := bf (by omega)
          have u2 := (hU a y hy).gr G.out 7 _ rfl
          have u3 := (hU a y hy).gr G.out 8 _ rfl
          have v2 := (hU m z hz).gr G.out 7 _ rfl
          have v3 := (hU m z hz).gr G.out 8 _ rfl
          have HB := Lib.hid hb
          unfold Al.ls2 at R
          by_cases hq : 2 * y.wo * z.us < z.wo * y.us
          · have hd : decide (z.wo * y.us ≤ 2 * y.wo * z.us) = false := bf (by omega)
            rw [bt hq] at R
            have R' := Lib.hid R
            clear hU hy hz R RU hb e2 ny nz hq
            go_wp2_with fail
            go_quiet (fail)
            go_wp2_with fail
            go_ret2
            exact ⟨ret_ib (by first | exact R'.out.1.symm | (have := R'.out.1; simpa using this.symm)) R'.out.2.symm, by have hgg := G.out; repeat (first | (with_reducible exact Gr.refl _) | (with_reducible assumption) | (with_reducible refine Gr.alloc ?_ _) | (with_reducible refine Gr.drewN ?_ _) | (with_reducible refine Gr.drew ?_) | (with_reducible refine Gr.grown ?_ _ _) | (with_reducible refine Gr.regrown ?_ _ _) | (with_reducible refine Gr.setCell ?_ (by first | omega | (simp; omega) | simp) _) | (with_reducible refine Gr.trans ?_ (by with_reducible assumption)))⟩
          · have hd : decide (z.wo * y.us ≤ 2 * y.wo * z.us) = true := bt (by omega)
            rw [bf hq] at R
            have R' := Lib.hid R
            clear hU hy hz R RU hb e2 ny nz hq
            go_wp2_with fail
            go_quiet (fail)
            go_wp2_with fail
            go_ret2
            exact ⟨ret_ib (by first | exact R'.out.1.symm | (have := R'.out.1; simpa using this.symm)) R'.out.2.symm, by have hgg := G.out; repeat (first | (with_reducible exact Gr.refl _) | (with_reducible assumption) | (with_reducible refine Gr.alloc ?_ _) | (with_reducible refine Gr.drewN ?_ _) | (with_reducible refine Gr.drew ?_) | (with_reducible refine Gr.grown ?_ _ _) | (with_reducible refine Gr.regrown ?_ _ _) | (with_reducible refine Gr.setCell ?_ (by first | omega | (simp; omega) | simp) _) | (with_reducible refine Gr.trans ?_ (by with_reducible assumption)))⟩
  · have RU := Lib.hid (Al.wor_no (by simpa using hc))
    clear h hbig
    go_enter Try.func13, Try.ntmps13
    go_wp2_with fail
    refine C1.mono ?_
    rintro e w1 ⟨rfl, g1⟩
    clear C1
    go_wp2_with fail
    go_ret2
    exact ⟨ret_ib RU.out.1.symm RU.out.2.symm, by repeat (first | (with_reducible exact Gr.refl _) | (with_reducible assumption) | (with_reducible refine Gr.alloc ?_ _) | (with_reducible refine Gr.drewN ?_ _) | (with_reducible refine Gr.drew ?_) | (with_reducible refine Gr.grown ?_ _ _) | (with_reducible refine Gr.regrown ?_ _ _) | (with_reducible refine Gr.setCell ?_ (by first | omega | (simp; omega) | simp) _) | (with_reducible refine Gr.trans ?_ (by with_reducible assumption)))⟩
end Go.Proofs.Ytkhanjhjcfhhiaa
