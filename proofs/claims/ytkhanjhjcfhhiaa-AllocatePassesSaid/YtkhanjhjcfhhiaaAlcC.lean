/- The contract of allocate's Worst. -/
import Derived.Test.YtkhanjhjcfhhiaaAlcB
namespace Go.Proofs.Ytkhanjhjcfhhiaa
open Go.RowKit Go.Sort
set_option linter.unusedVariables false

/-- what the loop of Worst holds in its two variables -/
def WV (l : List Us) (k : Nat) (p q : Value) : Prop := (Al.wb l k = none ∧ p = .int .i64 (-1) ∧ q = .int .i64 (-1)) ∨ (∃ a b : Nat, Al.wb l k = some (a, b) ∧ a < k ∧ b < k ∧ p = .int .i64 (a : Int) ∧ q = .int .i64 (b : Int))
theorem WV.more {l : List Us} {k a b : Nat} {x y z : Us} (hw : Al.wb l k = some (a, b)) (hx : Al.at_ l k = x) (hy : Al.at_ l a = y) (hz : Al.at_ l b = z) (h8 : 8 ≤ x.us) {p q : Bool} (hp : Al.ls x y = p) (hq : Al.ls z x = q) (hab : a < k ∧ b < k) :
    WV l (k + 1) (.int .i64 ((if p then k else a : Nat) : Int)) (.int .i64 ((if q then k else b : Nat) : Int)) := by
  subst hx hy hz hp hq
  exact .inr ⟨_, _, Al.wb_more h8 hw, by split <;> omega, by split <;> omega, rfl, rfl⟩

set_option maxHeartbeats 4000000 in
set_option maxRecDepth 100000 in
theorem worst_any (v : Value) (l : List Us) (w : World) (h : Rows 9 encU w v l) (hbig : (l.length : Int) ≤ 4611686018427387904) :
    Calls Try.prog 12 #[v] w fun e w' => e = .returned (.tuple #[.int .i64 (Al.worN l), .bool (Al.worB l)]) ∧ Gr w w' := by
  have C1 := check_any v l w h hbig
  rcases Al.chk_cases l with hc | hc
  · have HC := Lib.hid hc
    have NUM := Lib.hid (fun (j : Nat) x (hx : l[j]? = some x) => Al.chk_num hc hx)
    have HL := Lib.hid (Al.chk_inv hc).1
    obtain ⟨A, c, rfl⟩ := h.slice
    have US : Aside (USl w (.slice A l.length c) l) := h.usl
    obtain ⟨n, hn⟩ : ∃ n, l.length = n := ⟨_, rfl⟩
    have HN := Lib.hid hn
    rw [hc] at C1
    rw [hn] at hbig C1 ⊢
    clear h hn hc
    go_enter Try.func12, Try.ntmps12
    go_wp2_with fail
    refine C1.mono ?_
    rintro e w1 ⟨rfl, g1⟩
    clear C1
    go_wp2_with fail
    go_loopg [5, 6, 7, 8, 14] n (fun gg s5 s6 _ _ s14 wr => ∃ kk : Nat, kk ≤ n ∧ n - kk ≤ gg ∧ s14 = .int .i64 (kk : Int) ∧ WV l kk s5 s6 ∧ Aside (Gr w wr))
    case atStart => exact ⟨0, Nat.zero_le _, by omega, rfl, .inl ⟨rfl, rfl, rfl⟩, g1⟩
    case round =>
      obtain ⟨kk, hkk, hgg, rfl, hWV, G⟩ := hrel
      by_cases hlt : kk < n
      · have hltz : (kk : Int) < (n : Int) := by omega
        obtain ⟨x, hx⟩ : ∃ x, l[kk]? = some x := ⟨_, List.getElem?_eq_getElem (by rw [HN.out]; exact hlt)⟩
        rcases US.out with h0 | ⟨b, off, ⟨c', hv⟩, hb, hU⟩
        · rw [HN.out] at h0; omega
        simp only [Value.slice.injEq] at hv
        obtain ⟨rfl, -, rfl⟩ := hv
        have UU : Aside (∀ (i : Nat) x, l[i]? = some x → UAt wr b (off + i * 9) x) := fun i x hx => (hU i x hx).gr G.out
        have HX := Lib.hid (Al.at_eq hx)
        have NX := Lib.hid (NUM.out kk x hx)
        have HB : Aside (b < wr.heap.size) := Nat.lt_of_lt_of_le hb G.out.size
        have l0 := (UU.out kk x hx) 0 _ rfl; have l1 := (UU.out kk x hx) 1 _ rfl; have l2 := (UU.out kk x hx) 2 _ rfl; have l3 := (UU.out kk x hx) 3 _ rfl; have l4 := (UU.out kk x hx) 4 _ rfl; have l5 := (UU.out kk x hx) 5 _ rfl; have l6 := (UU.out kk x hx) 6 _ rfl; have l7 := (UU.out kk x hx) 7 _ rfl; have l8 := (UU.out kk x hx) 8 _ rfl; (try simp only [Nat.add_zero] at l0); (try simp only [Nat.zero_add] at l0 l1 l2 l3 l4 l5 l6 l7 l8)
        clear hU hb
        by_cases h8 : 8 ≤ x.us
        · rcases hWV with ⟨hw, rfl, rfl⟩ | ⟨a, d, hw, ha, hd, rfl, rfl⟩
          · have HW : Hid (WV l (kk + 1) (.int .i64 (kk : Int)) (.int .i64 (kk : Int))) := (show WV _ _ _ _ from .inr ⟨kk, kk, Al.wb_one (by rw [HX.out]; exact h8) hw, by omega, by omega, rfl, rfl⟩)
            clear hw hx
            go_wp2_with fail
            go_quiet (fail)
            go_wp2_with fail
            go_quiet (fail)
            go_wp2_with fail
            go_roundg (n - (kk + 1))
            case measure => omega
            case rel => exact ⟨kk + 1, by omega, by omega, by go_num, HW.out, by have hgg := G.out; show Gr _ _; repeat (first | (with_reducible exact Gr.refl _) | (with_reducible assumption) | (with_reducible refine Gr.alloc ?_ _) | (with_reducible refine Gr.drewN ?_ _) | (with_reducible refine Gr.drew ?_) | (with_reducible refine Gr.grown ?_ _ _) | (with_reducible refine Gr.regrown ?_ _ _) | (with_reducible refine Gr.setCell ?_ (by first | omega | (simp; omega) | simp) _) | (with_reducible refine Gr.trans ?_ (by with_reducible assumption)))⟩
          · obtain ⟨y, hy⟩ : ∃ y, l[a]? = some y := ⟨_, List.getElem?_eq_getElem (by rw [HN.out]; omega)⟩
            obtain ⟨z, hz⟩ : ∃ z, l[d]? = some z := ⟨_, List.getElem?_eq_getElem (by rw [HN.out]; omega)⟩
            have L1 := fun W => less1_any x y NX.out (NUM.out a y hy) W
            have L2 := fun W => less1_any z x (NUM.out d z hz) NX.out W
            obtain ⟨p, hp⟩ : ∃ p, Al.ls x y = p := ⟨_, rfl⟩
            obtain ⟨q, hq⟩ : ∃ q, Al.ls z x = q := ⟨_, rfl⟩
            rw [hp] at L1
            rw [hq] at L2
            have HW := Lib.hid (WV.more hw HX.out (Al.at_eq hy) (Al.at_eq hz) h8 hp hq ⟨ha, hd⟩)
            have mixed : Try.prog.follows .mixedOrders = true := by kernel_rfl
            have i1 : (a : Int) < (n : Int) := by omega
            have i2 : (d : Int) < (n : Int) := by omega
            have i3 : decide ((a : Int) < 0) = false := bf (by omega)
            have i4 : decide ((d : Int) < 0) = false := bf (by omega)
            have HY := Lib.hid hy
            have HZ := Lib.hid hz
            clear hw hx hp hq hy hz
            go_wp2_with fail
            generalize hW2 : wr.alloc (Obj.cells #[.int .i64 x.c.s, .int .i64 x.c.o, .int .i64 x.c.k, .bool x.c.b, .int .i64 x.c.p, .int .i64 x.c.f, .int .i64 x.pa, .int .i64 x.us, .int .i64 x.wo] 39) = W2
            have U8 : Aside (UAt W2 wr.heap.size 0 x) := by rw [← hW2]; exact UAt.new _ _ _
            have G2 : Aside (Gr wr W2) := by rw [← hW2]; exact Gr.alloc (Gr.refl _) _
            clear hW2 l0 l1 l2 l3 l4 l5 l6 l7 l8
            have u0 := fun dq oq => cell_regrown ((U8.out) 0 _ rfl) dq oq; have u1 := fun dq oq => cell_regrown ((U8.out) 1 _ rfl) dq oq; have u2 := fun dq oq => cell_regrown ((U8.out) 2 _ rfl) dq oq; have u3 := fun dq oq => cell_regrown ((U8.out) 3 _ rfl) dq oq; have u4 := fun dq oq => cell_regrown ((U8.out) 4 _ rfl) dq oq; have u5 := fun dq oq => cell_regrown ((U8.out) 5 _ rfl) dq oq; have u6 := fun dq oq => cell_regrown ((U8.out) 6 _ rfl) dq oq; have u7 := fun dq oq => cell_regrown ((U8.out) 7 _ rfl) dq oq; have u8 := fun dq oq => cell_regrown ((U8.out) 8 _ rfl) dq oq; (try simp only [Nat.add_zero] at u0); (try simp only [Nat.zero_add] at u0 u1 u2 u3 u4 u5 u6 u7 u8)
            have v0 := fun dq oq => cell_regrown (((UU.out a y HY.out).gr G2.out) 0 _ rfl) dq oq; have v1 := fun dq oq => cell_regrown (((UU.out a y HY.out).gr G2.out) 1 _ rfl) dq oq; have v2 := fun dq oq => cell_regrown (((UU.out a y HY.out).gr G2.out) 2 _ rfl) dq oq; have v3 := fun dq oq => cell_regrown (((UU.out a y HY.out).gr G2.out) 3 _ rfl) dq oq; have v4 := fun dq oq => cell_regrown (((UU.out a y HY.out).gr G2.out) 4 _ rfl) dq oq; have v5 := fun dq oq => cell_regrown (((UU.out a y HY.out).gr G2.out) 5 _ rfl) dq oq; have v6 := fun dq oq => cell_regrown (((UU.out a y HY.out).gr G2.out) 6 _ rfl) dq oq; have v7 := fun dq oq => cell_regrown (((UU.out a y HY.out).gr G2.out) 7 _ rfl) dq oq; have v8 := fun dq oq => cell_regrown (((UU.out a y HY.out).gr G2.out) 8 _ rfl) dq oq; (try simp only [Nat.add_zero] at v0); (try simp only [Nat.zero_add] at v0 v1 v2 v3 v4 v5 v6 v7 v8)
            refine wp_region_quiet_below (by assumption) (by kernel_rfl) ?_; (repeat (first | go_big_quiet_skip | quiet_step ((first | (go_at_call 36; with_reducible exact Gr.meet (L1 _)))))); refine wpQuiet_nil ?_; intro _ hw'; obtain ⟨⟨nq, osq⟩, hw''⟩ := hw'; subst hw''
            generalize hW3 : Go.Sort.grow (redrawn W2 nq) osq = W3
            have G3 : Aside (Gr wr W3) := by rw [← hW3]; exact Gr.regrown G2.out _ _
            have U9 : Aside (UAt W3 wr.heap.size 0 x) := by rw [← hW3]; exact U8.out.gr (Gr.regrown (Gr.refl _) _ _)
            clear hW3 u0 u1 u2 u3 u4 u5 u6 u7 u8 v0 v1 v2 v3 v4 v5 v6 v7 v8
            have u0 := fun dq oq => cell_regrown ((U9.out) 0 _ rfl) dq oq; have u1 := fun dq oq => cell_regrown ((U9.out) 1 _ rfl) dq oq; have u2 := fun dq oq => cell_regrown ((U9.out) 2 _ rfl) dq oq; have u3 := fun dq oq => cell_regrown ((U9.out) 3 _ rfl) dq oq; have u4 := fun dq oq => cell_regrown ((U9.out) 4 _ rfl) dq oq; have u5 := fun dq oq => cell_regrown ((U9.out) 5 _ rfl) dq oq; have u6 := fun dq oq => cell_regrown ((U9.out) 6 _ rfl) dq oq; have u7 := fun dq oq => cell_regrown ((U9.out) 7 _ rfl) dq oq; have u8 := fun dq oq => cell_regrown ((U9.out) 8 _ rfl) dq oq; (try simp only [Nat.add_zero] at u0); (try simp only [Nat.zero_add] at u0 u1 u2 u3 u4 u5 u6 u7 u8)
            have v0 := fun dq oq => cell_regrown (((UU.out d z HZ.out).gr G3.out) 0 _ rfl) dq oq; have v1 := fun dq oq => cell_regrown (((UU.out d z HZ.out).gr G3.out) 1 _ rfl) dq oq; have v2 := fun dq oq => cell_regrown (((UU.out d z HZ.out).gr G3.out) 2 _ rfl) dq oq; have v3 := fun dq oq => cell_regrown (((UU.out d z HZ.out).gr G3.out) 3 _ rfl) dq oq; have v4 := fun dq oq => cell_regrown (((UU.out d z HZ.out).gr G3.out) 4 _ rfl) dq oq; have v5 := fun dq oq => cell_regrown (((UU.out d z HZ.out).gr G3.out) 5 _ rfl) dq oq; have v6 := fun dq oq => cell_regrown (((UU.out d z HZ.out).gr G3.out) 6 _ rfl) dq oq; have v7 := fun dq oq => cell_regrown (((UU.out d z HZ.out).gr G3.out) 7 _ rfl) dq oq; have v8 := fun dq oq => cell_regrown (((UU.out d z HZ.out).gr G3.out) 8 _ rfl) dq oq; (try simp only [Nat.add_zero] at v0); (try simp only [Nat.zero_add] at v0 v1 v2 v3 v4 v5 v6 v7 v8)
            cases p <;> cases q
            all_goals
              go_wp2_with fail
              refine wp_region_quiet_below (by assumption) (by kernel_rfl) ?_; (repeat (first | go_big_quiet_skip | quiet_step ((first | (go_at_call 36; with_reducible exact Gr.meet (L2 _)))))); refine wpQuiet_nil ?_; intro _ hw'; obtain ⟨⟨nq, osq⟩, hw''⟩ := hw'; subst hw''
              go_wp2_with fail
              go_roundg (n - (kk + 1))
              case measure => omega
              case rel => exact ⟨kk + 1, by omega, by omega, by go_num, by have := HW.out; simpa using this, by have hgg := G.out.trans G3.out; show Gr _ _; repeat (first | (with_reducible exact Gr.refl _) | (with_reducible assumption) | (with_reducible refine Gr.alloc ?_ _) | (with_reducible refine Gr.drewN ?_ _) | (with_reducible refine Gr.drew ?_) | (with_reducible refine Gr.grown ?_ _ _) | (with_reducible refine Gr.regrown ?_ _ _) | (with_reducible refine Gr.setCell ?_ (by first | omega | (simp; omega) | simp) _) | (with_reducible refine Gr.trans ?_ (by with_reducible assumption)))⟩
        · have h9 : x.us < 8 := by omega
          have ew := Al.wb_few (l := l) (k := kk) (by rw [HX.out]; exact h8)
          rcases hWV with ⟨hw, rfl, rfl⟩ | ⟨a, d, hw, ha, hd, rfl, rfl⟩
          · have HW : Hid (WV l (kk + 1) (.int .i64 (-1)) (.int .i64 (-1))) := (show WV _ _ _ _ from .inl ⟨by rw [ew]; exact hw, rfl, rfl⟩)
            clear hw hx h8 ew
            go_wp2_with fail
            go_roundg (n - (kk + 1))
            case measure => omega
            case rel => exact ⟨kk + 1, by omega, by omega, by go_num, HW.out, by have hgg := G.out; show Gr _ _; repeat (first | (with_reducible exact Gr.refl _) | (with_reducible assumption) | (with_reducible refine Gr.alloc ?_ _) | (with_reducible refine Gr.drewN ?_ _) | (with_reducible refine Gr.drew ?_) | (with_reducible refine Gr.grown ?_ _ _) | (with_reducible refine Gr.regrown ?_ _ _) | (with_reducible refine Gr.setCell ?_ (by first | omega | (simp; omega) | simp) _) | (with_reducible refine Gr.trans ?_ (by with_reducible assumption)))⟩
          · have HW : Hid (WV l (kk + 1) (.int .i64 (a : Int)) (.int .i64 (d : Int))) := (show WV _ _ _ _ from .inr ⟨a, d, by rw [ew]; exact hw, by omega, by omega, rfl, rfl⟩)
            clear hw hx h8 ew
            go_wp2_with fail
            go_roundg (n - (kk + 1))
            case measure => omega
            case rel => exact ⟨kk + 1, by omega, by omega, by go_num, HW.out, by have hgg := G.out; show Gr _ _; repeat (first | (with_reducible exact Gr.refl _) | (with_reducible assumption) | (with_reducible refine Gr.alloc ?_ _) | (with_reducible refine Gr.drewN ?_ _) | (with_reducible refine Gr.drew ?_) | (with_reducible refine Gr.grown ?_ _ _) | (with_reducible refine Gr.regrown ?_ _ _) | (with_reducible refine Gr.setCell ?_ (by first | omega | (simp; omega) | simp) _) | (with_reducible refine Gr.trans ?_ (by with_reducible assumption)))⟩
      · have hltz : ¬ (kk : Int) < (n : Int) := by omega
        have hk : kk = l.length := by rw [HN.out]; omega
        rcases hWV with ⟨hw, rfl, rfl⟩ | ⟨a, d, hw, ha, hd, rfl, rfl⟩
        · rw [hk] at hw
          have RU := Lib.hid (Al.wor_none HC.out hw)
          clear hw hk
          go_wp2_with fail
          go_quiet (fail)
          go_wp2_with fail
          go_ret2
          exact ⟨ret_ib RU.out.1.symm RU.out.2.symm, by have hgg := G.out; repeat (first | (with_reducible exact Gr.refl _) | (with_reducible assumption) | (with_reducible refine Gr.alloc ?_ _) | (with_reducible refine Gr.drewN ?_ _) | (with_reducible refine Gr.drew ?_) | (with_reducible refine Gr.grown ?_ _ _) | (with_reducible refine Gr.regrown ?_ _ _) | (with_reducible refine Gr.setCell ?_ (by first | omega | (simp; omega) | simp) _) | (with_reducible refine Gr.trans ?_ (by with_reducible assumption)))⟩
        · rw [hk] at hw
          have RU := Lib.hid (Al.wor_some HC.out hw)
          clear hw hk
          obtain ⟨y, hy⟩ : ∃ y, l[a]? = some y := ⟨_, List.getElem?_eq_getElem (by rw [HN.out]; omega)⟩
          obtain ⟨z, hz⟩ : ∃ z, l[d]? = some z := ⟨_, List.getElem?_eq_getElem (by rw [HN.out]; omega)⟩
          have L1 := fun W => less2_any y z (NUM.out a y hy) (NUM.out d z hz) W
          rcases US.out with h0 | ⟨b, off, ⟨c', hv⟩, hb, hU⟩
          · rw [HN.out] at h0; omega
          simp only [Value.slice.injEq] at hv
          obtain ⟨rfl, -, rfl⟩ := hv
          have R := RU.out
          rw [Al.at_eq hy, Al.at_eq hz] at R
          obtain ⟨p, hp⟩ : ∃ p, Al.ls2 y z = p := ⟨_, rfl⟩
          rw [hp] at L1 R
          have R' := Lib.hid R
          have mixed : Try.prog.follows .mixedOrders = true := by kernel_rfl
          have i1 : (a : Int) < (n : Int) := by omega
          have i2 : (d : Int) < (n : Int) := by omega
          have i3 : decide ((a : Int) < 0) = false := bf (by omega)
          have u0 := fun dq oq => cell_regrown (((hU a y hy).gr G.out) 0 _ rfl) dq oq; have u1 := fun dq oq => cell_regrown (((hU a y hy).gr G.out) 1 _ rfl) dq oq; have u2 := fun dq oq => cell_regrown (((hU a y hy).gr G.out) 2 _ rfl) dq oq; have u3 := fun dq oq => cell_regrown (((hU a y hy).gr G.out) 3 _ rfl) dq oq; have u4 := fun dq oq => cell_regrown (((hU a y hy).gr G.out) 4 _ rfl) dq oq; have u5 := fun dq oq => cell_regrown (((hU a y hy).gr G.out) 5 _ rfl) dq oq; have u6 := fun dq oq => cell_regrown (((hU a y hy).gr G.out) 6 _ rfl) dq oq; have u7 := fun dq oq => cell_regrown (((hU a y hy).gr G.out) 7 _ rfl) dq oq; have u8 := fun dq oq => cell_regrown (((hU a y hy).gr G.out) 8 _ rfl) dq oq; (try simp only [Nat.add_zero] at u0); (try simp only [Nat.zero_add] at u0 u1 u2 u3 u4 u5 u6 u7 u8)
          have v0 := fun dq oq => cell_regrown (((hU d z hz).gr G.out) 0 _ rfl) dq oq; have v1 := fun dq oq => cell_regrown (((hU d z hz).gr G.out) 1 _ rfl) dq oq; have v2 := fun dq oq => cell_regrown (((hU d z hz).gr G.out) 2 _ rfl) dq oq; have v3 := fun dq oq => cell_regrown (((hU d z hz).gr G.out) 3 _ rfl) dq oq; have v4 := fun dq oq => cell_regrown (((hU d z hz).gr G.out) 4 _ rfl) dq oq; have v5 := fun dq oq => cell_regrown (((hU d z hz).gr G.out) 5 _ rfl) dq oq; have v6 := fun dq oq => cell_regrown (((hU d z hz).gr G.out) 6 _ rfl) dq oq; have v7 := fun dq oq => cell_regrown (((hU d z hz).gr G.out) 7 _ rfl) dq oq; have v8 := fun dq oq => cell_regrown (((hU d z hz).gr G.out) 8 _ rfl) dq oq; (try simp only [Nat.add_zero] at v0); (try simp only [Nat.zero_add] at v0 v1 v2 v3 v4 v5 v6 v7 v8)
          have HB := Lib.hid hb
          clear hU hy hz hp R RU hb
          go_wp2_with fail
          refine wp_region_quiet_below (by assumption) (by kernel_rfl) ?_; (repeat (first | go_big_quiet_skip | quiet_step ((first | (go_at_call 36; with_reducible exact Gr.meet (L1 _)))))); refine wpQuiet_nil ?_; intro _ hw'; obtain ⟨⟨nq, osq⟩, hw''⟩ := hw'; subst hw''
          cases p
          all_goals
            go_wp2_with fail
            go_ret2
            exact ⟨ret_ib (by first | exact R'.out.1.symm | (have := R'.out.1; simpa using this.symm)) R'.out.2.symm, by have hgg := G.out; repeat (first | (with_reducible exact Gr.refl _) | (with_reducible assumption) | (with_reducible refine Gr.alloc ?_ _) | (with_reducible refine Gr.drewN ?_ _) | (with_reducible refine Gr.drew ?_) | (with_reducible refine Gr.grown ?_ _ _) | (with_reducible refine Gr.regrown ?_ _ _) | (with_reducible refine Gr.setCell ?_ (by first | omega | (simp; omega) | simp) _) | (with_reducible refine Gr.trans ?_ (by with_reducible assumption)))⟩
  · have RU := Lib.hid (Al.wor_no (by simpa using hc))
    clear h hbig
    go_enter Try.func12, Try.ntmps12
    go_wp2_with fail
    refine C1.mono ?_
    rintro e w1 ⟨rfl, g1⟩
    clear C1
    go_wp2_with fail
    go_ret2
    exact ⟨ret_ib RU.out.1.symm RU.out.2.symm, by repeat (first | (with_reducible exact Gr.refl _) | (with_reducible assumption) | (with_reducible refine Gr.alloc ?_ _) | (with_reducible refine Gr.drewN ?_ _) | (with_reducible refine Gr.drew ?_) | (with_reducible refine Gr.grown ?_ _ _) | (with_reducible refine Gr.regrown ?_ _ _) | (with_reducible refine Gr.setCell ?_ (by first | omega | (simp; omega) | simp) _) | (with_reducible refine Gr.trans ?_ (by with_reducible assumption)))⟩
end Go.Proofs.Ytkhanjhjcfhhiaa
