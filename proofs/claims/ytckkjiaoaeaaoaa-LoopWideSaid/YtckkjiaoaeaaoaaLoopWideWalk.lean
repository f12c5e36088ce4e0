/- The walk of LoopWide: the Go text returns true. (Printed in part by mklaw50.py.) -/
import Derived.Test.YtckkjiaoaeaaoaaLopWide
import Derived.Test.YtckkjiaoaeaaoaaLopC
import Derived.Test.YtckkjiaoaeaaoaaLopD
namespace Go.Proofs.Ytckkjiaoaeaaoaa.loopWide
open Go.RowKit Go.Sort
set_option linter.unusedVariables false

set_option maxHeartbeats 8000000 in
set_option maxRecDepth 100000 in
theorem walk (l0 l1 l2 l3 l4 l5 l6 s0 s1 : Int) (wl0 : (Lit.int .i64 l0).wf = true) (wl1 : (Lit.int .i64 l1).wf = true) (wl2 : (Lit.int .i64 l2).wf = true) (wl3 : (Lit.int .i64 l3).wf = true) (wl4 : (Lit.int .i64 l4).wf = true) (wl5 : (Lit.int .i64 l5).wf = true) (wl6 : (Lit.int .i64 l6).wf = true) (ws0 : (Lit.int .i64 s0).wf = true) (ws1 : (Lit.int .i64 s1).wf = true) (w : World) :
    Calls Try.prog 6 #[.agg #[.int .i64 l0, .int .i64 l1, .int .i64 l2, .int .i64 l3, .int .i64 l4, .int .i64 l5, .int .i64 l6], .agg #[.int .i64 s0, .int .i64 s1]] w fun e w' => e = .returned (.bool true) ∧ Gr w w' := by
  clear wl0 wl1 wl2 wl3 wl4 wl5 wl6 ws0 ws1
  obtain ⟨l, hl⟩ : ∃ l : Lo, l = ⟨l0, l1, l2, l3, l4, l5, l6⟩ := ⟨_, rfl⟩
  obtain ⟨s, hs⟩ : ∃ s : Sp, s = ⟨s0, s1⟩ := ⟨_, rfl⟩
  have e0 : l0 = l.id := by rw [hl]
  have e1 : l1 = l.se := by rw [hl]
  have e2 : l2 = l.co := by rw [hl]
  have e3 : l3 = l.ac := by rw [hl]
  have e4 : l4 = l.pe := by rw [hl]
  have e5 : l5 = l.ph := by rw [hl]
  have e6 : l6 = l.ag := by rw [hl]
  have e7 : s0 = s.s := by rw [hs]
  have e8 : s1 = s.a := by rw [hs]
  clear hl hs
  subst e0 e1 e2 e3 e4 e5 e6 e7 e8
  go_enter Try.func6, Try.ntmps6
  go_wp2_with fail
  obtain ⟨L0, S0⟩ := boxed2 (enc := encL) (enc2 := encP) (x := l) (y := s) (Gr.refl ((w.alloc (Obj.cells (encL l).toArray 23)).alloc (Obj.cells (encP s).toArray 25)))
  have G0 : Aside (Gr w ((w.alloc (Obj.cells (encL l).toArray 23)).alloc (Obj.cells (encP s).toArray 25))) := Gr.alloc (Gr.alloc (Gr.refl _) _) _
  generalize ((w.alloc (Obj.cells (encL l).toArray 23)).alloc (Obj.cells (encP s).toArray 25)) = w0 at L0 S0 G0 ⊢
  refine (lawake_any _).mono ?_
  rintro e w1 ⟨rfl, g1⟩
  have G1 : Aside (Gr w w1) := G0.out.trans g1
  have L1 := Lib.hid (L0.gr g1)
  have S1 := Lib.hid (S0.gr g1)
  clear g1 L0 S0 G0
  have u0 := (L1.out) 0 _ rfl; have u1 := (L1.out) 1 _ rfl; have u2 := (L1.out) 2 _ rfl; have u3 := (L1.out) 3 _ rfl; have u4 := (L1.out) 4 _ rfl; have u5 := (L1.out) 5 _ rfl; have u6 := (L1.out) 6 _ rfl; (try simp only [Nat.add_zero] at u0); (try simp only [Nat.zero_add] at u0 u1 u2 u3 u4 u5 u6)
  have v0 := (S1.out) 0 _ rfl; have v1 := (S1.out) 1 _ rfl; (try simp only [Nat.add_zero] at v0); (try simp only [Nat.zero_add] at v0 v1)
  have hz := L1.out.lt rfl
  have hz2 := S1.out.lt rfl
  go_wp2_with fail
  refine (splits_any l _).mono ?_
  rintro e w2 ⟨vs, rfl, rs, g2⟩
  have G2 : Aside (Gr w w2) := G1.out.trans g2
  have L2 := Lib.hid (L1.out.gr g2)
  have S2 := Lib.hid (S1.out.gr g2)
  have RS := Lib.hid rs
  clear g2 rs u0 u1 u2 u3 u4 u5 u6 v0 v1 hz hz2 L1 S1 G1
  rcases Lp.flt_cases 32 l with hf | hf
  · rw [hf]
    have WA := Lib.hid (fun (i : Nat) (hi : i < Lp.spN l) => Lp.wide_at hf hi)
    have WM := Lib.hid (fun (x : Int) (hx : 0 ≤ x) => Lp.wide_mod hf hx)
    have COV := Lib.hid (Lp.wide_cov s hf)
    have SG := Lib.hid (fun (i : Nat) (hi : i < Lp.spN l) => Lp.spl_get hf hi)
    have SLN := Lib.hid (Lp.spl_length hf)
    have NB := Lp.spN_bd hf
    have pe0 : ¬ l.pe = 0 := by have := (Lp.sum_bd hf).2.1; omega
    have pe1 : l.pe ≤ 512 := by have := (Lp.sum_bd hf).2.1; omega
    have ph0 : 0 ≤ l.ph ∧ l.ph ≤ 512 := by have := (Lp.sum_bd hf).2.2.2; omega
    obtain ⟨ph0, ph1⟩ := ph0
    obtain ⟨n, hn⟩ : ∃ n, Lp.spN l = n := ⟨_, rfl⟩
    rw [hn] at WA SG SLN NB
    obtain ⟨A, c, rfl⟩ := RS.out.slice
    have RS2 : Hid (Rows 2 encP w2 (.slice A n c) (Lp.spl l)) := by have := RS.out; rw [SLN.out] at this; exact this
    rw [SLN.out]
    clear hf hn RS
    go_wp2_with fail
    go_loopg [4, 7, 8, 9, 10, 11, 12, 13, 14, 15, 16, 34] n (fun gg _ _ _ _ _ _ _ _ _ _ _ s34 wr => ∃ kk : Nat, kk ≤ n ∧ n - kk ≤ gg ∧ s34 = .int .i64 (kk : Int) ∧ Aside (Gr w2 wr))
    case atStart => exact ⟨0, Nat.zero_le _, by omega, rfl, Gr.refl _⟩
    case round =>
      obtain ⟨kk, hkk, hgg, rfl, G⟩ := hrel
      have GO : Aside (Gr w wr) := G2.out.trans G.out
      by_cases hlt : kk < n
      · have hltz : (kk : Int) < (n : Int) := by omega
        obtain ⟨WA1, WA2, WA3, ⟨xs0, xs1⟩, xa0, xa1⟩ := WA.out kk hlt
        have XS : Hid ((Lp.spA l kk).s = (kk : Int) + 1) := (show _ = _ from rfl)
        have hx := SG.out kk hlt
        obtain ⟨m0, m1, m2⟩ := WM.out (Lp.spA l kk).s (by omega)
        have C1 := fun W => worst_any l (Lp.spA l kk) W
        have C2 := fun W => worst_any l ⟨(Lp.spA l kk).s, (Lp.spA l kk).a + 1⟩ W
        have C3 := fun W => flowsE_any l (Lp.spA l kk) W
        have WN1 : Lp.wstN l (Lp.spA l kk) = Lp.wst l (Lp.spA l kk) := if_pos WA1
        have WN2 : Lp.wstN l ⟨(Lp.spA l kk).s, (Lp.spA l kk).a + 1⟩ = 0 := if_neg (by rw [WA3]; decide)
        have FL : Lp.flwL l (Lp.spA l kk) = [⟨2 * l.id, l.se, l.co, l.pe, l.ph, (Lp.spA l kk).s⟩, ⟨2 * l.id + 1, l.co, l.ac, l.pe, (l.ph + (Lp.spA l kk).s) % l.pe, (Lp.spA l kk).a⟩] := if_pos WA1
        rw [WN1, WA1] at C1
        rw [WN2, WA3] at C2
        rw [FL, WA1] at C3
        obtain ⟨ws0, ws1⟩ := WA2
        generalize Lp.wst l (Lp.spA l kk) = ws at C1 ws0 ws1
        generalize (l.ph + (Lp.spA l kk).s) % l.pe = m at C3 m0 m1 m2
        generalize Lp.spA l kk = x at *
        clear WN1 WN2 FL WA1 WA3
        have C2H := Lib.hid C2
        have C3H := Lib.hid C3
        clear C2 C3
        rcases RS2.out with ⟨h, _⟩ | ⟨b, off, c', hb, hv, hU⟩
        · rw [h] at hx; simp at hx
        simp only [Value.slice.injEq] at hv
        obtain ⟨rfl, -, rfl⟩ := hv
        have RU : Aside (∀ i x, (Lp.spl l)[i]? = some x → At encP w2 b (off + i * 2) x) := fun i x hi j u hj => hU i x hi j u hj
        have X0 := (RU.out kk x hx).gr G.out
        have l0 := (X0) 0 _ rfl; have l1 := (X0) 1 _ rfl; (try simp only [Nat.add_zero] at l0); (try simp only [Nat.zero_add] at l0 l1)
        have hbr := X0.lt rfl
        have L3 := Lib.hid (L2.out.gr G.out)
        have u0 := (L3.out) 0 _ rfl; have u1 := (L3.out) 1 _ rfl; have u2 := (L3.out) 2 _ rfl; have u3 := (L3.out) 3 _ rfl; have u4 := (L3.out) 4 _ rfl; have u5 := (L3.out) 5 _ rfl; have u6 := (L3.out) 6 _ rfl; (try simp only [Nat.add_zero] at u0); (try simp only [Nat.zero_add] at u0 u1 u2 u3 u4 u5 u6)
        have hz := L3.out.lt rfl
        clear hU hb X0
        go_wp2_with fail
        have XB := boxed (enc := encP) (x := x) (Gr.refl (wr.alloc (Obj.cells (encP x).toArray 25)))
        have G3 : Aside (Gr w2 (wr.alloc (Obj.cells (encP x).toArray 25))) := Gr.alloc G.out _
        generalize wr.alloc (Obj.cells (encP x).toArray 25) = w3 at XB G3 ⊢
        generalize wr.heap.size = bx at XB ⊢
        have X3 := Lib.hid XB
        clear XB l0 l1 hbr u0 u1 u2 u3 u4 u5 u6 hz
        refine (C1 _).mono ?_
        rintro e w4 ⟨rfl, g4⟩
        have G4 : Aside (Gr w2 w4) := G3.out.trans g4
        have X4 := Lib.hid (X3.out.gr g4)
        have L4 := Lib.hid (L2.out.gr G4.out)
        clear g4 C1 X3
        have v0 := (X4.out) 0 _ rfl; have v1 := (X4.out) 1 _ rfl; (try simp only [Nat.add_zero] at v0); (try simp only [Nat.zero_add] at v0 v1)
        have hz2 := X4.out.lt rfl
        have u0 := (L4.out) 0 _ rfl; have u1 := (L4.out) 1 _ rfl; have u2 := (L4.out) 2 _ rfl; have u3 := (L4.out) 3 _ rfl; have u4 := (L4.out) 4 _ rfl; have u5 := (L4.out) 5 _ rfl; have u6 := (L4.out) 6 _ rfl; (try simp only [Nat.add_zero] at u0); (try simp only [Nat.zero_add] at u0 u1 u2 u3 u4 u5 u6)
        have hz := L4.out.lt rfl
        go_wp2_with fail
        refine (C2H.out _).mono ?_
        rintro e w5 ⟨rfl, g5⟩
        have G5 : Aside (Gr w2 w5) := G4.out.trans g5
        have X5 := Lib.hid (X4.out.gr g5)
        have L5 := Lib.hid (L4.out.gr g5)
        clear g5 X4 L4 C2H u0 u1 u2 u3 u4 u5 u6 v0 v1 hz hz2
        have v0 := (X5.out) 0 _ rfl; have v1 := (X5.out) 1 _ rfl; (try simp only [Nat.add_zero] at v0); (try simp only [Nat.zero_add] at v0 v1)
        have hz2 := X5.out.lt rfl
        have u0 := (L5.out) 0 _ rfl; have u1 := (L5.out) 1 _ rfl; have u2 := (L5.out) 2 _ rfl; have u3 := (L5.out) 3 _ rfl; have u4 := (L5.out) 4 _ rfl; have u5 := (L5.out) 5 _ rfl; have u6 := (L5.out) 6 _ rfl; (try simp only [Nat.add_zero] at u0); (try simp only [Nat.zero_add] at u0 u1 u2 u3 u4 u5 u6)
        have hz := L5.out.lt rfl
        go_wp2_with fail
        refine (C3H.out _).mono ?_
        rintro e w6 ⟨vf, rfl, rf, g6⟩
        have G6 : Aside (Gr w2 w6) := G5.out.trans g6
        have X6 := Lib.hid (X5.out.gr g6)
        have L6 := Lib.hid (L5.out.gr g6)
        clear g6 X5 L5 C3H u0 u1 u2 u3 u4 u5 u6 v0 v1 hz hz2
        rcases rf with ⟨h, _⟩ | ⟨bf', of', cf, hbf, rfl, hcf⟩
        · cases h
        have FA6 : Aside (At encF w6 bf' of' ⟨2 * l.id, l.se, l.co, l.pe, l.ph, x.s⟩) := fun j u hj => by have := hcf 0 _ rfl j u hj; rwa [Nat.zero_mul, Nat.add_zero] at this
        have FB6 : Aside (At encF w6 bf' (of' + 6) ⟨2 * l.id + 1, l.co, l.ac, l.pe, m, x.a⟩) := fun j u hj => by have := hcf 1 _ rfl j u hj; rwa [Nat.one_mul] at this
        rw [show ([⟨2 * l.id, l.se, l.co, l.pe, l.ph, x.s⟩, ⟨2 * l.id + 1, l.co, l.ac, l.pe, m, x.a⟩] : List Fl).length = 2 from rfl]
        have e1 : decide (l.ag < ws) = false := bf (by omega)
        have mixed : Try.prog.follows .mixedOrders = true := by kernel_rfl
        have L6' := L6.out
        have X6' := X6.out
        clear hcf hbf
        have PREV : kk = 0 ∨ (∃ p : Sp, 0 < kk ∧ (Lp.spl l)[kk - 1]? = some p ∧ ¬ x.s ≤ p.s) := by
          rcases Nat.eq_zero_or_pos kk with h0 | h0
          · exact .inl h0
          · refine .inr ⟨Lp.spA l (kk - 1), h0, SG.out (kk - 1) (by omega), ?_⟩
            rw [XS.out]
            show ¬ (kk : Int) + 1 ≤ ((kk - 1 : Nat) : Int) + 1
            omega
        clear hx
        have TAIL : True := trivial
        rcases PREV with h0 | ⟨p, h0, hp, hq⟩
        · have z0 : decide (0 < (kk : Int)) = false := bf (by omega)
          have v0 := (X6.out) 0 _ rfl; have v1 := (X6.out) 1 _ rfl; (try simp only [Nat.add_zero] at v0); (try simp only [Nat.zero_add] at v0 v1)
          have u0 := (L6.out) 0 _ rfl; have u1 := (L6.out) 1 _ rfl; have u2 := (L6.out) 2 _ rfl; have u3 := (L6.out) 3 _ rfl; have u4 := (L6.out) 4 _ rfl; have u5 := (L6.out) 5 _ rfl; have u6 := (L6.out) 6 _ rfl; (try simp only [Nat.add_zero] at u0); (try simp only [Nat.zero_add] at u0 u1 u2 u3 u4 u5 u6)
          go_wp2_with fail
          go_quiet (fail)
          have G7 : Aside (Gr w2 (w6.drewN nq)) := G6.out.drewN _
          have L7 := Lib.hid (L6.out.gr (Gr.drewN (Gr.refl w6) nq))
          have X7 := Lib.hid (X6.out.gr (Gr.drewN (Gr.refl w6) nq))
          have FA7 : Aside (At encF (w6.drewN nq) bf' of' ⟨2 * l.id, l.se, l.co, l.pe, l.ph, x.s⟩) := FA6.out.gr (Gr.drewN (Gr.refl w6) nq)
          have FB7 : Aside (At encF (w6.drewN nq) bf' (of' + 6) ⟨2 * l.id + 1, l.co, l.ac, l.pe, m, x.a⟩) := FB6.out.gr (Gr.drewN (Gr.refl w6) nq)
          generalize w6.drewN nq = w7 at G7 L7 X7 FA7 FB7 ⊢
          clear v0 v1 u0 u1 u2 u3 u4 u5 u6 L6 X6 L6' X6' FA6 FB6 G6
          have KF : Aside (∀ W, Gr w7 W → (Gr w7 W ∧ W.cell? ⟨bf', of', none⟩ = some (.int .i64 (2 * l.id)) ∧ W.cell? ⟨bf', of' + 1, none⟩ = some (.int .i64 (l.se)) ∧ W.cell? ⟨bf', of' + 2, none⟩ = some (.int .i64 (l.co)) ∧ W.cell? ⟨bf', of' + 3, none⟩ = some (.int .i64 (l.pe)) ∧ W.cell? ⟨bf', of' + 4, none⟩ = some (.int .i64 (l.ph)) ∧ W.cell? ⟨bf', of' + 5, none⟩ = some (.int .i64 (x.s)) ∧ W.cell? ⟨bf', of' + 6, none⟩ = some (.int .i64 (2 * l.id + 1)) ∧ W.cell? ⟨bf', of' + 6 + 1, none⟩ = some (.int .i64 (l.co)) ∧ W.cell? ⟨bf', of' + 6 + 2, none⟩ = some (.int .i64 (l.ac)) ∧ W.cell? ⟨bf', of' + 6 + 3, none⟩ = some (.int .i64 (l.pe)) ∧ W.cell? ⟨bf', of' + 6 + 4, none⟩ = some (.int .i64 (m)) ∧ W.cell? ⟨bf', of' + 6 + 5, none⟩ = some (.int .i64 (x.a)))) := fun W gW => by
            have q1 := FA7.out.gr gW
            have q2 := FB7.out.gr gW
            exact ⟨gW, by simpa using q1 0 _ rfl, by simpa using q1 1 _ rfl, by simpa using q1 2 _ rfl, by simpa using q1 3 _ rfl, by simpa using q1 4 _ rfl, by simpa using q1 5 _ rfl, by simpa using q2 0 _ rfl, by simpa using q2 1 _ rfl, by simpa using q2 2 _ rfl, by simpa using q2 3 _ rfl, by simpa using q2 4 _ rfl, by simpa using q2 5 _ rfl⟩
          go_wp2_with fail
          go_region_held3 (fun W => Gr w7 W ∧ W.cell? ⟨bf', of', none⟩ = some (.int .i64 (2 * l.id)) ∧ W.cell? ⟨bf', of' + 1, none⟩ = some (.int .i64 (l.se)) ∧ W.cell? ⟨bf', of' + 2, none⟩ = some (.int .i64 (l.co)) ∧ W.cell? ⟨bf', of' + 3, none⟩ = some (.int .i64 (l.pe)) ∧ W.cell? ⟨bf', of' + 4, none⟩ = some (.int .i64 (l.ph)) ∧ W.cell? ⟨bf', of' + 5, none⟩ = some (.int .i64 (x.s)) ∧ W.cell? ⟨bf', of' + 6, none⟩ = some (.int .i64 (2 * l.id + 1)) ∧ W.cell? ⟨bf', of' + 6 + 1, none⟩ = some (.int .i64 (l.co)) ∧ W.cell? ⟨bf', of' + 6 + 2, none⟩ = some (.int .i64 (l.ac)) ∧ W.cell? ⟨bf', of' + 6 + 3, none⟩ = some (.int .i64 (l.pe)) ∧ W.cell? ⟨bf', of' + 6 + 4, none⟩ = some (.int .i64 (m)) ∧ W.cell? ⟨bf', of' + 6 + 5, none⟩ = some (.int .i64 (x.a))) ((refine KF.out _ ?_; (repeat (first | assumption | exact And.left (by assumption) | exact Gr.refl _ | refine Gr.drew ?_ | refine Gr.alloc ?_ _ | refine Gr.setCell ?_ (by first | exact Nat.le_refl _ | omega) _ | refine Gr.trans ?_ (by assumption))))) ((fail))
          all_goals
            clear KF
            have hgg := G7.out
            have v0 := (X7.out) 0 _ rfl; have v1 := (X7.out) 1 _ rfl; (try simp only [Nat.add_zero] at v0); (try simp only [Nat.zero_add] at v0 v1)
            have u0 := (L7.out) 0 _ rfl; have u1 := (L7.out) 1 _ rfl; have u2 := (L7.out) 2 _ rfl; have u3 := (L7.out) 3 _ rfl; have u4 := (L7.out) 4 _ rfl; have u5 := (L7.out) 5 _ rfl; have u6 := (L7.out) 6 _ rfl; (try simp only [Nat.add_zero] at u0); (try simp only [Nat.zero_add] at u0 u1 u2 u3 u4 u5 u6)
            have hz := L7.out.lt rfl
            have hz2 := X7.out.lt rfl
            go_wp2_with fail
            go_roundg (n - (kk + 1))
            case measure => omega
            case rel => exact ⟨kk + 1, by omega, by omega, by go_num, (show Gr _ _ by (repeat (first | assumption | exact And.left (by assumption) | exact Gr.refl _ | refine Gr.drew ?_ | refine Gr.alloc ?_ _ | refine Gr.setCell ?_ (by first | exact Nat.le_refl _ | omega) _ | refine Gr.trans ?_ (by assumption))))⟩
        · have z0 : decide (0 < (kk : Int)) = true := bt (by omega)
          have z1 : IntKind.i64.wrap ((kk : Int) - 1) = ((kk - 1 : Nat) : Int) := by rw [IntWalk.i64_in _ (by omega)]; omega
          have z2 : ((kk - 1 : Nat) : Int) < (n : Int) := by omega
          have z3 : decide (x.s ≤ p.s) = false := bf hq
          have z4 : (0 : Int) ≤ ((kk - 1 : Nat) : Int) := by omega
          have P0 := (RU.out (kk - 1) p hp).gr G6.out
          have p0 := (P0) 0 _ rfl; have p1 := (P0) 1 _ rfl; (try simp only [Nat.add_zero] at p0); (try simp only [Nat.zero_add] at p0 p1)
          clear hq hp P0
          have v0 := (X6.out) 0 _ rfl; have v1 := (X6.out) 1 _ rfl; (try simp only [Nat.add_zero] at v0); (try simp only [Nat.zero_add] at v0 v1)
          have u0 := (L6.out) 0 _ rfl; have u1 := (L6.out) 1 _ rfl; have u2 := (L6.out) 2 _ rfl; have u3 := (L6.out) 3 _ rfl; have u4 := (L6.out) 4 _ rfl; have u5 := (L6.out) 5 _ rfl; have u6 := (L6.out) 6 _ rfl; (try simp only [Nat.add_zero] at u0); (try simp only [Nat.zero_add] at u0 u1 u2 u3 u4 u5 u6)
          go_wp2_with fail
          go_quiet (fail)
          have G7 : Aside (Gr w2 (w6.drewN nq)) := G6.out.drewN _
          have L7 := Lib.hid (L6.out.gr (Gr.drewN (Gr.refl w6) nq))
          have X7 := Lib.hid (X6.out.gr (Gr.drewN (Gr.refl w6) nq))
          have FA7 : Aside (At encF (w6.drewN nq) bf' of' ⟨2 * l.id, l.se, l.co, l.pe, l.ph, x.s⟩) := FA6.out.gr (Gr.drewN (Gr.refl w6) nq)
          have FB7 : Aside (At encF (w6.drewN nq) bf' (of' + 6) ⟨2 * l.id + 1, l.co, l.ac, l.pe, m, x.a⟩) := FB6.out.gr (Gr.drewN (Gr.refl w6) nq)
          generalize w6.drewN nq = w7 at G7 L7 X7 FA7 FB7 ⊢
          clear v0 v1 u0 u1 u2 u3 u4 u5 u6 L6 X6 L6' X6' FA6 FB6 G6
          have KF : Aside (∀ W, Gr w7 W → (Gr w7 W ∧ W.cell? ⟨bf', of', none⟩ = some (.int .i64 (2 * l.id)) ∧ W.cell? ⟨bf', of' + 1, none⟩ = some (.int .i64 (l.se)) ∧ W.cell? ⟨bf', of' + 2, none⟩ = some (.int .i64 (l.co)) ∧ W.cell? ⟨bf', of' + 3, none⟩ = some (.int .i64 (l.pe)) ∧ W.cell? ⟨bf', of' + 4, none⟩ = some (.int .i64 (l.ph)) ∧ W.cell? ⟨bf', of' + 5, none⟩ = some (.int .i64 (x.s)) ∧ W.cell? ⟨bf', of' + 6, none⟩ = some (.int .i64 (2 * l.id + 1)) ∧ W.cell? ⟨bf', of' + 6 + 1, none⟩ = some (.int .i64 (l.co)) ∧ W.cell? ⟨bf', of' + 6 + 2, none⟩ = some (.int .i64 (l.ac)) ∧ W.cell? ⟨bf', of' + 6 + 3, none⟩ = some (.int .i64 (l.pe)) ∧ W.cell? ⟨bf', of' + 6 + 4, none⟩ = some (.int .i64 (m)) ∧ W.cell? ⟨bf', of' + 6 + 5, none⟩ = some (.int .i64 (x.a)))) := fun W gW => by
            have q1 := FA7.out.gr gW
            have q2 := FB7.out.gr gW
            exact ⟨gW, by simpa using q1 0 _ rfl, by simpa using q1 1 _ rfl, by simpa using q1 2 _ rfl, by simpa using q1 3 _ rfl, by simpa using q1 4 _ rfl, by simpa using q1 5 _ rfl, by simpa using q2 0 _ rfl, by simpa using q2 1 _ rfl, by simpa using q2 2 _ rfl, by simpa using q2 3 _ rfl, by simpa using q2 4 _ rfl, by simpa using q2 5 _ rfl⟩
          go_wp2_with fail
          go_region_held3 (fun W => Gr w7 W ∧ W.cell? ⟨bf', of', none⟩ = some (.int .i64 (2 * l.id)) ∧ W.cell? ⟨bf', of' + 1, none⟩ = some (.int .i64 (l.se)) ∧ W.cell? ⟨bf', of' + 2, none⟩ = some (.int .i64 (l.co)) ∧ W.cell? ⟨bf', of' + 3, none⟩ = some (.int .i64 (l.pe)) ∧ W.cell? ⟨bf', of' + 4, none⟩ = some (.int .i64 (l.ph)) ∧ W.cell? ⟨bf', of' + 5, none⟩ = some (.int .i64 (x.s)) ∧ W.cell? ⟨bf', of' + 6, none⟩ = some (.int .i64 (2 * l.id + 1)) ∧ W.cell? ⟨bf', of' + 6 + 1, none⟩ = some (.int .i64 (l.co)) ∧ W.cell? ⟨bf', of' + 6 + 2, none⟩ = some (.int .i64 (l.ac)) ∧ W.cell? ⟨bf', of' + 6 + 3, none⟩ = some (.int .i64 (l.pe)) ∧ W.cell? ⟨bf', of' + 6 + 4, none⟩ = some (.int .i64 (m)) ∧ W.cell? ⟨bf', of' + 6 + 5, none⟩ = some (.int .i64 (x.a))) ((refine KF.out _ ?_; (repeat (first | assumption | exact And.left (by assumption) | exact Gr.refl _ | refine Gr.drew ?_ | refine Gr.alloc ?_ _ | refine Gr.setCell ?_ (by first | exact Nat.le_refl _ | omega) _ | refine Gr.trans ?_ (by assumption))))) ((fail))
          all_goals
            clear KF
            have hgg := G7.out
            have v0 := (X7.out) 0 _ rfl; have v1 := (X7.out) 1 _ rfl; (try simp only [Nat.add_zero] at v0); (try simp only [Nat.zero_add] at v0 v1)
            have u0 := (L7.out) 0 _ rfl; have u1 := (L7.out) 1 _ rfl; have u2 := (L7.out) 2 _ rfl; have u3 := (L7.out) 3 _ rfl; have u4 := (L7.out) 4 _ rfl; have u5 := (L7.out) 5 _ rfl; have u6 := (L7.out) 6 _ rfl; (try simp only [Nat.add_zero] at u0); (try simp only [Nat.zero_add] at u0 u1 u2 u3 u4 u5 u6)
            have hz := L7.out.lt rfl
            have hz2 := X7.out.lt rfl
            go_wp2_with fail
            go_roundg (n - (kk + 1))
            case measure => omega
            case rel => exact ⟨kk + 1, by omega, by omega, by go_num, (show Gr _ _ by (repeat (first | assumption | exact And.left (by assumption) | exact Gr.refl _ | refine Gr.drew ?_ | refine Gr.alloc ?_ _ | refine Gr.setCell ?_ (by first | exact Nat.le_refl _ | omega) _ | refine Gr.trans ?_ (by assumption))))⟩
      · have hltz : ¬ (kk : Int) < (n : Int) := by omega
        have L3 := Lib.hid (L2.out.gr G.out)
        have S3 := Lib.hid (S2.out.gr G.out)
        have u0 := (L3.out) 0 _ rfl; have u1 := (L3.out) 1 _ rfl; have u2 := (L3.out) 2 _ rfl; have u3 := (L3.out) 3 _ rfl; have u4 := (L3.out) 4 _ rfl; have u5 := (L3.out) 5 _ rfl; have u6 := (L3.out) 6 _ rfl; (try simp only [Nat.add_zero] at u0); (try simp only [Nat.zero_add] at u0 u1 u2 u3 u4 u5 u6)
        have v0 := (S3.out) 0 _ rfl; have v1 := (S3.out) 1 _ rfl; (try simp only [Nat.add_zero] at v0); (try simp only [Nat.zero_add] at v0 v1)
        have hz := L3.out.lt rfl
        have hz2 := S3.out.lt rfl
        go_wp2_with fail
        refine (worst_any l s _).mono ?_
        rintro e w4 ⟨rfl, g4⟩
        have G4 : Aside (Gr w w4) := GO.out.trans g4
        have S4 := Lib.hid (S3.out.gr g4)
        have R4 := Lib.hid (RS2.out.gr (G.out.trans g4))
        clear g4 L3 S3 u0 u1 u2 u3 u4 u5 u6 v0 v1 hz hz2
        go_wp2_with fail
        refine (wide_all s _ _ _ _ R4.out S4.out (by rw [SLN.out]; omega)).mono ?_
        rintro e w5 ⟨rfl, g5⟩
        have G5 : Aside (Gr w w5) := G4.out.trans g5
        have S5 := Lib.hid (S4.out.gr g5)
        clear g5 S4 R4
        have v0 := (S5.out) 0 _ rfl; have v1 := (S5.out) 1 _ rfl; (try simp only [Nat.add_zero] at v0); (try simp only [Nat.zero_add] at v0 v1)
        have hz2 := S5.out.lt rfl
        have CV := COV.out
        obtain ⟨cv, hcv⟩ : ∃ cv, (Lp.spl l).any (Lp.covB s) = cv := ⟨_, rfl⟩
        rw [hcv] at CV ⊢
        obtain ⟨rg, hrg⟩ : ∃ rg, Lp.rgt l s = rg := ⟨_, rfl⟩
        rw [hrg] at CV ⊢
        have CVH := Lib.hid CV
        clear hcv hrg CV
        cases cv with
        | true =>
          by_cases ha : 1 ≤ s.a
          · have hr : rg = 0 := by have := CVH.out; rw [decide_eq_true ha] at this; simpa using this
            subst hr
            go_wp2_with fail
            go_ret
            exact ⟨rfl, G5.out⟩
          · have hr : (rg == 0) = false := by have := CVH.out; rw [decide_eq_false ha] at this; simpa using this
            have ha2 : decide (1 ≤ s.a) = false := bf ha
            go_wp2_with fail
            go_ret
            exact ⟨rfl, G5.out⟩
        | false =>
          have hr : (rg == 0) = false := by have := CVH.out; simpa using this
          go_wp2_with fail
          go_ret
          exact ⟨rfl, G5.out⟩
  · have R : Lp.spl l = [] := Lp.spl_no (by simpa using hf)
    obtain ⟨A, c, rfl⟩ := RS.out.slice
    rw [R, show ([] : List Sp).length = 0 from rfl]
    generalize Lp.flt 32 l = E at *
    clear R RS
    go_wp2_with fail
    go_ret
    exact ⟨rfl, G2.out⟩
end Go.Proofs.Ytckkjiaoaeaaoaa.loopWide

