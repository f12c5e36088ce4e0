/- The walk of LoopBound: the Go text returns true. (Printed in part by mklaw50.py.) -/
import Derived.Test.YtckkjiaoaeaaoaaLopFew
import Derived.Test.YtckkjiaoaeaaoaaLopDel
import Derived.Test.YtckkjiaoaeaaoaaLopLate
import Derived.Test.YtckkjiaoaeaaoaaLopOkU
import Derived.Test.YtckkjiaoaeaaoaaHeld
namespace Go.Proofs.Ytckkjiaoaeaaoaa.loopBound
open Go.RowKit Go.Sort
set_option linter.unusedVariables false

set_option maxHeartbeats 8000000 in
set_option maxRecDepth 100000 in
theorem walk (l0 l1 l2 l3 l4 l5 l6 s0 s1 : Int) (samples : Int) (v3 : Value) (sense : List Int) (v4 : Value) (act : List Int) (wl0 : (Lit.int .i64 l0).wf = true) (wl1 : (Lit.int .i64 l1).wf = true) (wl2 : (Lit.int .i64 l2).wf = true) (wl3 : (Lit.int .i64 l3).wf = true) (wl4 : (Lit.int .i64 l4).wf = true) (wl5 : (Lit.int .i64 l5).wf = true) (wl6 : (Lit.int .i64 l6).wf = true) (ws0 : (Lit.int .i64 s0).wf = true) (ws1 : (Lit.int .i64 s1).wf = true) (wsamples : (Lit.int .u8 samples).wf = true) (w : World)
    (r3 : Rows 1 encU w v3 sense) (b3 : (sense.length : Int) ≤ 9223372036854775807) (k3 : ∀ A n c, v3 = .slice A n c → n ≤ c ∧ c ≤ 9223372036854775807) (w3 : ∀ x ∈ sense, okU x)
    (r4 : Rows 1 encU w v4 act) (b4 : (act.length : Int) ≤ 9223372036854775807) (k4 : ∀ A n c, v4 = .slice A n c → n ≤ c ∧ c ≤ 9223372036854775807) (w4 : ∀ x ∈ act, okU x) :
    Calls Try.prog 7 #[.agg #[.int .i64 l0, .int .i64 l1, .int .i64 l2, .int .i64 l3, .int .i64 l4, .int .i64 l5, .int .i64 l6], .agg #[.int .i64 s0, .int .i64 s1], .int .u8 samples, v3, v4] w fun e w' => e = .returned (.bool true) ∧ Gr w w' := by
  clear wl0 wl1 wl2 wl3 wl4 wl5 wl6 ws0 ws1
  obtain ⟨l, hl⟩ : ∃ l : Lo, l = ⟨l0, l1, l2, l3, l4, l5, l6⟩ := ⟨_, rfl⟩
  obtain ⟨s, hs⟩ : ∃ s : Sp, s = ⟨s0, s1⟩ := ⟨_, rfl⟩
  have e0 : l0 = l.id := by rw [hl]
  have e1 : l1 = l.se := by rw [hl]
  have e2 : l2 = l.co := by rw [hl]
  have e3 : l3 = l.ac := by rw [hl]
  have e4 : l4 = l.pe := by rw [hl]
  have e5 : l5 = l.ph := by rw [hl]
  have e6 : l6 = l.ag := by rw [hl]
  have e7 : s0 = s.s := by rw [hs]
  have e8 : s1 = s.a := by rw [hs]
  clear hl hs
  subst e0 e1 e2 e3 e4 e5 e6 e7 e8
  obtain ⟨sm0, sm1⟩ := bounds_u8 wsamples
  clear wsamples k3 k4
  have DELV := Lib.hid (fun (N : Nat) (W : World) (hr : Lp.rgt l s = 0) (hN : N ≤ 8) (g : Gr w W) => deliver_any l s N v3 v4 sense act W hr hN (r3.gr g) (r4.gr g) b3 b4 w3 w4)
  have LA := Lib.hid (fun (h : 1 ≤ s.s) i => Lp.lat_bd h sense i)
  have LB := Lib.hid (fun (h : 1 ≤ s.a) i => Lp.lat_bd h act i)
  generalize Lp.lat s.s sense = la at DELV LA
  generalize Lp.lat s.a act = lb at DELV LB
  obtain ⟨A3, c3, rfl⟩ := r3.slice
  obtain ⟨A4, c4, rfl⟩ := r4.slice
  obtain ⟨n3, hn3⟩ : ∃ n, sense.length = n := ⟨_, rfl⟩
  obtain ⟨n4, hn4⟩ : ∃ n, act.length = n := ⟨_, rfl⟩
  rw [hn3] at b3 DELV ⊢
  rw [hn4] at b4 DELV ⊢
  clear r3 r4 w3 w4 hn3 hn4
  go_enter Try.func7, Try.ntmps7
  go_wp2_with fail
  obtain ⟨L0, S0⟩ := boxed2 (enc := encL) (enc2 := encP) (x := l) (y := s) (Gr.refl ((w.alloc (Obj.cells (encL l).toArray 23)).alloc (Obj.cells (encP s).toArray 25)))
  have G0 : Aside (Gr w ((w.alloc (Obj.cells (encL l).toArray 23)).alloc (Obj.cells (encP s).toArray 25))) := Gr.alloc (Gr.alloc (Gr.refl _) _) _
  generalize ((w.alloc (Obj.cells (encL l).toArray 23)).alloc (Obj.cells (encP s).toArray 25)) = w0 at L0 S0 G0 ⊢
  refine (lawake_any _).mono ?_
  rintro e w1 ⟨rfl, g1⟩
  have G1 : Aside (Gr w w1) := G0.out.trans g1
  have L1 := Lib.hid (L0.gr g1)
  have S1 := Lib.hid (S0.gr g1)
  clear g1 L0 S0 G0
  have u0 := (L1.out) 0 _ rfl; have u1 := (L1.out) 1 _ rfl; have u2 := (L1.out) 2 _ rfl; have u3 := (L1.out) 3 _ rfl; have u4 := (L1.out) 4 _ rfl; have u5 := (L1.out) 5 _ rfl; have u6 := (L1.out) 6 _ rfl; (try simp only [Nat.add_zero] at u0); (try simp only [Nat.zero_add] at u0 u1 u2 u3 u4 u5 u6)
  have v0 := (S1.out) 0 _ rfl; have v1 := (S1.out) 1 _ rfl; (try simp only [Nat.add_zero] at v0); (try simp only [Nat.zero_add] at v0 v1)
  have hz := L1.out.lt rfl
  have hz2 := S1.out.lt rfl
  by_cases h3 : 10 < n3
  · have z3 : (10 : Int) < (n3 : Int) := by omega
    go_wp2_with fail
    refine (lawake_any _).mono ?_
    rintro e w3 ⟨rfl, g3⟩
    have G3 : Aside (Gr w w3) := G1.out.trans g3
    go_wp2_with fail
    go_ret
    exact ⟨rfl, G3.out⟩
  · have z3 : ¬ (10 : Int) < (n3 : Int) := by omega
    by_cases h4 : 10 < n4
    · have z4 : (10 : Int) < (n4 : Int) := by omega
      go_wp2_with fail
      refine (lawake_any _).mono ?_
      rintro e w3 ⟨rfl, g3⟩
      have G3 : Aside (Gr w w3) := G1.out.trans g3
      go_wp2_with fail
      go_ret
      exact ⟨rfl, G3.out⟩
    · have z4 : ¬ (10 : Int) < (n4 : Int) := by omega
      by_cases h30 : 30 < l.pe
      · go_wp2_with fail
        refine (lawake_any _).mono ?_
        rintro e w3 ⟨rfl, g3⟩
        have G3 : Aside (Gr w w3) := G1.out.trans g3
        go_wp2_with fail
        go_ret
        exact ⟨rfl, G3.out⟩
      · have hb30 : decide (30 < l.pe) = false := bf h30
        go_wp2_with fail
        refine (worst_any l s _).mono ?_
        rintro e w2 ⟨rfl, g2⟩
        have G2 : Aside (Gr w w2) := G1.out.trans g2
        have L2 := Lib.hid (L1.out.gr g2)
        have S2 := Lib.hid (S1.out.gr g2)
        clear g2 u0 u1 u2 u3 u4 u5 u6 v0 v1 hz hz2 L1 S1 G1 hb30 h3 h4
        rcases Lp.rgt_cases l s with hr | hr
        · have WN : Lp.wstN l s = Lp.wst l s := if_pos hr
          rw [WN, hr]
          obtain ⟨⟨⟨-, ⟨p1, p2⟩, ⟨p3, p4⟩, ⟨p5, p6⟩⟩, -⟩, f1, f2, f3, f4, f5, f6⟩ := Lp.rgt_inv hr
          have y0 := Int.emod_nonneg samples (show (8 : Int) ≠ 0 by decide)
          have y1 := Int.emod_lt_of_pos samples (show (0 : Int) < 8 by decide)
          have y2 : samples.tmod 8 = samples % 8 := Int.tmod_eq_emod_of_nonneg sm0
          obtain ⟨m, hm⟩ : ∃ m : Nat, samples % 8 = (m : Int) := ⟨(samples % 8).toNat, by omega⟩
          rw [hm] at y0 y1 y2
          have m8 : m < 8 := by omega
          have hN : 1 + (m : Int) = ((m + 1 : Nat) : Int) := by omega
          have hN2 : ((m + 1 : Nat) : Int) - 1 = (m : Int) := by omega
          have NB : ((m + 1 : Nat) : Int) ≤ 8 := by omega
          have NB0 : 0 ≤ ((m + 1 : Nat) : Int) := by omega
          obtain ⟨q, hq⟩ : ∃ q, (m : Int) * l.pe = q := ⟨_, rfl⟩
          have q0 : 0 ≤ q := by rw [← hq]; exact Int.mul_nonneg (by omega) (by omega)
          have q1 : q ≤ 210 := by
            have : (m : Int) * l.pe ≤ 7 * 30 := Int.mul_le_mul (by omega) (by omega) (by omega) (by decide)
            omega
          have WS : Hid (Lp.wst l s = l.pe + s.s + s.a - 1) := (show _ = _ from rfl)
          obtain ⟨wb0, wb1⟩ : 0 ≤ Lp.wst l s ∧ Lp.wst l s ≤ l.ag := by have := WS.out; omega
          obtain ⟨E, hE⟩ : ∃ E : Nat, l.ph + q + Lp.wst l s + 1 = (E : Int) := ⟨(l.ph + q + Lp.wst l s + 1).toNat, by omega⟩
          have OD : Lp.okD l s la lb (m + 1) := ⟨hr, fun i => LA.out f1 i, fun i => LB.out f2 i, by omega⟩
          have AD := Lib.hid (fun (k : Nat) (hk : (k : Int) < (E : Int)) => Lp.age_d OD (by omega) k (by rw [Nat.add_sub_cancel, hq, hE]; exact hk))
          have E4 : (E : Int) ≤ 4096 := by omega
          have DL : (Lp.dlv l s la lb (m + 1)).length = 2 * (m + 1) := Lp.dlv_len _ _ _ _ _
          have KA : Lp.chkA l s (Lp.dlv l s la lb (m + 1)).length (E : Int) = 0 := Lp.chkA_ok hr (by omega) (by rw [DL]; omega)
          have AR : Lp.ageR l s (Lp.dlv l s la lb (m + 1)) (E : Int) = Lp.ageL (Lp.fa l s) (Lp.fb l s) (Lp.dlv l s la lb (m + 1)) E := if_pos KA
          have DEL := Lib.hid (fun (W : World) (g : Gr w W) => DELV.out (m + 1) W hr (by omega) g)
          have AGE := Lib.hid (fun (v : Value) (W : World) h => agesE_any l s v (Lp.dlv l s la lb (m + 1)) (E : Int) W h)
          have LAT := Lib.hid (fun (v : Value) (W : World) h => late_any l s v (Lp.dlv l s la lb (m + 1)) (E : Int) W h)
          have LR : Lp.lateR l s (Lp.dlv l s la lb (m + 1)) (E : Int) = Lp.late l.ag (Lp.ageL (Lp.fa l s) (Lp.fb l s) (Lp.dlv l s la lb (m + 1)) E) E := by unfold Lp.lateR; rw [AR, Lp.ageL_len]
          rw [LR, KA] at LAT
          rw [AR, KA] at AGE
          generalize Lp.dlv l s la lb (m + 1) = D at *
          have AL1 : Hid ((Lp.ageL (Lp.fa l s) (Lp.fb l s) D E).length = E) := (show _ = _ from Lp.ageL_len _ _ _ _)
          have AL2 : Hid (∀ k, k < E → (Lp.ageL (Lp.fa l s) (Lp.fb l s) D E)[k]? = some (Lp.age (Lp.fa l s) (Lp.fb l s) D k)) := (show ∀ k, _ → _ = _ from fun k hk => by unfold Lp.ageL; rw [List.getElem?_map, List.getElem?_range hk]; rfl)
          obtain ⟨AG, hAG⟩ : ∃ AG, Lp.age (Lp.fa l s) (Lp.fb l s) D = AG := ⟨_, rfl⟩
          rw [hAG] at AL2 AD
          generalize Lp.ageL (Lp.fa l s) (Lp.fb l s) D E = AL at *
          generalize Lp.wst l s = ws at *
          have LZ : Lp.late l.ag AL E = [] := Lp.late_none (fun i x hi hx => by
            have h1 := AL2.out i hi
            rw [hx] at h1
            cases h1
            have := (AD.out i (by omega)).1
            omega) (by rw [AL1.out]; exact Nat.le_refl _)
          rw [LZ] at LAT
          clear OD DL KA AR LR LZ hAG hr hm WN DELV LA LB
          have u0 := (L2.out) 0 _ rfl; have u1 := (L2.out) 1 _ rfl; have u2 := (L2.out) 2 _ rfl; have u3 := (L2.out) 3 _ rfl; have u4 := (L2.out) 4 _ rfl; have u5 := (L2.out) 5 _ rfl; have u6 := (L2.out) 6 _ rfl; (try simp only [Nat.add_zero] at u0); (try simp only [Nat.zero_add] at u0 u1 u2 u3 u4 u5 u6)
          have v0 := (S2.out) 0 _ rfl; have v1 := (S2.out) 1 _ rfl; (try simp only [Nat.add_zero] at v0); (try simp only [Nat.zero_add] at v0 v1)
          have hz := L2.out.lt rfl
          have hz2 := S2.out.lt rfl
          go_wp2_with fail
          have mixed : Try.prog.follows .mixedOrders = true := by kernel_rfl
          clear u0 u1 u2 u3 u4 u5 u6 v0 v1 hz hz2 y2 hq
          have KG : Aside (∀ W, Gr w2 W → (Gr w2 W ∧ W.cell? ⟨w.heap.size, 0, none⟩ = some (.int .i64 l.id) ∧ W.cell? ⟨w.heap.size, 1, none⟩ = some (.int .i64 l.se) ∧ W.cell? ⟨w.heap.size, 2, none⟩ = some (.int .i64 l.co) ∧ W.cell? ⟨w.heap.size, 3, none⟩ = some (.int .i64 l.ac) ∧ W.cell? ⟨w.heap.size, 4, none⟩ = some (.int .i64 l.pe) ∧ W.cell? ⟨w.heap.size, 5, none⟩ = some (.int .i64 l.ph) ∧ W.cell? ⟨w.heap.size, 6, none⟩ = some (.int .i64 l.ag) ∧ W.cell? ⟨w.heap.size + 1, 0, none⟩ = some (.int .i64 s.s) ∧ W.cell? ⟨w.heap.size + 1, 1, none⟩ = some (.int .i64 s.a))) := fun W gW => by
            have q1 := L2.out.gr gW
            have q2 := S2.out.gr gW
            exact ⟨gW, by simpa using q1 0 _ rfl, by simpa using q1 1 _ rfl, by simpa using q1 2 _ rfl, by simpa using q1 3 _ rfl, by simpa using q1 4 _ rfl, by simpa using q1 5 _ rfl, by simpa using q1 6 _ rfl, by simpa using q2 0 _ rfl, by simpa using q2 1 _ rfl⟩
          apply wp_join2 (F := fun W v1 v2 => Gr w2 W ∧ Rows 1 encI W v2 AL)
          case h =>
            go_region_held3 (fun W => Gr w2 W ∧ W.cell? ⟨w.heap.size, 0, none⟩ = some (.int .i64 l.id) ∧ W.cell? ⟨w.heap.size, 1, none⟩ = some (.int .i64 l.se) ∧ W.cell? ⟨w.heap.size, 2, none⟩ = some (.int .i64 l.co) ∧ W.cell? ⟨w.heap.size, 3, none⟩ = some (.int .i64 l.ac) ∧ W.cell? ⟨w.heap.size, 4, none⟩ = some (.int .i64 l.pe) ∧ W.cell? ⟨w.heap.size, 5, none⟩ = some (.int .i64 l.ph) ∧ W.cell? ⟨w.heap.size, 6, none⟩ = some (.int .i64 l.ag) ∧ W.cell? ⟨w.heap.size + 1, 0, none⟩ = some (.int .i64 s.s) ∧ W.cell? ⟨w.heap.size + 1, 1, none⟩ = some (.int .i64 s.a)) ((refine KG.out _ ?_; (repeat (first | assumption | exact And.left (by assumption) | exact Gr.refl _ | refine Gr.drew ?_ | refine Gr.alloc ?_ _ | refine Gr.setCell ?_ (by first | exact Nat.le_refl _ | omega) _ | refine Gr.trans ?_ (by assumption)))))
                ((first
                  | (go_at_call 14; refine (DEL.out _ (G2.out.trans (And.left (by assumption)))).mono ?_; rintro e w9 ⟨a1, rfl, Q1, k1⟩)
                  | (go_at_call 13; refine (AGE.out _ _ (by (repeat (first | assumption | refine Rows.gr ?_ (by assumption))))).mono ?_; rintro e w9 ⟨a2, rfl, Q2, k2⟩)))
            all_goals exact ⟨rfl, a1, a2, rfl, (‹Gr w2 _ ∧ _›).1, Q2⟩
          case k =>
            intro a1 a2 w5 hF
            obtain ⟨g5, r5⟩ := hF
            have RA5 := Lib.hid r5
            have G5 : Aside (Gr w w5) := G2.out.trans g5
            have L5 := Lib.hid (L2.out.gr g5)
            have S5 := Lib.hid (S2.out.gr g5)
            clear g5 KG r5 L2 S2
            obtain ⟨A5, c5, rfl⟩ := RA5.out.slice
            have RA6 : Hid (Rows 1 encI w5 (.slice A5 E c5) AL) := by have := RA5.out; rw [AL1.out] at this; exact this
            rw [AL1.out]
            clear RA5
            go_wp2_with fail
            go_loopg [10, 17, 18, 87] E (fun gg _ _ _ s87 wr => ∃ kk : Nat, kk ≤ E ∧ E - kk ≤ gg ∧ s87 = .int .i64 (kk : Int) ∧ Aside (Gr w5 wr))
            case atStart => exact ⟨0, Nat.zero_le _, by omega, rfl, Gr.refl _⟩
            case round =>
              obtain ⟨kk, hkk, hgg, rfl, GX⟩ := hrel
              have GO : Aside (Gr w wr) := G5.out.trans GX.out
              have L6 := Lib.hid (L5.out.gr GX.out)
              have S6 := Lib.hid (S5.out.gr GX.out)
              have u0 := (L6.out) 0 _ rfl; have u1 := (L6.out) 1 _ rfl; have u2 := (L6.out) 2 _ rfl; have u3 := (L6.out) 3 _ rfl; have u4 := (L6.out) 4 _ rfl; have u5 := (L6.out) 5 _ rfl; have u6 := (L6.out) 6 _ rfl; (try simp only [Nat.add_zero] at u0); (try simp only [Nat.zero_add] at u0 u1 u2 u3 u4 u5 u6)
              have v0 := (S6.out) 0 _ rfl; have v1 := (S6.out) 1 _ rfl; (try simp only [Nat.add_zero] at v0); (try simp only [Nat.zero_add] at v0 v1)
              have hz := L6.out.lt rfl
              have hz2 := S6.out.lt rfl
              by_cases hlt : kk < E
              · have hltz : (kk : Int) < (E : Int) := by omega
                obtain ⟨d1, d2⟩ := AD.out kk hltz
                have hx := AL2.out kk hlt
                rcases RA6.out with ⟨h, _⟩ | ⟨b, off, ca, hb, hv, hc⟩
                · rw [h] at hx; simp at hx
                simp only [Value.slice.injEq] at hv
                obtain ⟨rfl, -, rfl⟩ := hv
                have ck := held_keep GX.out (hc kk _ hx 0 _ rfl)
                rw [Nat.mul_one, Nat.add_zero] at ck
                have hbr := block_lt_of_cell ck
                generalize AG kk = x at *
                have e1 : decide (ws < x) = false := bf (by omega)
                clear hb hc hx
                by_cases hneg : x < 0
                · have d3 := d2 hneg
                  clear d2
                  have e2 : decide (l.ph + s.s + s.a ≤ (kk : Int)) = false := bf (by omega)
                  go_wp2_with fail
                  go_roundg (E - (kk + 1))
                  case measure => omega
                  case rel => exact ⟨kk + 1, by omega, by omega, by go_num, GX.out⟩
                · clear d2
                  have e2 : decide (x < 0) = false := bf hneg
                  go_wp2_with fail
                  go_roundg (E - (kk + 1))
                  case measure => omega
                  case rel => exact ⟨kk + 1, by omega, by omega, by go_num, GX.out⟩
              · have hltz : ¬ (kk : Int) < (E : Int) := by omega
                obtain ⟨wy, rfl⟩ : ∃ wy, wy = wr := ⟨_, rfl⟩
                go_wp2_with fail
                clear u0 u1 u2 u3 u4 u5 u6 v0 v1 hz hz2
                have KG : Aside (∀ W, Gr wy W → (Gr wy W ∧ W.cell? ⟨w.heap.size, 0, none⟩ = some (.int .i64 l.id) ∧ W.cell? ⟨w.heap.size, 1, none⟩ = some (.int .i64 l.se) ∧ W.cell? ⟨w.heap.size, 2, none⟩ = some (.int .i64 l.co) ∧ W.cell? ⟨w.heap.size, 3, none⟩ = some (.int .i64 l.ac) ∧ W.cell? ⟨w.heap.size, 4, none⟩ = some (.int .i64 l.pe) ∧ W.cell? ⟨w.heap.size, 5, none⟩ = some (.int .i64 l.ph) ∧ W.cell? ⟨w.heap.size, 6, none⟩ = some (.int .i64 l.ag) ∧ W.cell? ⟨w.heap.size + 1, 0, none⟩ = some (.int .i64 s.s) ∧ W.cell? ⟨w.heap.size + 1, 1, none⟩ = some (.int .i64 s.a))) := fun W gW => by
                  have q1 := L6.out.gr gW
                  have q2 := S6.out.gr gW
                  exact ⟨gW, by simpa using q1 0 _ rfl, by simpa using q1 1 _ rfl, by simpa using q1 2 _ rfl, by simpa using q1 3 _ rfl, by simpa using q1 4 _ rfl, by simpa using q1 5 _ rfl, by simpa using q1 6 _ rfl, by simpa using q2 0 _ rfl, by simpa using q2 1 _ rfl⟩
                apply wp_join2 (F := fun W v1 v2 => Gr wy W ∧ Rows 1 encI W v2 ([] : List Int))
                case h =>
                  go_region_held3 (fun W => Gr wy W ∧ W.cell? ⟨w.heap.size, 0, none⟩ = some (.int .i64 l.id) ∧ W.cell? ⟨w.heap.size, 1, none⟩ = some (.int .i64 l.se) ∧ W.cell? ⟨w.heap.size, 2, none⟩ = some (.int .i64 l.co) ∧ W.cell? ⟨w.heap.size, 3, none⟩ = some (.int .i64 l.ac) ∧ W.cell? ⟨w.heap.size, 4, none⟩ = some (.int .i64 l.pe) ∧ W.cell? ⟨w.heap.size, 5, none⟩ = some (.int .i64 l.ph) ∧ W.cell? ⟨w.heap.size, 6, none⟩ = some (.int .i64 l.ag) ∧ W.cell? ⟨w.heap.size + 1, 0, none⟩ = some (.int .i64 s.s) ∧ W.cell? ⟨w.heap.size + 1, 1, none⟩ = some (.int .i64 s.a)) ((refine KG.out _ ?_; (repeat (first | assumption | exact And.left (by assumption) | exact Gr.refl _ | refine Gr.drew ?_ | refine Gr.alloc ?_ _ | refine Gr.setCell ?_ (by first | exact Nat.le_refl _ | omega) _ | refine Gr.trans ?_ (by assumption)))))
                      ((first
                        | (go_at_call 14; refine (DEL.out _ (GO.out.trans (And.left (by assumption)))).mono ?_; rintro e w9 ⟨a1, rfl, Q1, k1⟩)
                        | (go_at_call 25; refine (LAT.out _ _ (by (repeat (first | assumption | refine Rows.gr ?_ (by assumption))))).mono ?_; rintro e w9 ⟨a2, rfl, Q2, k2⟩)))
                  all_goals exact ⟨rfl, a1, a2, rfl, (‹Gr wy _ ∧ _›).1, Q2⟩
                case k =>
                  intro a3 a4 w7 hF
                  obtain ⟨g7, r7⟩ := hF
                  have G7 : Aside (Gr w w7) := GO.out.trans g7
                  obtain ⟨A7, c7, rfl⟩ := r7.slice
                  rw [show ([] : List Int).length = 0 from rfl]
                  clear g7 r7 KG
                  go_wp2_with fail
                  go_ret
                  exact ⟨rfl, G7.out⟩
        · have WN : Lp.wstN l s = 0 := if_neg (by simpa using hr)
          rw [WN]
          generalize Lp.rgt l s = E at *
          go_wp2_with fail
          go_ret
          exact ⟨rfl, G2.out⟩
end Go.Proofs.Ytckkjiaoaeaaoaa.loopBound

