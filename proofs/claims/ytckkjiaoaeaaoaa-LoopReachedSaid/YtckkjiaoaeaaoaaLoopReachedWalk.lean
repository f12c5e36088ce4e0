/- The walk of LoopReached: the Go text returns true. -/
import Derived.Test.YtckkjiaoaeaaoaaLopDel
import Derived.Test.YtckkjiaoaeaaoaaHeld
namespace Go.Proofs.Ytckkjiaoaeaaoaa.loopReached
open Go.RowKit Go.Sort
set_option linter.unusedVariables false

set_option maxHeartbeats 8000000 in
set_option maxRecDepth 100000 in
theorem walk (l0 l1 l2 l3 l4 l5 l6 s0 s1 : Int) (wl0 : (Lit.int .i64 l0).wf = true) (wl1 : (Lit.int .i64 l1).wf = true) (wl2 : (Lit.int .i64 l2).wf = true) (wl3 : (Lit.int .i64 l3).wf = true) (wl4 : (Lit.int .i64 l4).wf = true) (wl5 : (Lit.int .i64 l5).wf = true) (wl6 : (Lit.int .i64 l6).wf = true) (ws0 : (Lit.int .i64 s0).wf = true) (ws1 : (Lit.int .i64 s1).wf = true) (w : World) :
    Calls Try.prog 3 #[.agg #[.int .i64 l0, .int .i64 l1, .int .i64 l2, .int .i64 l3, .int .i64 l4, .int .i64 l5, .int .i64 l6], .agg #[.int .i64 s0, .int .i64 s1]] w fun e w' => e = .returned (.bool true) ∧ Gr w w' := by
  clear wl0 wl1 wl2 wl3 wl4 wl5 wl6 ws0 ws1
  obtain ⟨l, hl⟩ : ∃ l : Lo, l = ⟨l0, l1, l2, l3, l4, l5, l6⟩ := ⟨_, rfl⟩
  obtain ⟨s, hs⟩ : ∃ s : Sp, s = ⟨s0, s1⟩ := ⟨_, rfl⟩
  have e0 : l0 = l.id := by rw [hl]
  have e1 : l1 = l.se := by rw [hl]
  have e2 : l2 = l.co := by rw [hl]
  have e3 : l3 = l.ac := by rw [hl]
  have e4 : l4 = l.pe := by rw [hl]
  have e5 : l5 = l.ph := by rw [hl]
  have e6 : l6 = l.ag := by rw [hl]
  have e7 : s0 = s.s := by rw [hs]
  have e8 : s1 = s.a := by rw [hs]
  clear hl hs
  subst e0 e1 e2 e3 e4 e5 e6 e7 e8
  go_enter Try.func3, Try.ntmps3
  go_wp2_with fail
  obtain ⟨L0, S0⟩ := boxed2 (enc := encL) (enc2 := encP) (x := l) (y := s) (Gr.refl ((w.alloc (Obj.cells (encL l).toArray 23)).alloc (Obj.cells (encP s).toArray 25)))
  have G0 : Aside (Gr w ((w.alloc (Obj.cells (encL l).toArray 23)).alloc (Obj.cells (encP s).toArray 25))) := Gr.alloc (Gr.alloc (Gr.refl _) _) _
  generalize ((w.alloc (Obj.cells (encL l).toArray 23)).alloc (Obj.cells (encP s).toArray 25)) = w0 at L0 S0 G0 ⊢
  refine (lawake_any _).mono ?_
  rintro e w1 ⟨rfl, g1⟩
  have G1 : Aside (Gr w w1) := G0.out.trans g1
  have L1 := Lib.hid (L0.gr g1)
  have S1 := Lib.hid (S0.gr g1)
  clear g1 L0 S0 G0
  have u0 := (L1.out) 0 _ rfl; have u1 := (L1.out) 1 _ rfl; have u2 := (L1.out) 2 _ rfl; have u3 := (L1.out) 3 _ rfl; have u4 := (L1.out) 4 _ rfl; have u5 := (L1.out) 5 _ rfl; have u6 := (L1.out) 6 _ rfl; (try simp only [Nat.add_zero] at u0); (try simp only [Nat.zero_add] at u0 u1 u2 u3 u4 u5 u6)
  have v0 := (S1.out) 0 _ rfl; have v1 := (S1.out) 1 _ rfl; (try simp only [Nat.add_zero] at v0); (try simp only [Nat.zero_add] at v0 v1)
  have hz := L1.out.lt rfl
  have hz2 := S1.out.lt rfl
  by_cases h30 : 30 < l.pe
  · go_wp2_with fail
    refine (lawake_any _).mono ?_
    rintro e w3 ⟨rfl, g3⟩
    have G3 : Aside (Gr w w3) := G1.out.trans g3
    go_wp2_with fail
    go_ret
    exact ⟨rfl, G3.out⟩
  · have hb30 : decide (30 < l.pe) = false := bf h30
    go_wp2_with fail
    refine (worst_any l s _).mono ?_
    rintro e w2 ⟨rfl, g2⟩
    have G2 : Aside (Gr w w2) := G1.out.trans g2
    have L2 := Lib.hid (L1.out.gr g2)
    have S2 := Lib.hid (S1.out.gr g2)
    clear g2 u0 u1 u2 u3 u4 u5 u6 v0 v1 hz hz2 L1 S1 G1 h30 hb30
    rcases Lp.rgt_cases l s with hr | hr
    · have WN : Lp.wstN l s = Lp.wst l s := if_pos hr
      rw [WN, hr]
      obtain ⟨⟨⟨-, ⟨p1, p2⟩, ⟨p3, p4⟩, -⟩, -⟩, f1, f2, f3, f4, f5, f6⟩ := Lp.rgt_inv hr
      obtain ⟨k, hk⟩ : ∃ k : Nat, l.ph + l.pe + s.s + s.a = (k : Int) := ⟨(l.ph + l.pe + s.s + s.a).toNat, by omega⟩
      have OD : Lp.okD l s (fun _ => s.s) (fun _ => s.a) 3 := ⟨hr, fun _ => ⟨f1, Int.le_refl _⟩, fun _ => ⟨f2, Int.le_refl _⟩, by decide⟩
      obtain ⟨RE1, RE2⟩ := Lp.reach_d OD k hk.symm
      have k1 : 1 ≤ k := by omega
      have k2 : (k : Int) ≤ 2048 := by omega
      have KA : Lp.chkA l s 6 ((k : Int) + 1) = 0 := Lp.chkA_ok hr (by omega) (by decide)
      have DEL : Aside (∀ W, Calls Try.prog 14 #[.agg #[.int .i64 l.id, .int .i64 l.se, .int .i64 l.co, .int .i64 l.ac, .int .i64 l.pe, .int .i64 l.ph, .int .i64 l.ag], .agg #[.int .i64 s.s, .int .i64 s.a], .int .i64 3, .slice none 0 0, .slice none 0 0] W (DsPost (Lp.dlv l s (fun _ => s.s) (fun _ => s.a) 3) W)) := fun W => by
        have := deliver_any l s 3 (.slice none 0 0) (.slice none 0 0) [] [] W hr (by decide) (Rows.nil _ _) (Rows.nil _ _) (by simp) (by simp) (by simp) (by simp)
        rwa [Lp.lat_nil, Lp.lat_nil] at this
      have DL : (Lp.dlv l s (fun _ => s.s) (fun _ => s.a) 3).length = 6 := Lp.dlv_len _ _ _ _ _
      have AGE : Aside (∀ v W, Rows 3 encD W v (Lp.dlv l s (fun _ => s.s) (fun _ => s.a) 3) → Calls Try.prog 13 #[.agg #[.int .i64 l.id, .int .i64 l.se, .int .i64 l.co, .int .i64 l.ac, .int .i64 l.pe, .int .i64 l.ph, .int .i64 l.ag], .agg #[.int .i64 s.s, .int .i64 s.a], v, .int .i64 ((k : Int) + 1)] W (IePost 0 (Lp.ageL (Lp.fa l s) (Lp.fb l s) (Lp.dlv l s (fun _ => s.s) (fun _ => s.a) 3) (k + 1)) W)) := fun v W h => by
        have := agesE_any l s v (Lp.dlv l s (fun _ => s.s) (fun _ => s.a) 3) ((k : Int) + 1) W h
        rw [DL, KA] at this
        have e : Lp.ageR l s (Lp.dlv l s (fun _ => s.s) (fun _ => s.a) 3) ((k : Int) + 1) = Lp.ageL (Lp.fa l s) (Lp.fb l s) (Lp.dlv l s (fun _ => s.s) (fun _ => s.a) 3) (k + 1) := by
          unfold Lp.ageR
          rw [DL, if_pos KA]
          rfl
        rwa [e] at this
      generalize Lp.dlv l s (fun _ => s.s) (fun _ => s.a) 3 = D at *
      generalize hAL : Lp.ageL (Lp.fa l s) (Lp.fb l s) D (k + 1) = AL at *
      have AL1 : Hid (AL.length = k + 1) := (show _ = _ by rw [← hAL]; exact Lp.ageL_len _ _ _ _)
      have AL2 : Hid (AL[k - 1]? = some (Lp.wst l s)) := (show _ = _ by rw [← hAL]; unfold Lp.ageL; rw [List.getElem?_map, List.getElem?_range (by omega)]; exact congrArg some RE1)
      have AL3 : Hid (AL[k]? = some (s.s + s.a)) := (show _ = _ by rw [← hAL]; unfold Lp.ageL; rw [List.getElem?_map, List.getElem?_range (by omega)]; exact congrArg some RE2)
      have WS : Hid (Lp.wst l s = l.pe + s.s + s.a - 1) := (show _ = _ from rfl)
      have WB : 0 ≤ Lp.wst l s ∧ Lp.wst l s ≤ 2048 := by have := WS.out; omega
      obtain ⟨wb0, wb1⟩ := WB
      generalize Lp.wst l s = ws at *
      clear RE1 RE2 OD KA DL hAL hr WN
      have u0 := (L2.out) 0 _ rfl; have u1 := (L2.out) 1 _ rfl; have u2 := (L2.out) 2 _ rfl; have u3 := (L2.out) 3 _ rfl; have u4 := (L2.out) 4 _ rfl; have u5 := (L2.out) 5 _ rfl; have u6 := (L2.out) 6 _ rfl; (try simp only [Nat.add_zero] at u0); (try simp only [Nat.zero_add] at u0 u1 u2 u3 u4 u5 u6)
      have v0 := (S2.out) 0 _ rfl; have v1 := (S2.out) 1 _ rfl; (try simp only [Nat.add_zero] at v0); (try simp only [Nat.zero_add] at v0 v1)
      have hz := L2.out.lt rfl
      have hz2 := S2.out.lt rfl
      go_wp2_with fail
      have mixed : Try.prog.follows .mixedOrders = true := by kernel_rfl
      have z1 : IntKind.i64.wrap ((k : Int) + 1) = (k : Int) + 1 := IntWalk.i64_in _ (by omega)
      have KG : Aside (∀ W, Gr w2 W → (Gr w2 W ∧ W.cell? ⟨w.heap.size, 0, none⟩ = some (.int .i64 l.id) ∧ W.cell? ⟨w.heap.size, 1, none⟩ = some (.int .i64 l.se) ∧ W.cell? ⟨w.heap.size, 2, none⟩ = some (.int .i64 l.co) ∧ W.cell? ⟨w.heap.size, 3, none⟩ = some (.int .i64 l.ac) ∧ W.cell? ⟨w.heap.size, 4, none⟩ = some (.int .i64 l.pe) ∧ W.cell? ⟨w.heap.size, 5, none⟩ = some (.int .i64 l.ph) ∧ W.cell? ⟨w.heap.size, 6, none⟩ = some (.int .i64 l.ag) ∧ W.cell? ⟨w.heap.size + 1, 0, none⟩ = some (.int .i64 s.s) ∧ W.cell? ⟨w.heap.size + 1, 1, none⟩ = some (.int .i64 s.a))) := fun W gW => by
        have q1 := L2.out.gr gW
        have q2 := S2.out.gr gW
        exact ⟨gW, by simpa using q1 0 _ rfl, by simpa using q1 1 _ rfl, by simpa using q1 2 _ rfl, by simpa using q1 3 _ rfl, by simpa using q1 4 _ rfl, by simpa using q1 5 _ rfl, by simpa using q1 6 _ rfl, by simpa using q2 0 _ rfl, by simpa using q2 1 _ rfl⟩
      clear u0 u1 u2 u3 u4 u5 u6 v0 v1 hz hz2
      apply wp_join2 (F := fun W v1 v2 => Gr w2 W ∧ Rows 1 encI W v2 AL)
      case h =>
        go_region_held3 (fun W => Gr w2 W ∧ W.cell? ⟨w.heap.size, 0, none⟩ = some (.int .i64 l.id) ∧ W.cell? ⟨w.heap.size, 1, none⟩ = some (.int .i64 l.se) ∧ W.cell? ⟨w.heap.size, 2, none⟩ = some (.int .i64 l.co) ∧ W.cell? ⟨w.heap.size, 3, none⟩ = some (.int .i64 l.ac) ∧ W.cell? ⟨w.heap.size, 4, none⟩ = some (.int .i64 l.pe) ∧ W.cell? ⟨w.heap.size, 5, none⟩ = some (.int .i64 l.ph) ∧ W.cell? ⟨w.heap.size, 6, none⟩ = some (.int .i64 l.ag) ∧ W.cell? ⟨w.heap.size + 1, 0, none⟩ = some (.int .i64 s.s) ∧ W.cell? ⟨w.heap.size + 1, 1, none⟩ = some (.int .i64 s.a)) ((refine KG.out _ ?_; (repeat (first | assumption | exact And.left (by assumption) | exact Gr.refl _ | refine Gr.drew ?_ | refine Gr.alloc ?_ _ | refine Gr.setCell ?_ (by first | exact Nat.le_refl _ | omega) _ | refine Gr.trans ?_ (by assumption)))))
          ((first
            | (go_at_call 14; refine (DEL.out _).mono ?_; rintro e w9 ⟨a1, rfl, Q1, k1⟩)
            | (go_at_call 13; refine (AGE.out _ _ (by (repeat (first | assumption | refine Rows.gr ?_ (by assumption))))).mono ?_; rintro e w9 ⟨a2, rfl, Q2, k2⟩)))
        all_goals exact ⟨rfl, a1, a2, rfl, (‹Gr w2 _ ∧ _›).1, Q2⟩
      case k =>
        intro a1 a2 w5 hF
        obtain ⟨g5, R5⟩ := hF
        have G5 : Aside (Gr w w5) := G2.out.trans g5
        have S5 := Lib.hid (S2.out.gr g5)
        rcases R5 with ⟨h, _⟩ | ⟨b, off, ca, hb, rfl, hc⟩
        · exact absurd AL1.out (by rw [h]; simp)
        have c1 := hc _ _ AL2.out 0 _ rfl
        have c2 := hc _ _ AL3.out 0 _ rfl
        rw [Nat.mul_one, Nat.add_zero] at c1 c2
        have kk : ((k : Int) - 1) = ((k - 1 : Nat) : Int) := by omega
        rw [AL1.out]
        have z2 : IntKind.i64.wrap ((k : Int) - 1) = ((k - 1 : Nat) : Int) := by rw [IntWalk.i64_in _ (by omega)]; exact kk
        have z3 : (((k - 1 : Nat)) : Int) < ((k + 1 : Nat) : Int) := by omega
        have z4 : (k : Int) < ((k + 1 : Nat) : Int) := by omega
        have z5 : ((k + 1 : Nat) : Int) = (k : Int) + 1 := by omega
        have z6 : IntKind.i64.wrap (s.s + s.a) = s.s + s.a := IntWalk.i64_in _ (by omega)
        have v0 := (S5.out) 0 _ rfl; have v1 := (S5.out) 1 _ rfl; (try simp only [Nat.add_zero] at v0); (try simp only [Nat.zero_add] at v0 v1)
        clear g5 hc KG DEL AGE
        go_wp2_with fail
        go_quiet (fail)
        go_wp2_with fail
        go_ret
        exact ⟨rfl, by have hgg := G5.out; repeat (first | (with_reducible exact Gr.refl _) | (with_reducible assumption) | (with_reducible refine Gr.alloc ?_ _) | (with_reducible refine Gr.drewN ?_ _) | (with_reducible refine Gr.drew ?_) | (with_reducible refine Gr.grown ?_ _ _) | (with_reducible refine Gr.regrown ?_ _ _) | (with_reducible refine Gr.setCell ?_ (by first | omega | (simp; omega) | simp) _) | (with_reducible refine Gr.trans ?_ (by with_reducible assumption)))⟩
    · have WN : Lp.wstN l s = 0 := if_neg (by simpa using hr)
      rw [WN]
      generalize Lp.rgt l s = E at *
      go_wp2_with fail
      go_ret
      exact ⟨rfl, G2.out⟩
end Go.Proofs.Ytckkjiaoaeaaoaa.loopReached
