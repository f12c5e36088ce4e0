/- The contract of package loop's Carries. -/
import Derived.Test.YtckkjiaoaeaaoaaR50D
import Derived.Test.YtckkjiaoaeaaoaaLopF
import Derived.Test.YtckkjiaoaeaaoaaHeld
namespace Go.Proofs.Ytckkjiaoaeaaoaa
open Go.RowKit Go.Sort Go.Maps
set_option linter.unusedVariables false

theorem wp_join1 {c : Code} {P : Program} {Q : Exit → Act → World → Prop} {a : Act} {w : World} (A : Value → Act) (F : World → Value → Prop)
    (h : c.wp P (fun e a' W => e = .normal ∧ ∃ v1, a' = A v1 ∧ F W v1) a w) (k : ∀ v1 W, F W v1 → Q .normal (A v1) W) : c.wp P Q a w :=
  Code.wp_mono (fun e a' W h => by obtain ⟨rfl, v1, rfl, hF⟩ := h; exact k _ _ hF) h

set_option maxHeartbeats 4000000 in
set_option maxRecDepth 100000 in
theorem lcarriesE_any (l : Lo) (s : Sp) (v : Value) (ds : List Dv) (k : Int) (w : World) (h : Rows 3 encD w v ds) (hl : ds.length ≤ 1048575) :
    Calls Try.prog 31 #[.agg #[.int .i64 l.id, .int .i64 l.se, .int .i64 l.co, .int .i64 l.ac, .int .i64 l.pe, .int .i64 l.ph, .int .i64 l.ag], .agg #[.int .i64 s.s, .int .i64 s.a], v, .int .i64 k] w (CaPost (Lp.carE l s k) (Lp.carM l s ds k) w) := by
  have HD := Lib.hid h
  have HL := Lib.hid hl
  obtain ⟨A, c, rfl⟩ := h.slice
  have C1 := fun W => right_any l s W
  clear h hl
  rcases Lp.rgt_cases l s with hr | hr
  · by_cases hk : 0 ≤ k ∧ k ≤ 4096
    · have E0 := Lp.carE_ok hr hk
      have M0 : Hid (Lp.car (Lp.fa l s) ds (Lp.rl (Lp.fb l s) k) = Lp.carM l s ds k) := (show _ = _ from (if_pos E0).symm)
      have C2 := fun W => flows_any l s W hr
      have FA := Lib.hid (Lp.fa_ok hr)
      have FB := Lib.hid (Lp.fb_ok hr)
      have ARR := Lib.hid (fun (W : World) (g : Gr w W) => arrived_any (Lp.fa l s) (.slice A ds.length c) ds W FA.out (HD.out.gr g) HL.out)
      have REL := fun W => lrelease_any (Lp.fb l s) k W FB.out hk.1 (by omega)
      have CARR : Hid (∀ (v : Value) (b : Nat) (W : World), v = .map (some b) → MapAt W b (Lp.arr (Lp.fa l s) ds) → Calls Try.prog 50 #[v, .int .i64 (Lp.rl (Lp.fb l s) k)] W fun e w' => e = .returned (.int .i64 (Lp.car (Lp.fa l s) ds (Lp.rl (Lp.fb l s) k))) ∧ Gr W w') := (show ∀ _ _ _, _ → _ → _ from fun v b W hv h => by rw [hv]; exact carries_any (Lp.fa l s) ds (Lp.rl (Lp.fb l s) k) b W h)
      rw [E0]
      have CB := Lp.car_bd (Lp.fa l s) ds (Lp.rl (Lp.fb l s) k)
      generalize Lp.car (Lp.fa l s) ds (Lp.rl (Lp.fb l s) k) = M at M0 CARR CB
      rw [show (Lp.fb l s).ph + k * (Lp.fb l s).pe = Lp.rl (Lp.fb l s) k from rfl] at REL
      generalize Lp.rl (Lp.fb l s) k = rv at REL CARR
      rw [hr] at C1
      generalize Lp.fa l s = fa at C2 FA ARR CARR
      generalize Lp.fb l s = fb at C2 FB REL
      obtain ⟨k0, k1⟩ := hk
      obtain ⟨cb0, cb1⟩ := CB
      have REL' := Lib.hid REL
      clear hr E0 REL
      go_enter Try.func31, Try.ntmps31
      go_wp2_with fail
      refine (C1 _).mono ?_
      rintro e w1 ⟨rfl, g1⟩
      obtain ⟨L1, S1⟩ := boxed2 (enc := encL) (enc2 := encP) (x := l) (y := s) g1
      have u0 := (L1) 0 _ rfl; have u1 := (L1) 1 _ rfl; have u2 := (L1) 2 _ rfl; have u3 := (L1) 3 _ rfl; have u4 := (L1) 4 _ rfl; have u5 := (L1) 5 _ rfl; have u6 := (L1) 6 _ rfl; (try simp only [Nat.add_zero] at u0); (try simp only [Nat.zero_add] at u0 u1 u2 u3 u4 u5 u6)
      have v0 := (S1) 0 _ rfl; have v1 := (S1) 1 _ rfl; (try simp only [Nat.add_zero] at v0); (try simp only [Nat.zero_add] at v0 v1)
      have hz := L1.lt rfl
      have hz2 := S1.lt rfl
      have G1 : Aside (Gr w w1) := (Gr.alloc (Gr.alloc (Gr.refl _) _) _).trans g1
      clear g1 L1 S1 C1
      go_wp2_with fail
      refine (C2 _).mono ?_
      rintro e w2 ⟨rfl, g2⟩
      have G2 : Aside (Gr w w2) := G1.out.trans g2
      clear g2 C2 u0 u1 u2 u3 u4 u5 u6 v0 v1 hz hz2
      go_wp2_with fail
      obtain ⟨P9, P10⟩ := boxed2 (enc := encF) (enc2 := encF) (x := fa) (y := fb) (Gr.refl ((w2.alloc (Obj.cells (encF fa).toArray 47)).alloc (Obj.cells (encF fb).toArray 47)))
      have G3 : Aside (Gr w ((w2.alloc (Obj.cells (encF fa).toArray 47)).alloc (Obj.cells (encF fb).toArray 47))) := Gr.alloc (Gr.alloc G2.out _) _
      generalize ((w2.alloc (Obj.cells (encF fa).toArray 47)).alloc (Obj.cells (encF fb).toArray 47)) = w3 at P9 P10 G3 ⊢
      generalize hb9 : w2.heap.size = b9 at P9 P10 ⊢
      have Q9 := Lib.hid P9
      have Q10 := Lib.hid P10
      have mixed : Try.prog.follows .mixedOrders = true := by kernel_rfl
      clear P9 P10 hb9
      have KG : Aside (∀ W, Gr w3 W → (Gr w3 W ∧ W.cell? ⟨b9, 0, none⟩ = some (.int .i64 fa.id) ∧ W.cell? ⟨b9, 1, none⟩ = some (.int .i64 fa.fr) ∧ W.cell? ⟨b9, 2, none⟩ = some (.int .i64 fa.to) ∧ W.cell? ⟨b9, 3, none⟩ = some (.int .i64 fa.pe) ∧ W.cell? ⟨b9, 4, none⟩ = some (.int .i64 fa.ph) ∧ W.cell? ⟨b9, 5, none⟩ = some (.int .i64 fa.de) ∧ W.cell? ⟨b9 + 1, 0, none⟩ = some (.int .i64 fb.id) ∧ W.cell? ⟨b9 + 1, 1, none⟩ = some (.int .i64 fb.fr) ∧ W.cell? ⟨b9 + 1, 2, none⟩ = some (.int .i64 fb.to) ∧ W.cell? ⟨b9 + 1, 3, none⟩ = some (.int .i64 fb.pe) ∧ W.cell? ⟨b9 + 1, 4, none⟩ = some (.int .i64 fb.ph) ∧ W.cell? ⟨b9 + 1, 5, none⟩ = some (.int .i64 fb.de))) := fun W gW => by
        have q1 := Q9.out.gr gW
        have q2 := Q10.out.gr gW
        exact ⟨gW, by simpa using q1 0 _ rfl, by simpa using q1 1 _ rfl, by simpa using q1 2 _ rfl, by simpa using q1 3 _ rfl, by simpa using q1 4 _ rfl, by simpa using q1 5 _ rfl, by simpa using q2 0 _ rfl, by simpa using q2 1 _ rfl, by simpa using q2 2 _ rfl, by simpa using q2 3 _ rfl, by simpa using q2 4 _ rfl, by simpa using q2 5 _ rfl⟩
      apply wp_join1 (F := fun W v1 => Gr w3 W)
      case h =>
        go_region_held3 (fun W => Gr w3 W ∧ W.cell? ⟨b9, 0, none⟩ = some (.int .i64 fa.id) ∧ W.cell? ⟨b9, 1, none⟩ = some (.int .i64 fa.fr) ∧ W.cell? ⟨b9, 2, none⟩ = some (.int .i64 fa.to) ∧ W.cell? ⟨b9, 3, none⟩ = some (.int .i64 fa.pe) ∧ W.cell? ⟨b9, 4, none⟩ = some (.int .i64 fa.ph) ∧ W.cell? ⟨b9, 5, none⟩ = some (.int .i64 fa.de) ∧ W.cell? ⟨b9 + 1, 0, none⟩ = some (.int .i64 fb.id) ∧ W.cell? ⟨b9 + 1, 1, none⟩ = some (.int .i64 fb.fr) ∧ W.cell? ⟨b9 + 1, 2, none⟩ = some (.int .i64 fb.to) ∧ W.cell? ⟨b9 + 1, 3, none⟩ = some (.int .i64 fb.pe) ∧ W.cell? ⟨b9 + 1, 4, none⟩ = some (.int .i64 fb.ph) ∧ W.cell? ⟨b9 + 1, 5, none⟩ = some (.int .i64 fb.de)) ((refine KG.out _ ?_; (repeat (first | assumption | exact And.left (by assumption) | exact Gr.refl _ | refine Gr.drew ?_ | refine Gr.alloc ?_ _ | refine Gr.setCell ?_ (by first | exact Nat.le_refl _ | omega) _ | refine Gr.trans ?_ (by assumption)))))
          ((first
            | (go_at_call 51; refine (ARR.out _ (G3.out.trans (And.left (by assumption)))).mono ?_; rintro e w9 ⟨b1, he1, m1, k1⟩; obtain ⟨a1, ha0⟩ : ∃ a1, a1 = Value.map (some b1) := ⟨_, rfl⟩; rw [← ha0] at he1; subst he1; have ha1 := Lib.hid ha0; clear ha0)
            | (go_at_call 52; refine (REL'.out _).mono ?_; rintro e w8 ⟨rfl, k2⟩)
            | (go_at_call 50; refine (CARR.out _ _ _ ha1.out (by (repeat (first | assumption | refine MapAt.gr ?_ (by assumption))))).mono ?_; rintro e w7 ⟨rfl, k3⟩)))
        all_goals exact ⟨rfl, a1, rfl, (‹Gr w3 _ ∧ _›).1⟩
      case k =>
        intro a1 w5 g5
        have G5 : Aside (Gr w w5) := G3.out.trans g5
        have e1 : max M 0 = max M 0 := rfl
        clear g5 KG
        by_cases hm : 0 ≤ M
        · have e2 : Hid (true = decide (0 ≤ M)) := (show _ = _ from (bt hm).symm)
          go_wp2_with fail
          go_ret3
          exact ⟨by rw [← M0.out]; exact ret_ibi rfl e2.out rfl, G5.out⟩
        · have e2 : Hid (false = decide (0 ≤ M)) := (show _ = _ from (bf hm).symm)
          go_wp2_with fail
          go_ret3
          exact ⟨by rw [← M0.out]; exact ret_ibi rfl e2.out rfl, G5.out⟩
    · have E0 := Lp.carE_rng hr hk
      have M0 : Hid (Lp.carM l s ds k = -1) := (show _ = _ from if_neg (by rw [E0]; decide))
      rw [E0]
      rw [hr] at C1
      clear hr E0
      go_enter Try.func31, Try.ntmps31
      go_wp2_with fail
      refine (C1 _).mono ?_
      rintro e w1 ⟨rfl, g1⟩
      have G1 : Aside (Gr w w1) := (Gr.alloc (Gr.alloc (Gr.refl _) _) _).trans g1
      clear g1 C1
      go_wp2_with fail
      all_goals first | (go_ret3; exact ⟨by rw [M0.out]; rfl, G1.out⟩) | (exfalso; omega)
  · have E0 := Lp.carE_rgt (k := k) (show ¬ Lp.rgt l s = 0 by simpa using hr)
    have M0 : Hid (Lp.carM l s ds k = -1) := (show _ = _ from if_neg (by rw [E0]; simpa using hr))
    rw [E0]
    generalize Lp.rgt l s = E at *
    clear E0
    go_enter Try.func31, Try.ntmps31
    go_wp2_with fail
    refine (C1 _).mono ?_
    rintro e w1 ⟨rfl, g1⟩
    have G1 : Aside (Gr w w1) := (Gr.alloc (Gr.alloc (Gr.refl _) _) _).trans g1
    clear g1 C1
    go_wp2_with fail
    go_ret3
    exact ⟨by rw [M0.out]; rfl, G1.out⟩
end Go.Proofs.Ytckkjiaoaeaaoaa
