/- The walk of LoopAges: the Go text returns true. (Printed in part by mklaw50.py.) -/
import Derived.Test.YtckkjiaoaeaaoaaLopFew
import Derived.Test.YtckkjiaoaeaaoaaLopJ
import Derived.Test.YtckkjiaoaeaaoaaLopLate
import Derived.Test.YtckkjiaoaeaaoaaCloneD
import Derived.Test.YtckkjiaoaeaaoaaEqualInts
import Derived.Test.YtckkjiaoaeaaoaaLopOk
import Derived.Test.YtckkjiaoaeaaoaaHeld
namespace Go.Proofs.Ytckkjiaoaeaaoaa.loopAges
open Go.RowKit Go.Sort
set_option linter.unusedVariables false

theorem age_big (l : Lo) (s : Sp) (ds : List Dv) (t : Int) : ((Lp.ageR l s ds t).length : Int) ≤ 4096 := by
  unfold Lp.ageR
  split
  · rename_i h
    obtain ⟨_, h2, _⟩ := Lp.chkA_inv h
    rw [Lp.ageL_len]
    omega
  · simp
theorem late_big (l : Lo) (s : Sp) (ds : List Dv) (t : Int) : ((Lp.lateR l s ds t).length : Int) ≤ 4096 := by
  have h1 := age_big l s ds t
  have h2 := Lp.late_le l.ag (Lp.ageR l s ds t) (Lp.ageR l s ds t).length
  unfold Lp.lateR
  omega
/-- rows of deliveries, met out of a clone's post -/
theorem rows_cloneD {l : List Dv} {w w' : World} {e : Ending} (h : CloneDPost l w e w') : ∃ v, e = .returned v ∧ Rows 3 encD w' v l ∧ Gr w w' := by
  obtain ⟨v, h1, h2, h3⟩ := h
  exact ⟨v, h1, Rows.of_owns encD_len h2, h3⟩

set_option maxHeartbeats 8000000 in
set_option maxRecDepth 100000 in
theorem walk (l0 l1 l2 l3 l4 l5 l6 s0 s1 : Int) (v2 : Value) (d : List Dv) (frame slots : Int) (wl0 : (Lit.int .i64 l0).wf = true) (wl1 : (Lit.int .i64 l1).wf = true) (wl2 : (Lit.int .i64 l2).wf = true) (wl3 : (Lit.int .i64 l3).wf = true) (wl4 : (Lit.int .i64 l4).wf = true) (wl5 : (Lit.int .i64 l5).wf = true) (wl6 : (Lit.int .i64 l6).wf = true) (ws0 : (Lit.int .i64 s0).wf = true) (ws1 : (Lit.int .i64 s1).wf = true) (wframe : (Lit.int .i64 frame).wf = true) (wslots : (Lit.int .i64 slots).wf = true) (w : World)
    (rd : Rows 3 encD w v2 d) (bd : (d.length : Int) ≤ 9223372036854775807) (kd : ∀ A n c, v2 = .slice A n c → n ≤ c ∧ c ≤ 9223372036854775807) (wd : ∀ x ∈ d, okDv x) :
    Calls Try.prog 10 #[.agg #[.int .i64 l0, .int .i64 l1, .int .i64 l2, .int .i64 l3, .int .i64 l4, .int .i64 l5, .int .i64 l6], .agg #[.int .i64 s0, .int .i64 s1], v2, .int .i64 frame, .int .i64 slots] w fun e w' => e = .returned (.bool true) ∧ Gr w w' := by
  clear wl0 wl1 wl2 wl3 wl4 wl5 wl6 ws0 ws1
  obtain ⟨l, hl⟩ : ∃ l : Lo, l = ⟨l0, l1, l2, l3, l4, l5, l6⟩ := ⟨_, rfl⟩
  obtain ⟨s, hs⟩ : ∃ s : Sp, s = ⟨s0, s1⟩ := ⟨_, rfl⟩
  have e0 : l0 = l.id := by rw [hl]
  have e1 : l1 = l.se := by rw [hl]
  have e2 : l2 = l.co := by rw [hl]
  have e3 : l3 = l.ac := by rw [hl]
  have e4 : l4 = l.pe := by rw [hl]
  have e5 : l5 = l.ph := by rw [hl]
  have e6 : l6 = l.ag := by rw [hl]
  have e7 : s0 = s.s := by rw [hs]
  have e8 : s1 = s.a := by rw [hs]
  clear hl hs
  subst e0 e1 e2 e3 e4 e5 e6 e7 e8
  clear wframe wslots kd wd
  obtain ⟨A, c, rfl⟩ := rd.slice
  obtain ⟨n, hn⟩ : ∃ n, d.length = n := ⟨_, rfl⟩
  have RD : Hid (Rows 3 encD w (.slice A n c) d) := by rw [hn] at rd; exact rd
  have HN := Lib.hid hn
  rw [hn] at bd ⊢
  clear rd hn
  go_enter Try.func10, Try.ntmps10
  go_wp2_with fail
  obtain ⟨L0, S0⟩ := boxed2 (enc := encL) (enc2 := encP) (x := l) (y := s) (Gr.refl ((w.alloc (Obj.cells (encL l).toArray 23)).alloc (Obj.cells (encP s).toArray 25)))
  have G0 : Aside (Gr w ((w.alloc (Obj.cells (encL l).toArray 23)).alloc (Obj.cells (encP s).toArray 25))) := Gr.alloc (Gr.alloc (Gr.refl _) _) _
  generalize ((w.alloc (Obj.cells (encL l).toArray 23)).alloc (Obj.cells (encP s).toArray 25)) = w0 at L0 S0 G0 ⊢
  refine (lawake_any _).mono ?_
  rintro e w1 ⟨rfl, g1⟩
  have G1 : Aside (Gr w w1) := G0.out.trans g1
  have L1 := Lib.hid (L0.gr g1)
  have S1 := Lib.hid (S0.gr g1)
  clear g1 L0 S0 G0
  go_wp2_with fail
  refine (rfew_any A n c _).mono ?_
  rintro e w2 ⟨rfl, g2⟩
  have G2 : Aside (Gr w w2) := G1.out.trans g2
  have L2 := Lib.hid (L1.out.gr g2)
  have S2 := Lib.hid (S1.out.gr g2)
  clear g2 L1 S1 G1
  have u0 := (L2.out) 0 _ rfl; have u1 := (L2.out) 1 _ rfl; have u2 := (L2.out) 2 _ rfl; have u3 := (L2.out) 3 _ rfl; have u4 := (L2.out) 4 _ rfl; have u5 := (L2.out) 5 _ rfl; have u6 := (L2.out) 6 _ rfl; (try simp only [Nat.add_zero] at u0); (try simp only [Nat.zero_add] at u0 u1 u2 u3 u4 u5 u6)
  have v0 := (S2.out) 0 _ rfl; have v1 := (S2.out) 1 _ rfl; (try simp only [Nat.add_zero] at v0); (try simp only [Nat.zero_add] at v0 v1)
  have hz := L2.out.lt rfl
  have hz2 := S2.out.lt rfl
  by_cases h24 : n ≤ 24
  · rw [bt h24]
    by_cases hbig : 120 < slots ∧ slots ≤ 4096
    · obtain ⟨q1, q2⟩ := hbig
      go_wp2_with fail
      refine (lawake_any _).mono ?_
      rintro e w3 ⟨rfl, g3⟩
      have G3 : Aside (Gr w w3) := G2.out.trans g3
      go_wp2_with fail
      go_ret
      exact ⟨rfl, G3.out⟩
    · have CL := Lib.hid (fun (W : World) (g : Gr w W) => (cloneCloneD_any (.slice A n c) d W (RD.out.gr g) (by rw [HN.out]; omega)).mono fun e w' h => rows_cloneD h)
      have CAR := Lib.hid (fun v W h => lcarriesE_any l s v d frame W h (by rw [HN.out]; omega))
      have RCAR := Lib.hid (fun v W h => rcarriesE_any l s v d frame W h (by rw [HN.out]; omega))
      have AGE := Lib.hid (fun v W h => agesE_any l s v d slots W h)
      have RAGE := Lib.hid (fun v W h => ragesE_any l s v d slots W h (by rw [HN.out]; omega))
      have LAT := Lib.hid (fun v W h => late_any l s v d slots W h)
      have RLAT := Lib.hid (fun v W h => rlate_any l s v d slots W h (by rw [HN.out]; omega))
      have BA := age_big l s d slots
      have BL := late_big l s d slots
      generalize Lp.ageR l s d slots = AL at AGE RAGE BA
      generalize Lp.lateR l s d slots = TL at LAT RLAT BL
      generalize Lp.chkA l s d.length slots = EA at AGE RAGE LAT RLAT
      generalize Lp.carE l s frame = EC at CAR RCAR
      generalize Lp.carM l s d frame = MC at CAR RCAR
      have hb1 : (decide (120 < slots) && decide (slots ≤ 4096)) = false := by simp; omega
      have mixed : Try.prog.follows .mixedOrders = true := by kernel_rfl
      clear h24 bd
      have CUT : (120 < slots ∧ ¬ slots ≤ 4096) ∨ ¬ 120 < slots := by omega
      clear hbig
      rcases CUT with ⟨q1, q2⟩ | q1
      · go_wp2_with fail
        clear u0 u1 u2 u3 u4 u5 u6 v0 v1 hz hz2 hb1
        have KG : Aside (∀ W, Gr w2 W → (Gr w2 W ∧ W.cell? ⟨w.heap.size, 0, none⟩ = some (.int .i64 l.id) ∧ W.cell? ⟨w.heap.size, 1, none⟩ = some (.int .i64 l.se) ∧ W.cell? ⟨w.heap.size, 2, none⟩ = some (.int .i64 l.co) ∧ W.cell? ⟨w.heap.size, 3, none⟩ = some (.int .i64 l.ac) ∧ W.cell? ⟨w.heap.size, 4, none⟩ = some (.int .i64 l.pe) ∧ W.cell? ⟨w.heap.size, 5, none⟩ = some (.int .i64 l.ph) ∧ W.cell? ⟨w.heap.size, 6, none⟩ = some (.int .i64 l.ag) ∧ W.cell? ⟨w.heap.size + 1, 0, none⟩ = some (.int .i64 s.s) ∧ W.cell? ⟨w.heap.size + 1, 1, none⟩ = some (.int .i64 s.a))) := fun W gW => by
          have q1 := L2.out.gr gW
          have q2 := S2.out.gr gW
          exact ⟨gW, by simpa using q1 0 _ rfl, by simpa using q1 1 _ rfl, by simpa using q1 2 _ rfl, by simpa using q1 3 _ rfl, by simpa using q1 4 _ rfl, by simpa using q1 5 _ rfl, by simpa using q1 6 _ rfl, by simpa using q2 0 _ rfl, by simpa using q2 1 _ rfl⟩
        apply wp_join1 (F := fun W v1 => Gr w2 W)
        case h =>
          go_region_held3 (fun W => Gr w2 W ∧ W.cell? ⟨w.heap.size, 0, none⟩ = some (.int .i64 l.id) ∧ W.cell? ⟨w.heap.size, 1, none⟩ = some (.int .i64 l.se) ∧ W.cell? ⟨w.heap.size, 2, none⟩ = some (.int .i64 l.co) ∧ W.cell? ⟨w.heap.size, 3, none⟩ = some (.int .i64 l.ac) ∧ W.cell? ⟨w.heap.size, 4, none⟩ = some (.int .i64 l.pe) ∧ W.cell? ⟨w.heap.size, 5, none⟩ = some (.int .i64 l.ph) ∧ W.cell? ⟨w.heap.size, 6, none⟩ = some (.int .i64 l.ag) ∧ W.cell? ⟨w.heap.size + 1, 0, none⟩ = some (.int .i64 s.s) ∧ W.cell? ⟨w.heap.size + 1, 1, none⟩ = some (.int .i64 s.a)) ((refine KG.out _ ?_; (repeat (first | assumption | exact And.left (by assumption) | exact Gr.refl _ | refine Gr.drew ?_ | refine Gr.alloc ?_ _ | refine Gr.setCell ?_ (by first | exact Nat.le_refl _ | omega) _ | refine Gr.trans ?_ (by assumption)))))
              ((first
                | (go_at_call 30; refine (CL.out _ (G2.out.trans (And.left (by assumption)))).mono ?_; rintro e w9 ⟨a1, rfl, Q1, k1⟩)
                | (go_at_call 31; refine (CAR.out _ _ (by (repeat (first | assumption | refine Rows.gr ?_ (by assumption))))).mono ?_; rintro e w9 ⟨rfl, k2⟩)))
          all_goals exact ⟨rfl, a1, rfl, (‹Gr w2 _ ∧ _›).1⟩
        case k =>
          intro a1 w3 g3
          have G3 : Aside (Gr w w3) := G2.out.trans g3
          have L3 := Lib.hid (L2.out.gr g3)
          have S3 := Lib.hid (S2.out.gr g3)
          clear g3 KG L2 S2
          have u0 := (L3.out) 0 _ rfl; have u1 := (L3.out) 1 _ rfl; have u2 := (L3.out) 2 _ rfl; have u3 := (L3.out) 3 _ rfl; have u4 := (L3.out) 4 _ rfl; have u5 := (L3.out) 5 _ rfl; have u6 := (L3.out) 6 _ rfl; (try simp only [Nat.add_zero] at u0); (try simp only [Nat.zero_add] at u0 u1 u2 u3 u4 u5 u6)
          have v0 := (S3.out) 0 _ rfl; have v1 := (S3.out) 1 _ rfl; (try simp only [Nat.add_zero] at v0); (try simp only [Nat.zero_add] at v0 v1)
          have hz := L3.out.lt rfl
          have hz2 := S3.out.lt rfl
          go_wp2_with fail
          refine (RCAR.out _ _ (RD.out.gr G3.out)).mono ?_
          rintro e w4 ⟨rfl, g4⟩
          have G4 : Aside (Gr w w4) := G3.out.trans g4
          have L4 := Lib.hid (L3.out.gr g4)
          have S4 := Lib.hid (S3.out.gr g4)
          clear g4 u0 u1 u2 u3 u4 u5 u6 v0 v1 hz hz2 L3 S3
          have u0 := (L4.out) 0 _ rfl; have u1 := (L4.out) 1 _ rfl; have u2 := (L4.out) 2 _ rfl; have u3 := (L4.out) 3 _ rfl; have u4 := (L4.out) 4 _ rfl; have u5 := (L4.out) 5 _ rfl; have u6 := (L4.out) 6 _ rfl; (try simp only [Nat.add_zero] at u0); (try simp only [Nat.zero_add] at u0 u1 u2 u3 u4 u5 u6)
          have v0 := (S4.out) 0 _ rfl; have v1 := (S4.out) 1 _ rfl; (try simp only [Nat.add_zero] at v0); (try simp only [Nat.zero_add] at v0 v1)
          have hz := L4.out.lt rfl
          have hz2 := S4.out.lt rfl
          go_wp2_with fail
          clear u0 u1 u2 u3 u4 u5 u6 v0 v1 hz hz2
          have KG : Aside (∀ W, Gr w4 W → (Gr w4 W ∧ W.cell? ⟨w.heap.size, 0, none⟩ = some (.int .i64 l.id) ∧ W.cell? ⟨w.heap.size, 1, none⟩ = some (.int .i64 l.se) ∧ W.cell? ⟨w.heap.size, 2, none⟩ = some (.int .i64 l.co) ∧ W.cell? ⟨w.heap.size, 3, none⟩ = some (.int .i64 l.ac) ∧ W.cell? ⟨w.heap.size, 4, none⟩ = some (.int .i64 l.pe) ∧ W.cell? ⟨w.heap.size, 5, none⟩ = some (.int .i64 l.ph) ∧ W.cell? ⟨w.heap.size, 6, none⟩ = some (.int .i64 l.ag) ∧ W.cell? ⟨w.heap.size + 1, 0, none⟩ = some (.int .i64 s.s) ∧ W.cell? ⟨w.heap.size + 1, 1, none⟩ = some (.int .i64 s.a))) := fun W gW => by
            have q1 := L4.out.gr gW
            have q2 := S4.out.gr gW
            exact ⟨gW, by simpa using q1 0 _ rfl, by simpa using q1 1 _ rfl, by simpa using q1 2 _ rfl, by simpa using q1 3 _ rfl, by simpa using q1 4 _ rfl, by simpa using q1 5 _ rfl, by simpa using q1 6 _ rfl, by simpa using q2 0 _ rfl, by simpa using q2 1 _ rfl⟩
          apply wp_join2 (F := fun W v1 v2 => Gr w4 W ∧ Rows 1 encI W v2 AL)
          case h =>
            go_region_held3 (fun W => Gr w4 W ∧ W.cell? ⟨w.heap.size, 0, none⟩ = some (.int .i64 l.id) ∧ W.cell? ⟨w.heap.size, 1, none⟩ = some (.int .i64 l.se) ∧ W.cell? ⟨w.heap.size, 2, none⟩ = some (.int .i64 l.co) ∧ W.cell? ⟨w.heap.size, 3, none⟩ = some (.int .i64 l.ac) ∧ W.cell? ⟨w.heap.size, 4, none⟩ = some (.int .i64 l.pe) ∧ W.cell? ⟨w.heap.size, 5, none⟩ = some (.int .i64 l.ph) ∧ W.cell? ⟨w.heap.size, 6, none⟩ = some (.int .i64 l.ag) ∧ W.cell? ⟨w.heap.size + 1, 0, none⟩ = some (.int .i64 s.s) ∧ W.cell? ⟨w.heap.size + 1, 1, none⟩ = some (.int .i64 s.a)) ((refine KG.out _ ?_; (repeat (first | assumption | exact And.left (by assumption) | exact Gr.refl _ | refine Gr.drew ?_ | refine Gr.alloc ?_ _ | refine Gr.setCell ?_ (by first | exact Nat.le_refl _ | omega) _ | refine Gr.trans ?_ (by assumption)))))
                ((first
                  | (go_at_call 30; refine (CL.out _ (G4.out.trans (And.left (by assumption)))).mono ?_; rintro e w9 ⟨a1, rfl, Q1, k1⟩)
                  | (go_at_call 13; refine (AGE.out _ _ (by (repeat (first | assumption | refine Rows.gr ?_ (by assumption))))).mono ?_; rintro e w9 ⟨a2, rfl, Q2, k2⟩)))
            all_goals exact ⟨rfl, a1, a2, rfl, (‹Gr w4 _ ∧ _›).1, Q2⟩
          case k =>
            intro a1 a2 w5 hF
            obtain ⟨g5, r5⟩ := hF
            have RA5 := Lib.hid r5
            have G5 : Aside (Gr w w5) := G4.out.trans g5
            have L5 := Lib.hid (L4.out.gr g5)
            have S5 := Lib.hid (S4.out.gr g5)
            clear g5 KG r5 L4 S4
            have u0 := (L5.out) 0 _ rfl; have u1 := (L5.out) 1 _ rfl; have u2 := (L5.out) 2 _ rfl; have u3 := (L5.out) 3 _ rfl; have u4 := (L5.out) 4 _ rfl; have u5 := (L5.out) 5 _ rfl; have u6 := (L5.out) 6 _ rfl; (try simp only [Nat.add_zero] at u0); (try simp only [Nat.zero_add] at u0 u1 u2 u3 u4 u5 u6)
            have v0 := (S5.out) 0 _ rfl; have v1 := (S5.out) 1 _ rfl; (try simp only [Nat.add_zero] at v0); (try simp only [Nat.zero_add] at v0 v1)
            have hz := L5.out.lt rfl
            have hz2 := S5.out.lt rfl
            go_wp2_with fail
            refine (RAGE.out _ _ (RD.out.gr G5.out)).mono ?_
            rintro e w6 ⟨b2, rfl, r6, g6⟩
            have RB6 := Lib.hid r6
            have RA6 := Lib.hid (RA5.out.gr g6)
            have G6 : Aside (Gr w w6) := G5.out.trans g6
            have L6 := Lib.hid (L5.out.gr g6)
            have S6 := Lib.hid (S5.out.gr g6)
            clear g6 r6 RA5 u0 u1 u2 u3 u4 u5 u6 v0 v1 hz hz2 L5 S5
            have u0 := (L6.out) 0 _ rfl; have u1 := (L6.out) 1 _ rfl; have u2 := (L6.out) 2 _ rfl; have u3 := (L6.out) 3 _ rfl; have u4 := (L6.out) 4 _ rfl; have u5 := (L6.out) 5 _ rfl; have u6 := (L6.out) 6 _ rfl; (try simp only [Nat.add_zero] at u0); (try simp only [Nat.zero_add] at u0 u1 u2 u3 u4 u5 u6)
            have v0 := (S6.out) 0 _ rfl; have v1 := (S6.out) 1 _ rfl; (try simp only [Nat.add_zero] at v0); (try simp only [Nat.zero_add] at v0 v1)
            have hz := L6.out.lt rfl
            have hz2 := S6.out.lt rfl
            go_wp2_with fail
            clear u0 u1 u2 u3 u4 u5 u6 v0 v1 hz hz2
            have KG : Aside (∀ W, Gr w6 W → (Gr w6 W ∧ W.cell? ⟨w.heap.size, 0, none⟩ = some (.int .i64 l.id) ∧ W.cell? ⟨w.heap.size, 1, none⟩ = some (.int .i64 l.se) ∧ W.cell? ⟨w.heap.size, 2, none⟩ = some (.int .i64 l.co) ∧ W.cell? ⟨w.heap.size, 3, none⟩ = some (.int .i64 l.ac) ∧ W.cell? ⟨w.heap.size, 4, none⟩ = some (.int .i64 l.pe) ∧ W.cell? ⟨w.heap.size, 5, none⟩ = some (.int .i64 l.ph) ∧ W.cell? ⟨w.heap.size, 6, none⟩ = some (.int .i64 l.ag) ∧ W.cell? ⟨w.heap.size + 1, 0, none⟩ = some (.int .i64 s.s) ∧ W.cell? ⟨w.heap.size + 1, 1, none⟩ = some (.int .i64 s.a))) := fun W gW => by
              have q1 := L6.out.gr gW
              have q2 := S6.out.gr gW
              exact ⟨gW, by simpa using q1 0 _ rfl, by simpa using q1 1 _ rfl, by simpa using q1 2 _ rfl, by simpa using q1 3 _ rfl, by simpa using q1 4 _ rfl, by simpa using q1 5 _ rfl, by simpa using q1 6 _ rfl, by simpa using q2 0 _ rfl, by simpa using q2 1 _ rfl⟩
            apply wp_join2 (F := fun W v1 v2 => Gr w6 W ∧ Rows 1 encI W v2 TL)
            case h =>
              go_region_held3 (fun W => Gr w6 W ∧ W.cell? ⟨w.heap.size, 0, none⟩ = some (.int .i64 l.id) ∧ W.cell? ⟨w.heap.size, 1, none⟩ = some (.int .i64 l.se) ∧ W.cell? ⟨w.heap.size, 2, none⟩ = some (.int .i64 l.co) ∧ W.cell? ⟨w.heap.size, 3, none⟩ = some (.int .i64 l.ac) ∧ W.cell? ⟨w.heap.size, 4, none⟩ = some (.int .i64 l.pe) ∧ W.cell? ⟨w.heap.size, 5, none⟩ = some (.int .i64 l.ph) ∧ W.cell? ⟨w.heap.size, 6, none⟩ = some (.int .i64 l.ag) ∧ W.cell? ⟨w.heap.size + 1, 0, none⟩ = some (.int .i64 s.s) ∧ W.cell? ⟨w.heap.size + 1, 1, none⟩ = some (.int .i64 s.a)) ((refine KG.out _ ?_; (repeat (first | assumption | exact And.left (by assumption) | exact Gr.refl _ | refine Gr.drew ?_ | refine Gr.alloc ?_ _ | refine Gr.setCell ?_ (by first | exact Nat.le_refl _ | omega) _ | refine Gr.trans ?_ (by assumption)))))
                  ((first
                    | (go_at_call 30; refine (CL.out _ (G6.out.trans (And.left (by assumption)))).mono ?_; rintro e w9 ⟨a1, rfl, Q1, k1⟩)
                    | (go_at_call 25; refine (LAT.out _ _ (by (repeat (first | assumption | refine Rows.gr ?_ (by assumption))))).mono ?_; rintro e w9 ⟨a2, rfl, Q2, k2⟩)))
              all_goals exact ⟨rfl, a1, a2, rfl, (‹Gr w6 _ ∧ _›).1, Q2⟩
            case k =>
              intro a3 a4 w7 hF
              obtain ⟨g7, r7⟩ := hF
              have RC7 := Lib.hid r7
              have RA7 := Lib.hid (RA6.out.gr g7)
              have RB7 := Lib.hid (RB6.out.gr g7)
              have G7 : Aside (Gr w w7) := G6.out.trans g7
              have L7 := Lib.hid (L6.out.gr g7)
              have S7 := Lib.hid (S6.out.gr g7)
              clear g7 KG r7 L6 S6 RA6 RB6
              have u0 := (L7.out) 0 _ rfl; have u1 := (L7.out) 1 _ rfl; have u2 := (L7.out) 2 _ rfl; have u3 := (L7.out) 3 _ rfl; have u4 := (L7.out) 4 _ rfl; have u5 := (L7.out) 5 _ rfl; have u6 := (L7.out) 6 _ rfl; (try simp only [Nat.add_zero] at u0); (try simp only [Nat.zero_add] at u0 u1 u2 u3 u4 u5 u6)
              have v0 := (S7.out) 0 _ rfl; have v1 := (S7.out) 1 _ rfl; (try simp only [Nat.add_zero] at v0); (try simp only [Nat.zero_add] at v0 v1)
              have hz := L7.out.lt rfl
              have hz2 := S7.out.lt rfl
              go_wp2_with fail
              refine (RLAT.out _ _ (RD.out.gr G7.out)).mono ?_
              rintro e w8 ⟨b4, rfl, r8, g8⟩
              have RD8 := Lib.hid r8
              have RA8 := Lib.hid (RA7.out.gr g8)
              have RB8 := Lib.hid (RB7.out.gr g8)
              have RC8 := Lib.hid (RC7.out.gr g8)
              have G8 : Aside (Gr w w8) := G7.out.trans g8
              clear g8 r8 RA7 RB7 RC7 u0 u1 u2 u3 u4 u5 u6 v0 v1 hz hz2 L7 S7
              go_wp2_with fail
              refine ((equal_any _ _ _ _ w8 RA8.out RB8.out (by omega) (by omega)).mono fun e w' h => (⟨h.1.trans (ret_bool (decide_eq_true rfl)), h.2⟩ : e = .returned (.bool true) ∧ Gr w8 w')).mono ?_
              rintro e w9 ⟨rfl, g9⟩
              have G9 : Aside (Gr w w9) := G8.out.trans g9
              have RC9 := Lib.hid (RC8.out.gr g9)
              have RD9 := Lib.hid (RD8.out.gr g9)
              clear g9 RA8 RB8 RC8 RD8
              go_wp2_with fail
              refine ((equal_any _ _ _ _ w9 RC9.out RD9.out (by omega) (by omega)).mono fun e w' h => (⟨h.1.trans (ret_bool (decide_eq_true rfl)), h.2⟩ : e = .returned (.bool true) ∧ Gr w9 w')).mono ?_
              rintro e w10 ⟨rfl, g10⟩
              have G10 : Aside (Gr w w10) := G9.out.trans g10
              clear g10 RC9 RD9
              go_wp2_with fail
              go_ret
              exact ⟨by first | rfl | simp, G10.out⟩
      · go_wp2_with fail
        clear u0 u1 u2 u3 u4 u5 u6 v0 v1 hz hz2 hb1
        have KG : Aside (∀ W, Gr w2 W → (Gr w2 W ∧ W.cell? ⟨w.heap.size, 0, none⟩ = some (.int .i64 l.id) ∧ W.cell? ⟨w.heap.size, 1, none⟩ = some (.int .i64 l.se) ∧ W.cell? ⟨w.heap.size, 2, none⟩ = some (.int .i64 l.co) ∧ W.cell? ⟨w.heap.size, 3, none⟩ = some (.int .i64 l.ac) ∧ W.cell? ⟨w.heap.size, 4, none⟩ = some (.int .i64 l.pe) ∧ W.cell? ⟨w.heap.size, 5, none⟩ = some (.int .i64 l.ph) ∧ W.cell? ⟨w.heap.size, 6, none⟩ = some (.int .i64 l.ag) ∧ W.cell? ⟨w.heap.size + 1, 0, none⟩ = some (.int .i64 s.s) ∧ W.cell? ⟨w.heap.size + 1, 1, none⟩ = some (.int .i64 s.a))) := fun W gW => by
          have q1 := L2.out.gr gW
          have q2 := S2.out.gr gW
          exact ⟨gW, by simpa using q1 0 _ rfl, by simpa using q1 1 _ rfl, by simpa using q1 2 _ rfl, by simpa using q1 3 _ rfl, by simpa using q1 4 _ rfl, by simpa using q1 5 _ rfl, by simpa using q1 6 _ rfl, by simpa using q2 0 _ rfl, by simpa using q2 1 _ rfl⟩
        apply wp_join1 (F := fun W v1 => Gr w2 W)
        case h =>
          go_region_held3 (fun W => Gr w2 W ∧ W.cell? ⟨w.heap.size, 0, none⟩ = some (.int .i64 l.id) ∧ W.cell? ⟨w.heap.size, 1, none⟩ = some (.int .i64 l.se) ∧ W.cell? ⟨w.heap.size, 2, none⟩ = some (.int .i64 l.co) ∧ W.cell? ⟨w.heap.size, 3, none⟩ = some (.int .i64 l.ac) ∧ W.cell? ⟨w.heap.size, 4, none⟩ = some (.int .i64 l.pe) ∧ W.cell? ⟨w.heap.size, 5, none⟩ = some (.int .i64 l.ph) ∧ W.cell? ⟨w.heap.size, 6, none⟩ = some (.int .i64 l.ag) ∧ W.cell? ⟨w.heap.size + 1, 0, none⟩ = some (.int .i64 s.s) ∧ W.cell? ⟨w.heap.size + 1, 1, none⟩ = some (.int .i64 s.a)) ((refine KG.out _ ?_; (repeat (first | assumption | exact And.left (by assumption) | exact Gr.refl _ | refine Gr.drew ?_ | refine Gr.alloc ?_ _ | refine Gr.setCell ?_ (by first | exact Nat.le_refl _ | omega) _ | refine Gr.trans ?_ (by assumption)))))
              ((first
                | (go_at_call 30; refine (CL.out _ (G2.out.trans (And.left (by assumption)))).mono ?_; rintro e w9 ⟨a1, rfl, Q1, k1⟩)
                | (go_at_call 31; refine (CAR.out _ _ (by (repeat (first | assumption | refine Rows.gr ?_ (by assumption))))).mono ?_; rintro e w9 ⟨rfl, k2⟩)))
          all_goals exact ⟨rfl, a1, rfl, (‹Gr w2 _ ∧ _›).1⟩
        case k =>
          intro a1 w3 g3
          have G3 : Aside (Gr w w3) := G2.out.trans g3
          have L3 := Lib.hid (L2.out.gr g3)
          have S3 := Lib.hid (S2.out.gr g3)
          clear g3 KG L2 S2
          have u0 := (L3.out) 0 _ rfl; have u1 := (L3.out) 1 _ rfl; have u2 := (L3.out) 2 _ rfl; have u3 := (L3.out) 3 _ rfl; have u4 := (L3.out) 4 _ rfl; have u5 := (L3.out) 5 _ rfl; have u6 := (L3.out) 6 _ rfl; (try simp only [Nat.add_zero] at u0); (try simp only [Nat.zero_add] at u0 u1 u2 u3 u4 u5 u6)
          have v0 := (S3.out) 0 _ rfl; have v1 := (S3.out) 1 _ rfl; (try simp only [Nat.add_zero] at v0); (try simp only [Nat.zero_add] at v0 v1)
          have hz := L3.out.lt rfl
          have hz2 := S3.out.lt rfl
          go_wp2_with fail
          refine (RCAR.out _ _ (RD.out.gr G3.out)).mono ?_
          rintro e w4 ⟨rfl, g4⟩
          have G4 : Aside (Gr w w4) := G3.out.trans g4
          have L4 := Lib.hid (L3.out.gr g4)
          have S4 := Lib.hid (S3.out.gr g4)
          clear g4 u0 u1 u2 u3 u4 u5 u6 v0 v1 hz hz2 L3 S3
          have u0 := (L4.out) 0 _ rfl; have u1 := (L4.out) 1 _ rfl; have u2 := (L4.out) 2 _ rfl; have u3 := (L4.out) 3 _ rfl; have u4 := (L4.out) 4 _ rfl; have u5 := (L4.out) 5 _ rfl; have u6 := (L4.out) 6 _ rfl; (try simp only [Nat.add_zero] at u0); (try simp only [Nat.zero_add] at u0 u1 u2 u3 u4 u5 u6)
          have v0 := (S4.out) 0 _ rfl; have v1 := (S4.out) 1 _ rfl; (try simp only [Nat.add_zero] at v0); (try simp only [Nat.zero_add] at v0 v1)
          have hz := L4.out.lt rfl
          have hz2 := S4.out.lt rfl
          go_wp2_with fail
          clear u0 u1 u2 u3 u4 u5 u6 v0 v1 hz hz2
          have KG : Aside (∀ W, Gr w4 W → (Gr w4 W ∧ W.cell? ⟨w.heap.size, 0, none⟩ = some (.int .i64 l.id) ∧ W.cell? ⟨w.heap.size, 1, none⟩ = some (.int .i64 l.se) ∧ W.cell? ⟨w.heap.size, 2, none⟩ = some (.int .i64 l.co) ∧ W.cell? ⟨w.heap.size, 3, none⟩ = some (.int .i64 l.ac) ∧ W.cell? ⟨w.heap.size, 4, none⟩ = some (.int .i64 l.pe) ∧ W.cell? ⟨w.heap.size, 5, none⟩ = some (.int .i64 l.ph) ∧ W.cell? ⟨w.heap.size, 6, none⟩ = some (.int .i64 l.ag) ∧ W.cell? ⟨w.heap.size + 1, 0, none⟩ = some (.int .i64 s.s) ∧ W.cell? ⟨w.heap.size + 1, 1, none⟩ = some (.int .i64 s.a))) := fun W gW => by
            have q1 := L4.out.gr gW
            have q2 := S4.out.gr gW
            exact ⟨gW, by simpa using q1 0 _ rfl, by simpa using q1 1 _ rfl, by simpa using q1 2 _ rfl, by simpa using q1 3 _ rfl, by simpa using q1 4 _ rfl, by simpa using q1 5 _ rfl, by simpa using q1 6 _ rfl, by simpa using q2 0 _ rfl, by simpa using q2 1 _ rfl⟩
          apply wp_join2 (F := fun W v1 v2 => Gr w4 W ∧ Rows 1 encI W v2 AL)
          case h =>
            go_region_held3 (fun W => Gr w4 W ∧ W.cell? ⟨w.heap.size, 0, none⟩ = some (.int .i64 l.id) ∧ W.cell? ⟨w.heap.size, 1, none⟩ = some (.int .i64 l.se) ∧ W.cell? ⟨w.heap.size, 2, none⟩ = some (.int .i64 l.co) ∧ W.cell? ⟨w.heap.size, 3, none⟩ = some (.int .i64 l.ac) ∧ W.cell? ⟨w.heap.size, 4, none⟩ = some (.int .i64 l.pe) ∧ W.cell? ⟨w.heap.size, 5, none⟩ = some (.int .i64 l.ph) ∧ W.cell? ⟨w.heap.size, 6, none⟩ = some (.int .i64 l.ag) ∧ W.cell? ⟨w.heap.size + 1, 0, none⟩ = some (.int .i64 s.s) ∧ W.cell? ⟨w.heap.size + 1, 1, none⟩ = some (.int .i64 s.a)) ((refine KG.out _ ?_; (repeat (first | assumption | exact And.left (by assumption) | exact Gr.refl _ | refine Gr.drew ?_ | refine Gr.alloc ?_ _ | refine Gr.setCell ?_ (by first | exact Nat.le_refl _ | omega) _ | refine Gr.trans ?_ (by assumption)))))
                ((first
                  | (go_at_call 30; refine (CL.out _ (G4.out.trans (And.left (by assumption)))).mono ?_; rintro e w9 ⟨a1, rfl, Q1, k1⟩)
                  | (go_at_call 13; refine (AGE.out _ _ (by (repeat (first | assumption | refine Rows.gr ?_ (by assumption))))).mono ?_; rintro e w9 ⟨a2, rfl, Q2, k2⟩)))
            all_goals exact ⟨rfl, a1, a2, rfl, (‹Gr w4 _ ∧ _›).1, Q2⟩
          case k =>
            intro a1 a2 w5 hF
            obtain ⟨g5, r5⟩ := hF
            have RA5 := Lib.hid r5
            have G5 : Aside (Gr w w5) := G4.out.trans g5
            have L5 := Lib.hid (L4.out.gr g5)
            have S5 := Lib.hid (S4.out.gr g5)
            clear g5 KG r5 L4 S4
            have u0 := (L5.out) 0 _ rfl; have u1 := (L5.out) 1 _ rfl; have u2 := (L5.out) 2 _ rfl; have u3 := (L5.out) 3 _ rfl; have u4 := (L5.out) 4 _ rfl; have u5 := (L5.out) 5 _ rfl; have u6 := (L5.out) 6 _ rfl; (try simp only [Nat.add_zero] at u0); (try simp only [Nat.zero_add] at u0 u1 u2 u3 u4 u5 u6)
            have v0 := (S5.out) 0 _ rfl; have v1 := (S5.out) 1 _ rfl; (try simp only [Nat.add_zero] at v0); (try simp only [Nat.zero_add] at v0 v1)
            have hz := L5.out.lt rfl
            have hz2 := S5.out.lt rfl
            go_wp2_with fail
            refine (RAGE.out _ _ (RD.out.gr G5.out)).mono ?_
            rintro e w6 ⟨b2, rfl, r6, g6⟩
            have RB6 := Lib.hid r6
            have RA6 := Lib.hid (RA5.out.gr g6)
            have G6 : Aside (Gr w w6) := G5.out.trans g6
            have L6 := Lib.hid (L5.out.gr g6)
            have S6 := Lib.hid (S5.out.gr g6)
            clear g6 r6 RA5 u0 u1 u2 u3 u4 u5 u6 v0 v1 hz hz2 L5 S5
            have u0 := (L6.out) 0 _ rfl; have u1 := (L6.out) 1 _ rfl; have u2 := (L6.out) 2 _ rfl; have u3 := (L6.out) 3 _ rfl; have u4 := (L6.out) 4 _ rfl; have u5 := (L6.out) 5 _ rfl; have u6 := (L6.out) 6 _ rfl; (try simp only [Nat.add_zero] at u0); (try simp only [Nat.zero_add] at u0 u1 u2 u3 u4 u5 u6)
            have v0 := (S6.out) 0 _ rfl; have v1 := (S6.out) 1 _ rfl; (try simp only [Nat.add_zero] at v0); (try simp only [Nat.zero_add] at v0 v1)
            have hz := L6.out.lt rfl
            have hz2 := S6.out.lt rfl
            go_wp2_with fail
            clear u0 u1 u2 u3 u4 u5 u6 v0 v1 hz hz2
            have KG : Aside (∀ W, Gr w6 W → (Gr w6 W ∧ W.cell? ⟨w.heap.size, 0, none⟩ = some (.int .i64 l.id) ∧ W.cell? ⟨w.heap.size, 1, none⟩ = some (.int .i64 l.se) ∧ W.cell? ⟨w.heap.size, 2, none⟩ = some (.int .i64 l.co) ∧ W.cell? ⟨w.heap.size, 3, none⟩ = some (.int .i64 l.ac) ∧ W.cell? ⟨w.heap.size, 4, none⟩ = some (.int .i64 l.pe) ∧ W.cell? ⟨w.heap.size, 5, none⟩ = some (.int .i64 l.ph) ∧ W.cell? ⟨w.heap.size, 6, none⟩ = some (.int .i64 l.ag) ∧ W.cell? ⟨w.heap.size + 1, 0, none⟩ = some (.int .i64 s.s) ∧ W.cell? ⟨w.heap.size + 1, 1, none⟩ = some (.int .i64 s.a))) := fun W gW => by
              have q1 := L6.out.gr gW
              have q2 := S6.out.gr gW
              exact ⟨gW, by simpa using q1 0 _ rfl, by simpa using q1 1 _ rfl, by simpa using q1 2 _ rfl, by simpa using q1 3 _ rfl, by simpa using q1 4 _ rfl, by simpa using q1 5 _ rfl, by simpa using q1 6 _ rfl, by simpa using q2 0 _ rfl, by simpa using q2 1 _ rfl⟩
            apply wp_join2 (F := fun W v1 v2 => Gr w6 W ∧ Rows 1 encI W v2 TL)
            case h =>
              go_region_held3 (fun W => Gr w6 W ∧ W.cell? ⟨w.heap.size, 0, none⟩ = some (.int .i64 l.id) ∧ W.cell? ⟨w.heap.size, 1, none⟩ = some (.int .i64 l.se) ∧ W.cell? ⟨w.heap.size, 2, none⟩ = some (.int .i64 l.co) ∧ W.cell? ⟨w.heap.size, 3, none⟩ = some (.int .i64 l.ac) ∧ W.cell? ⟨w.heap.size, 4, none⟩ = some (.int .i64 l.pe) ∧ W.cell? ⟨w.heap.size, 5, none⟩ = some (.int .i64 l.ph) ∧ W.cell? ⟨w.heap.size, 6, none⟩ = some (.int .i64 l.ag) ∧ W.cell? ⟨w.heap.size + 1, 0, none⟩ = some (.int .i64 s.s) ∧ W.cell? ⟨w.heap.size + 1, 1, none⟩ = some (.int .i64 s.a)) ((refine KG.out _ ?_; (repeat (first | assumption | exact And.left (by assumption) | exact Gr.refl _ | refine Gr.drew ?_ | refine Gr.alloc ?_ _ | refine Gr.setCell ?_ (by first | exact Nat.le_refl _ | omega) _ | refine Gr.trans ?_ (by assumption)))))
                  ((first
                    | (go_at_call 30; refine (CL.out _ (G6.out.trans (And.left (by assumption)))).mono ?_; rintro e w9 ⟨a1, rfl, Q1, k1⟩)
                    | (go_at_call 25; refine (LAT.out _ _ (by (repeat (first | assumption | refine Rows.gr ?_ (by assumption))))).mono ?_; rintro e w9 ⟨a2, rfl, Q2, k2⟩)))
              all_goals exact ⟨rfl, a1, a2, rfl, (‹Gr w6 _ ∧ _›).1, Q2⟩
            case k =>
              intro a3 a4 w7 hF
              obtain ⟨g7, r7⟩ := hF
              have RC7 := Lib.hid r7
              have RA7 := Lib.hid (RA6.out.gr g7)
              have RB7 := Lib.hid (RB6.out.gr g7)
              have G7 : Aside (Gr w w7) := G6.out.trans g7
              have L7 := Lib.hid (L6.out.gr g7)
              have S7 := Lib.hid (S6.out.gr g7)
              clear g7 KG r7 L6 S6 RA6 RB6
              have u0 := (L7.out) 0 _ rfl; have u1 := (L7.out) 1 _ rfl; have u2 := (L7.out) 2 _ rfl; have u3 := (L7.out) 3 _ rfl; have u4 := (L7.out) 4 _ rfl; have u5 := (L7.out) 5 _ rfl; have u6 := (L7.out) 6 _ rfl; (try simp only [Nat.add_zero] at u0); (try simp only [Nat.zero_add] at u0 u1 u2 u3 u4 u5 u6)
              have v0 := (S7.out) 0 _ rfl; have v1 := (S7.out) 1 _ rfl; (try simp only [Nat.add_zero] at v0); (try simp only [Nat.zero_add] at v0 v1)
              have hz := L7.out.lt rfl
              have hz2 := S7.out.lt rfl
              go_wp2_with fail
              refine (RLAT.out _ _ (RD.out.gr G7.out)).mono ?_
              rintro e w8 ⟨b4, rfl, r8, g8⟩
              have RD8 := Lib.hid r8
              have RA8 := Lib.hid (RA7.out.gr g8)
              have RB8 := Lib.hid (RB7.out.gr g8)
              have RC8 := Lib.hid (RC7.out.gr g8)
              have G8 : Aside (Gr w w8) := G7.out.trans g8
              clear g8 r8 RA7 RB7 RC7 u0 u1 u2 u3 u4 u5 u6 v0 v1 hz hz2 L7 S7
              go_wp2_with fail
              refine ((equal_any _ _ _ _ w8 RA8.out RB8.out (by omega) (by omega)).mono fun e w' h => (⟨h.1.trans (ret_bool (decide_eq_true rfl)), h.2⟩ : e = .returned (.bool true) ∧ Gr w8 w')).mono ?_
              rintro e w9 ⟨rfl, g9⟩
              have G9 : Aside (Gr w w9) := G8.out.trans g9
              have RC9 := Lib.hid (RC8.out.gr g9)
              have RD9 := Lib.hid (RD8.out.gr g9)
              clear g9 RA8 RB8 RC8 RD8
              go_wp2_with fail
              refine ((equal_any _ _ _ _ w9 RC9.out RD9.out (by omega) (by omega)).mono fun e w' h => (⟨h.1.trans (ret_bool (decide_eq_true rfl)), h.2⟩ : e = .returned (.bool true) ∧ Gr w9 w')).mono ?_
              rintro e w10 ⟨rfl, g10⟩
              have G10 : Aside (Gr w w10) := G9.out.trans g10
              clear g10 RC9 RD9
              go_wp2_with fail
              go_ret
              exact ⟨by first | rfl | simp, G10.out⟩
  · rw [bf h24]
    go_wp2_with fail
    refine (lawake_any _).mono ?_
    rintro e w3 ⟨rfl, g3⟩
    have G3 : Aside (Gr w w3) := G2.out.trans g3
    go_wp2_with fail
    go_ret
    exact ⟨rfl, G3.out⟩
end Go.Proofs.Ytckkjiaoaeaaoaa.loopAges

