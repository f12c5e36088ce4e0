/- The walk of TimesyncOne: the Go text returns true. (Printed by mkone.py.) -/
import Derived.Test.YtjiaemmhjkhdhaaTmsAwake
import Derived.Test.YtjiaemmhjkhdhaaRunC
import Derived.Test.YtjiaemmhjkhdhaaIndexY
import Derived.Test.YtjiaemmhjkhdhaaCloneY
import Derived.Test.YtjiaemmhjkhdhaaEqualS
import Derived.Test.YtjiaemmhjkhdhaaOnePlain
import Derived.Test.YtjiaemmhjkhdhaaOkTree
import Derived.Test.YtjiaemmhjkhdhaaHeld
namespace Go.Proofs.Ytjiaemmhjkhdhaa.timesyncOne
open Go.RowKit Go.Sort
set_option linter.unusedVariables false

/-- the law's closure: a step names the node -/
theorem named_any (n : Int) (b : Nat) (x : Yn) (w : World) (h : w.cell? ⟨b, 0, none⟩ = some (.int .i64 n)) :
    Calls Try.prog 31 #[.agg #[.int .i64 x.n, .int .i64 x.t, .bool x.a], .pointer (some ⟨b, 0, none⟩)] w fun e w' => e = .returned (.bool (decide (x.n = n))) ∧ Gr w w' := by
  have hlt := block_lt_of_cell h
  by_cases q : x.n = n
  · have q2 : (x.n == n) = true := by simpa using q
    rw [decide_eq_true q]
    clear q
    go_enter Try.func31, Try.ntmps31
    go_wp2_with fail
    go_ret
    exact ⟨rfl, (by (repeat (first | assumption | exact And.left (by assumption) | exact Gr.refl _ | refine Gr.drew ?_ | refine Gr.alloc ?_ _ | refine Gr.setCell ?_ (by first | exact Nat.le_refl _ | omega) _ | refine Gr.trans ?_ (by assumption))))⟩
  · have q2 : (x.n == n) = false := by simpa using q
    rw [decide_eq_false q]
    clear q
    go_enter Try.func31, Try.ntmps31
    go_wp2_with fail
    go_ret
    exact ⟨rfl, (by (repeat (first | assumption | exact And.left (by assumption) | exact Gr.refl _ | refine Gr.drew ?_ | refine Gr.alloc ?_ _ | refine Gr.setCell ?_ (by first | exact Nat.le_refl _ | omega) _ | refine Gr.trans ?_ (by assumption))))⟩

theorem cell_new (w : World) (n : Int) (t : TypeId) : (w.alloc (Obj.cells #[.int .i64 n] t)).cell? ⟨w.heap.size, 0, none⟩ = some (.int .i64 n) := by go_simp
/-- some step names the node -/
theorem named_all (n : Int) (v : Value) (Y : List Yn) (w : World) (h : Rows 3 encY w v Y) (hb : (Y.length : Int) ≤ 4611686018427387904) :
    Calls Try.prog 30 #[v, .func (.func 31) #[] #[.pointer (some ⟨w.heap.size, 0, none⟩)]] (w.alloc (Obj.cells #[.int .i64 n] 3))
      fun e w' => e = .returned (.bool (Y.any fun x => decide (x.n = n))) ∧ Gr (w.alloc (Obj.cells #[.int .i64 n] 3)) w' := by
  refine containsY_any 31 #[.pointer (some ⟨w.heap.size, 0, none⟩)] (fun x => decide (x.n = n)) v Y _ (h.gr (Gr.alloc (Gr.refl w) _)) hb (enters_of Try.func31 (by kernel_rfl) rfl) ?_
  intro W i x g _
  have key := named_any n w.heap.size x W (held_keep g (cell_new w n _))
  exact key

/-- rows of structs, met out of a clone's post -/
theorem rows_cloneS {l : List Sy} {w w' : World} {e : Ending} (h : CloneSPost l w e w') : ∃ v, e = .returned v ∧ Rows 4 encS w' v l ∧ Gr w w' := by
  obtain ⟨v, h1, h2, h3⟩ := h
  exact ⟨v, h1, Rows.of_owns encS_len h2, h3⟩
theorem rows_cloneY {l : List Yn} {w w' : World} {e : Ending} (h : CloneYPost l w e w') : ∃ v, e = .returned v ∧ Rows 3 encY w' v l ∧ Gr w w' := by
  obtain ⟨v, h1, h2, h3⟩ := h
  exact ⟨v, h1, Rows.of_owns encY_len h2, h3⟩

set_option maxHeartbeats 16000000 in
set_option maxRecDepth 100000 in
theorem walk (u0 u1 : Value) (S : List Sy) (p : List Int) (v1 : Value) (Y : List Yn) (cut : Int) (wfcut : (Lit.int .u8 cut).wf = true) (w : World)
    (rS : Rows 4 encS w u0 S) (bS : (S.length : Int) ≤ 9223372036854775807) (kS : ∀ A n c, u0 = .slice A n c → n ≤ c ∧ c ≤ 9223372036854775807) (wS : ∀ x ∈ S, okSy x)
    (rp : Rows 1 encI w u1 p) (bp : (p.length : Int) ≤ 9223372036854775807) (kp : ∀ A n c, u1 = .slice A n c → n ≤ c ∧ c ≤ 9223372036854775807) (wp : ∀ x ∈ p, okI x)
    (rY : Rows 3 encY w v1 Y) (bY : (Y.length : Int) ≤ 9223372036854775807) (kY : ∀ A n c, v1 = .slice A n c → n ≤ c ∧ c ≤ 9223372036854775807) (wY : ∀ x ∈ Y, okYn x) :
    Calls Try.prog 7 #[.agg #[u0, u1], v1, .int .u8 cut] w fun e w' => e = .returned (.bool true) ∧ Gr w w' := by
  have wcut := bounds_u8 wfcut
  clear kS wS kp wp wY wfcut
  obtain ⟨A0, C0, rfl⟩ := rS.slice
  obtain ⟨A1, C1, rfl⟩ := rp.slice
  obtain ⟨A2, C2, rfl⟩ := rY.slice
  obtain ⟨n0, e0⟩ : ∃ n, S.length = n := ⟨_, rfl⟩
  obtain ⟨n1, e1⟩ : ∃ n, p.length = n := ⟨_, rfl⟩
  obtain ⟨n2, e2⟩ : ∃ n, Y.length = n := ⟨_, rfl⟩
  have RS : Hid (Rows 4 encS w (.slice A0 n0 C0) S) := by rw [e0] at rS; exact rS
  have RP : Hid (Rows 1 encI w (.slice A1 n1 C1) p) := by rw [e1] at rp; exact rp
  have RY : Hid (Rows 3 encY w (.slice A2 n2 C2) Y) := by rw [e2] at rY; exact rY
  have kc2 := kY _ _ _ rfl
  rw [e0] at bS ⊢
  rw [e1] at bp ⊢
  rw [e2] at bY kc2 ⊢
  clear rS rp rY kY
  have E0 := Lib.hid e0
  have E1 := Lib.hid e1
  have E2 := Lib.hid e2
  clear e0 e1 e2
  by_cases big0 : 40 < n0
  · have z0 : (40 : Int) < (n0 : Int) := by omega
    go_enter Try.func7, Try.ntmps7
    go_wp2_with fail
    refine (awake_any _).mono ?_
    rintro e w1 ⟨rfl, g1⟩
    have x0 := held_keep (p := ⟨w.heap.size, 0, none⟩) (v := .slice A0 n0 C0) g1 (by go_simp)
    have x1 := held_keep (p := ⟨w.heap.size, 1, none⟩) (v := .slice A1 n1 C1) g1 (by go_simp)
    have G1 : Aside (Gr w w1) := (Gr.alloc (Gr.refl w) _).trans g1
    clear g1
    go_wp2_with fail
    go_ret
    exact ⟨rfl, G1.out⟩
  · have z0 : ¬ (40 : Int) < (n0 : Int) := by omega
    by_cases big1 : 40 < n1
    · have z1 : (40 : Int) < (n1 : Int) := by omega
      go_enter Try.func7, Try.ntmps7
      go_wp2_with fail
      refine (awake_any _).mono ?_
      rintro e w1 ⟨rfl, g1⟩
      have x0 := held_keep (p := ⟨w.heap.size, 0, none⟩) (v := .slice A0 n0 C0) g1 (by go_simp)
      have x1 := held_keep (p := ⟨w.heap.size, 1, none⟩) (v := .slice A1 n1 C1) g1 (by go_simp)
      have G1 : Aside (Gr w w1) := (Gr.alloc (Gr.refl w) _).trans g1
      clear g1
      go_wp2_with fail
      go_ret
      exact ⟨rfl, G1.out⟩
    · have z1 : ¬ (40 : Int) < (n1 : Int) := by omega
      by_cases big2 : 40 < n2
      · have z2 : (40 : Int) < (n2 : Int) := by omega
        go_enter Try.func7, Try.ntmps7
        go_wp2_with fail
        refine (awake_any _).mono ?_
        rintro e w1 ⟨rfl, g1⟩
        have x0 := held_keep (p := ⟨w.heap.size, 0, none⟩) (v := .slice A0 n0 C0) g1 (by go_simp)
        have x1 := held_keep (p := ⟨w.heap.size, 1, none⟩) (v := .slice A1 n1 C1) g1 (by go_simp)
        have G1 : Aside (Gr w w1) := (Gr.alloc (Gr.refl w) _).trans g1
        clear g1
        go_wp2_with fail
        go_ret
        exact ⟨rfl, G1.out⟩
      · have z2 : ¬ (40 : Int) < (n2 : Int) := by omega
        have CS := fun W (g : Gr w W) => (cloneCloneS_any _ S W (RS.out.gr g) (by rw [E0.out]; omega)).mono fun e w' h => rows_cloneS h
        have CP := fun W (g : Gr w W) => clone_any _ p W (RP.out.gr g) (by rw [E1.out]; omega)
        have CY := fun W (g : Gr w W) => (cloneCloneY_any _ Y W (RY.out.gr g) (by rw [E2.out]; omega)).mono fun e w' h => rows_cloneY h
        have RUN := fun v1 v2 v3 W h1 h2 h3 => run_any v1 v2 v3 S p Y W h1 h2 h3 (by rw [E0.out]; omega) (by rw [E1.out]; omega) (by rw [E2.out]; omega)
        go_enter Try.func7, Try.ntmps7
        go_wp2_with fail
        refine (awake_any _).mono ?_
        rintro e w1 ⟨rfl, g1⟩
        have x0 := held_keep (p := ⟨w.heap.size, 0, none⟩) (v := .slice A0 n0 C0) g1 (by go_simp)
        have x1 := held_keep (p := ⟨w.heap.size, 1, none⟩) (v := .slice A1 n1 C1) g1 (by go_simp)
        have KEEP1 : Aside (∀ W, Gr w1 W → (Gr w1 W ∧ W.cell? ⟨w.heap.size, 0, none⟩ = some (.slice A0 n0 C0) ∧ W.cell? ⟨w.heap.size, 1, none⟩ = some (.slice A1 n1 C1))) := fun W g => ⟨g, held_keep g x0, held_keep g x1⟩
        have G1 : Aside (Gr w w1) := (Gr.alloc (Gr.refl w) _).trans g1
        clear g1
        by_cases he : (Ru.run p S Y).2.2 = 0
        · obtain ⟨hok, i1, L1, U1, SPL⟩ := Ru.one_ok he
          have HOK := Lib.hid hok
          obtain ⟨k, hk, hk2⟩ : ∃ k : Nat, cut.tmod ((n2 : Int) + 1) = (k : Int) ∧ k ≤ n2 := by
            have h1 := Int.tmod_nonneg ((n2 : Int) + 1) wcut.1
            have h2 := Int.tmod_lt_of_pos cut (b := (n2 : Int) + 1) (by omega)
            exact ⟨(cut.tmod ((n2 : Int) + 1)).toNat, by omega, by omega⟩
          obtain ⟨m, m1, m2, m3⟩ := SPL k (by rw [E2.out]; exact hk2)
          have RUN2 := fun v1 v2 v3 W h1 h2 h3 => run_any v1 v2 v3 S p (Y.take k) W h1 h2 h3 (by rw [E0.out]; omega) (by rw [E1.out]; omega) (by simp; have := E2.out; omega)
          have RUN3 := fun v1 v2 v3 W h1 h2 h3 => run_any v1 v2 v3 m p (Y.drop k) W h1 h2 h3 (by rw [m2, E0.out]; omega) (by rw [E1.out]; omega) (by simp; have := E2.out; omega)
          rw [m1] at RUN2
          rw [m3] at RUN3
          have U := Lib.hid U1
          have L := Lib.hid L1
          have ML := Lib.hid m2
          generalize Ru.run p S Y = r at he i1 U L RUN RUN3
          obtain ⟨all, ii, ee⟩ := r
          simp only at he i1 U L RUN3
          subst he i1
          have hb : ((0 : Int) != 0) = false := rfl
          have n0pos : 1 ≤ n0 := by
            have h1 := hok.1.1.1
            have h2 := hok.2.1
            have h3 := E0.out
            omega
          obtain ⟨bS, oS, hA0, hbS, SC0⟩ : ∃ b off, A0 = some ⟨b, off, none⟩ ∧ b < w.heap.size ∧ ∀ i x, S[i]? = some x → ∀ j u, (encS x)[j]? = some u → w.cell? ⟨b, off + i * 4 + j, none⟩ = some u := by
            rcases RS.out with ⟨h, _⟩ | ⟨b, off, c, hb, hv, hx⟩
            · have := E0.out; rw [h] at this; simp at this; omega
            · simp only [Value.slice.injEq] at hv
              exact ⟨b, off, hv.1, hb, hx⟩
          subst hA0
          have SC := Lib.hid SC0
          have HBS := Lib.hid hbS
          have AL : Hid (all.length = n0) := L.out.trans E0.out
          clear hok U1 L1 SPL m1 m2 m3 SC0 hbS
          go_wp2_with fail
          apply wp_join4 (F := fun W v1 v2 v3 v4 => Gr w1 W ∧ Rows 4 encS W v4 all)
          case h =>
            go_region_held3 (fun W => Gr w1 W ∧ W.cell? ⟨w.heap.size, 0, none⟩ = some (.slice (some ⟨bS, oS, none⟩) n0 C0) ∧ W.cell? ⟨w.heap.size, 1, none⟩ = some (.slice A1 n1 C1)) ((refine KEEP1.out _ ?_; (repeat (first | assumption | exact And.left (by assumption) | exact Gr.refl _ | refine Gr.drew ?_ | refine Gr.alloc ?_ _ | refine Gr.setCell ?_ (by first | exact Nat.le_refl _ | omega) _ | refine Gr.trans ?_ (by assumption)))))
              ((first
                | (go_at_call 27; refine (CS _ (G1.out.trans (And.left (by assumption)))).mono ?_; rintro e w9 ⟨a1, rfl, Q1, k1⟩)
                | (go_at_call 22; refine (CP _ (G1.out.trans (And.left (by assumption)))).mono ?_; rintro e w9 ⟨a2, rfl, Q2, k2⟩)
                | (go_at_call 28; refine (CY _ (G1.out.trans (And.left (by assumption)))).mono ?_; rintro e w9 ⟨a3, rfl, Q3, k3⟩)
                | (go_at_call 26; refine (RUN _ _ _ _ (by (repeat (first | assumption | refine Rows.gr ?_ (by assumption)))) (by (repeat (first | assumption | refine Rows.gr ?_ (by assumption)))) (by (repeat (first | assumption | refine Rows.gr ?_ (by assumption))))).mono ?_; rintro e w9 ⟨a4, rfl, Q4, k4⟩)))
            all_goals exact ⟨rfl, a1, a2, a3, a4, rfl, (‹Gr w1 _ ∧ _›).1, Q4⟩
          case k =>
            intro a1 a2 a3 a4 w5 hF
            obtain ⟨g5, R5⟩ := hF
            have y0 := held_keep g5 x0
            have y1 := held_keep g5 x1
            have KEEP2 : Aside (∀ W, Gr w5 W → (Gr w5 W ∧ W.cell? ⟨w.heap.size, 0, none⟩ = some (.slice (some ⟨bS, oS, none⟩) n0 C0) ∧ W.cell? ⟨w.heap.size, 1, none⟩ = some (.slice A1 n1 C1))) := fun W g => ⟨g, held_keep g y0, held_keep g y1⟩
            have G5 : Aside (Gr w w5) := G1.out.trans g5
            obtain ⟨b5, o5, C5, rfl, hb5, AC0⟩ : ∃ b off C, a4 = .slice (some ⟨b, off, none⟩) n0 C ∧ b < w5.heap.size ∧ ∀ i x, all[i]? = some x → ∀ j u, (encS x)[j]? = some u → w5.cell? ⟨b, off + i * 4 + j, none⟩ = some u := by
              rcases R5 with ⟨h, _⟩ | ⟨b, off, c, hb, hv, hx⟩
              · have := AL.out; rw [h] at this; simp at this; omega
              · rw [AL.out] at hv
                exact ⟨b, off, c, hv, hb, hx⟩
            have R5' := Lib.hid R5
            have AC := Lib.hid AC0
            have HB5 := Lib.hid hb5
            clear x0 x1 g5 R5 AC0 hb5
            rcases A2 with _ | aY
            · skip
              have YE : Y = [] := by
                rcases RY.out with ⟨h, _⟩ | ⟨b, off, c, _, hv, _⟩
                · exact h
                · simp at hv
              obtain rfl : n2 = 0 := by rw [← E2.out, YE]; rfl
              obtain rfl : k = 0 := by omega
              obtain rfl : C2 = 0 := by
                rcases RY.out with ⟨h, A', c, hv, hc⟩ | ⟨b, off, c, _, hv, _⟩
                · simp only [Value.slice.injEq] at hv
                  obtain ⟨rfl, _, rfl⟩ := hv
                  exact hc rfl
                · simp at hv
              have T1 : Hid (Rows 3 encY w (.slice none 0 0) (Y.take 0)) := rows_take RY.out (Nat.le_refl _)
              have T2 : Hid (Rows 3 encY w (.slice none 0 0) (Y.drop 0)) := RY.out
              have C1' := fun W (g : Gr w W) => (cloneCloneY_any _ _ W (T1.out.gr g) (by have := E2.out; first | (rw [List.length_take]; omega) | (rw [List.length_drop]; omega))).mono fun e w' h => rows_cloneY h
              have C2' := fun W (g : Gr w W) => (cloneCloneY_any _ _ W (T2.out.gr g) (by have := E2.out; first | (rw [List.length_take]; omega) | (rw [List.length_drop]; omega))).mono fun e w' h => rows_cloneY h
              go_wp2_with fail
              apply wp_join4 (F := fun W v1 v2 v3 v4 => Gr w5 W ∧ Rows 4 encS W v4 m)
              case h =>
                go_region_held3 (fun W => Gr w5 W ∧ W.cell? ⟨w.heap.size, 0, none⟩ = some (.slice (some ⟨bS, oS, none⟩) n0 C0) ∧ W.cell? ⟨w.heap.size, 1, none⟩ = some (.slice A1 n1 C1)) ((refine KEEP2.out _ ?_; (repeat (first | assumption | exact And.left (by assumption) | exact Gr.refl _ | refine Gr.drew ?_ | refine Gr.alloc ?_ _ | refine Gr.setCell ?_ (by first | exact Nat.le_refl _ | omega) _ | refine Gr.trans ?_ (by assumption)))))
                  ((first
                    | (go_at_call 27; refine (CS _ (G5.out.trans (And.left (by assumption)))).mono ?_; rintro e w9 ⟨a1, rfl, Q1, k1⟩)
                    | (go_at_call 22; refine (CP _ (G5.out.trans (And.left (by assumption)))).mono ?_; rintro e w9 ⟨a2, rfl, Q2, k2⟩)
                    | (go_at_call 28; refine (C1' _ (G5.out.trans (And.left (by assumption)))).mono ?_; rintro e w9 ⟨a3, rfl, Q3, k3⟩)
                    | (go_at_call 26; refine (RUN2 _ _ _ _ (by (repeat (first | assumption | refine Rows.gr ?_ (by assumption)))) (by (repeat (first | assumption | refine Rows.gr ?_ (by assumption)))) (by (repeat (first | assumption | refine Rows.gr ?_ (by assumption))))).mono ?_; rintro e w9 ⟨a4, rfl, Q4, k4⟩)))
                all_goals exact ⟨rfl, a1, a2, a3, a4, rfl, (‹Gr w5 _ ∧ _›).1, Q4⟩
              case k =>
                intro b1 b2 b3 b4 w6 hF
                obtain ⟨g6, R6⟩ := hF
                have x0 := held_keep g6 y0
                have x1 := held_keep g6 y1
                have KEEP3 : Aside (∀ W, Gr w6 W → (Gr w6 W ∧ W.cell? ⟨w.heap.size, 0, none⟩ = some (.slice (some ⟨bS, oS, none⟩) n0 C0) ∧ W.cell? ⟨w.heap.size, 1, none⟩ = some (.slice A1 n1 C1))) := fun W g => ⟨g, held_keep g x0, held_keep g x1⟩
                have G6 : Aside (Gr w w6) := G5.out.trans g6
                have G56 : Aside (Gr w5 w6) := g6
                have CM := fun W (g : Gr w6 W) => (cloneCloneS_any b4 m W (R6.gr g) (by rw [ML.out, E0.out]; omega)).mono fun e w' h => rows_cloneS h
                clear y0 y1 g6 RUN RUN2 C1' CY
                go_wp2_with fail
                apply wp_join4 (F := fun W v1 v2 v3 v4 => Gr w6 W ∧ Rows 4 encS W v4 all)
                case h =>
                  go_region_held3 (fun W => Gr w6 W ∧ W.cell? ⟨w.heap.size, 0, none⟩ = some (.slice (some ⟨bS, oS, none⟩) n0 C0) ∧ W.cell? ⟨w.heap.size, 1, none⟩ = some (.slice A1 n1 C1)) ((refine KEEP3.out _ ?_; (repeat (first | assumption | exact And.left (by assumption) | exact Gr.refl _ | refine Gr.drew ?_ | refine Gr.alloc ?_ _ | refine Gr.setCell ?_ (by first | exact Nat.le_refl _ | omega) _ | refine Gr.trans ?_ (by assumption)))))
                    ((first
                      | (go_at_call 27; refine (CM _ (And.left (by assumption))).mono ?_; rintro e w9 ⟨a1, rfl, Q1, k1⟩)
                      | (go_at_call 22; refine (CP _ (G6.out.trans (And.left (by assumption)))).mono ?_; rintro e w9 ⟨a2, rfl, Q2, k2⟩)
                      | (go_at_call 28; refine (C2' _ (G6.out.trans (And.left (by assumption)))).mono ?_; rintro e w9 ⟨a3, rfl, Q3, k3⟩)
                      | (go_at_call 26; refine (RUN3 _ _ _ _ (by (repeat (first | assumption | refine Rows.gr ?_ (by assumption)))) (by (repeat (first | assumption | refine Rows.gr ?_ (by assumption)))) (by (repeat (first | assumption | refine Rows.gr ?_ (by assumption))))).mono ?_; rintro e w9 ⟨a4, rfl, Q4, k4⟩)))
                  all_goals exact ⟨rfl, a1, a2, a3, a4, rfl, (‹Gr w6 _ ∧ _›).1, Q4⟩
                case k =>
                  intro c1 c2 c3 c4 w7 hF
                  obtain ⟨g7, R7⟩ := hF
                  obtain ⟨A7, C7, rfl⟩ := R7.slice
                  have R5x : Hid (Rows 4 encS w7 (.slice (some ⟨b5, o5, none⟩) n0 C5) all) := R5'.out.gr (G56.out.trans g7)
                  have EQ := fun W (g : Gr w7 W) => (equalS_any _ _ _ _ W (R7.gr g) (R5x.out.gr g) (by rw [AL.out]; omega) (by rw [AL.out]; omega)).mono fun e w' h => (⟨h.1.trans (ret_bool (decide_eq_true rfl)), h.2⟩ : e = .returned (.bool true) ∧ Gr W w')
                  rw [AL.out] at EQ ⊢
                  have y0 := held_keep g7 x0
                  have G7 : Aside (Gr w w7) := G6.out.trans g7
                  have G57 : Aside (Gr w5 w7) := G56.out.trans g7
                  clear x0 x1 g7 R7 CS CP CM C2' RUN3
                  go_wp2_with fail
                  refine (EQ _ (Gr.refl _)).mono ?_
                  rintro e w8 ⟨rfl, g8⟩
                  have x0 := held_keep g8 y0
                  have X0 := Lib.hid x0
                  have G8 : Aside (Gr w w8) := G7.out.trans g8
                  have G58 : Aside (Gr w5 w8) := G57.out.trans g8
                  clear y0 g8 EQ
                  go_wp2_with fail
                  go_loopg [17, 18, 126] n0 (fun gg _ _ s126 wr => ∃ kk : Nat, kk ≤ n0 ∧ n0 - kk ≤ gg ∧ s126 = .int .i64 (kk : Int) ∧ Aside (Gr w8 wr))
                  case atStart => exact ⟨0, Nat.zero_le _, by omega, rfl, Gr.refl _⟩
                  case round =>
                    obtain ⟨kk, hkk, hgg, rfl, G⟩ := hrel
                    clear x0
                    by_cases hlt : kk < n0
                    · have hltz : (kk : Int) < (n0 : Int) := by omega
                      go_wp2_with fail
                      refine (named_all (kk : Int) _ Y _ (RY.out.gr (G8.out.trans G.out)) (by have := E2.out; omega)).mono ?_
                      rintro e w9 ⟨rfl, g9⟩
                      have n9 : w9.cell? ⟨wr.heap.size, 0, none⟩ = some (.int .i64 (kk : Int)) := held_keep g9 (cell_new wr kk _)
                      have G9 : Aside (Gr w8 w9) := (G.out.alloc _).trans g9
                      have x0 := held_keep G9.out X0.out
                      clear g9
                      by_cases hn : (Y.any fun x => decide (x.n = (kk : Int))) = true
                      · rw [hn]
                        go_wp2_with fail
                        go_quiet (fail)
                        go_wp2
                        go_roundg (n0 - (kk + 1))
                        case measure => omega
                        case rel => exact ⟨kk + 1, by omega, by omega, by go_num, G9.out.drewN _⟩
                      · have hn2 : (Y.any fun x => decide (x.n = (kk : Int))) = false := by simpa using hn
                        have hu := U.out kk (fun x hx he => hn (List.any_eq_true.2 ⟨x, hx, decide_eq_true he⟩))
                        rw [hn2]
                        obtain ⟨s, hs⟩ : ∃ s, S[kk]? = some s := ⟨_, List.getElem?_eq_getElem (by rw [E0.out]; exact hlt)⟩
                        rw [hs] at hu
                        clear hn hn2
                        have p0 := held_keep G9.out (held_keep G58.out (AC.out kk s hu 0 _ rfl))
                        have q0 := held_keep G9.out (held_keep G8.out (SC.out kk s hs 0 _ rfl))
                        have p1 := held_keep G9.out (held_keep G58.out (AC.out kk s hu 1 _ rfl))
                        have q1 := held_keep G9.out (held_keep G8.out (SC.out kk s hs 1 _ rfl))
                        have p2 := held_keep G9.out (held_keep G58.out (AC.out kk s hu 2 _ rfl))
                        have q2 := held_keep G9.out (held_keep G8.out (SC.out kk s hs 2 _ rfl))
                        have p3 := held_keep G9.out (held_keep G58.out (AC.out kk s hu 3 _ rfl))
                        have q3 := held_keep G9.out (held_keep G8.out (SC.out kk s hs 3 _ rfl))
                        simp only [Nat.add_zero] at p0 q0
                        clear hu hs
                        go_wp2_with fail
                        go_quiet (fail)
                        go_wp2
                        go_roundg (n0 - (kk + 1))
                        case measure => omega
                        case rel => exact ⟨kk + 1, by omega, by omega, by go_num, G9.out.drewN _⟩
                    · have hltz : ¬ (kk : Int) < (n0 : Int) := by omega
                      go_wp2_with fail
                      go_ret
                      exact ⟨rfl, G8.out.trans G.out⟩
            · by_cases kC : k < C2
              · have kk5 : (k : Int) < (C2 : Int) := by omega
                have kk1 : (k : Int) ≤ (C2 : Int) := by omega
                have kk2 : (0 : Int) ≤ (k : Int) := by omega
                have kk3 : (k : Int) ≤ (n2 : Int) := by omega
                have kk4 : (n2 : Int) ≤ (C2 : Int) := by omega
                have T1 : Hid (Rows 3 encY w (.slice (some aY) k C2) (Y.take k)) := rows_take RY.out hk2
                have T2 : Hid (Rows 3 encY w (.slice (some (aY.add (k * 3))) (n2 - k) (C2 - k)) (Y.drop k)) := rows_drop RY.out hk2
                have C1' := fun W (g : Gr w W) => (cloneCloneY_any _ _ W (T1.out.gr g) (by have := E2.out; first | (rw [List.length_take]; omega) | (rw [List.length_drop]; omega))).mono fun e w' h => rows_cloneY h
                have C2' := fun W (g : Gr w W) => (cloneCloneY_any _ _ W (T2.out.gr g) (by have := E2.out; first | (rw [List.length_take]; omega) | (rw [List.length_drop]; omega))).mono fun e w' h => rows_cloneY h
                go_wp2_with fail
                apply wp_join4 (F := fun W v1 v2 v3 v4 => Gr w5 W ∧ Rows 4 encS W v4 m)
                case h =>
                  go_region_held3 (fun W => Gr w5 W ∧ W.cell? ⟨w.heap.size, 0, none⟩ = some (.slice (some ⟨bS, oS, none⟩) n0 C0) ∧ W.cell? ⟨w.heap.size, 1, none⟩ = some (.slice A1 n1 C1)) ((refine KEEP2.out _ ?_; (repeat (first | assumption | exact And.left (by assumption) | exact Gr.refl _ | refine Gr.drew ?_ | refine Gr.alloc ?_ _ | refine Gr.setCell ?_ (by first | exact Nat.le_refl _ | omega) _ | refine Gr.trans ?_ (by assumption)))))
                    ((first
                      | (go_at_call 27; refine (CS _ (G5.out.trans (And.left (by assumption)))).mono ?_; rintro e w9 ⟨a1, rfl, Q1, k1⟩)
                      | (go_at_call 22; refine (CP _ (G5.out.trans (And.left (by assumption)))).mono ?_; rintro e w9 ⟨a2, rfl, Q2, k2⟩)
                      | (go_at_call 28; refine (C1' _ (G5.out.trans (And.left (by assumption)))).mono ?_; rintro e w9 ⟨a3, rfl, Q3, k3⟩)
                      | (go_at_call 26; refine (RUN2 _ _ _ _ (by (repeat (first | assumption | refine Rows.gr ?_ (by assumption)))) (by (repeat (first | assumption | refine Rows.gr ?_ (by assumption)))) (by (repeat (first | assumption | refine Rows.gr ?_ (by assumption))))).mono ?_; rintro e w9 ⟨a4, rfl, Q4, k4⟩)))
                  all_goals exact ⟨rfl, a1, a2, a3, a4, rfl, (‹Gr w5 _ ∧ _›).1, Q4⟩
                case k =>
                  intro b1 b2 b3 b4 w6 hF
                  obtain ⟨g6, R6⟩ := hF
                  have x0 := held_keep g6 y0
                  have x1 := held_keep g6 y1
                  have KEEP3 : Aside (∀ W, Gr w6 W → (Gr w6 W ∧ W.cell? ⟨w.heap.size, 0, none⟩ = some (.slice (some ⟨bS, oS, none⟩) n0 C0) ∧ W.cell? ⟨w.heap.size, 1, none⟩ = some (.slice A1 n1 C1))) := fun W g => ⟨g, held_keep g x0, held_keep g x1⟩
                  have G6 : Aside (Gr w w6) := G5.out.trans g6
                  have G56 : Aside (Gr w5 w6) := g6
                  have CM := fun W (g : Gr w6 W) => (cloneCloneS_any b4 m W (R6.gr g) (by rw [ML.out, E0.out]; omega)).mono fun e w' h => rows_cloneS h
                  clear y0 y1 g6 RUN RUN2 C1' CY
                  go_wp2_with fail
                  apply wp_join4 (F := fun W v1 v2 v3 v4 => Gr w6 W ∧ Rows 4 encS W v4 all)
                  case h =>
                    go_region_held3 (fun W => Gr w6 W ∧ W.cell? ⟨w.heap.size, 0, none⟩ = some (.slice (some ⟨bS, oS, none⟩) n0 C0) ∧ W.cell? ⟨w.heap.size, 1, none⟩ = some (.slice A1 n1 C1)) ((refine KEEP3.out _ ?_; (repeat (first | assumption | exact And.left (by assumption) | exact Gr.refl _ | refine Gr.drew ?_ | refine Gr.alloc ?_ _ | refine Gr.setCell ?_ (by first | exact Nat.le_refl _ | omega) _ | refine Gr.trans ?_ (by assumption)))))
                      ((first
                        | (go_at_call 27; refine (CM _ (And.left (by assumption))).mono ?_; rintro e w9 ⟨a1, rfl, Q1, k1⟩)
                        | (go_at_call 22; refine (CP _ (G6.out.trans (And.left (by assumption)))).mono ?_; rintro e w9 ⟨a2, rfl, Q2, k2⟩)
                        | (go_at_call 28; refine (C2' _ (G6.out.trans (And.left (by assumption)))).mono ?_; rintro e w9 ⟨a3, rfl, Q3, k3⟩)
                        | (go_at_call 26; refine (RUN3 _ _ _ _ (by (repeat (first | assumption | refine Rows.gr ?_ (by assumption)))) (by (repeat (first | assumption | refine Rows.gr ?_ (by assumption)))) (by (repeat (first | assumption | refine Rows.gr ?_ (by assumption))))).mono ?_; rintro e w9 ⟨a4, rfl, Q4, k4⟩)))
                    all_goals exact ⟨rfl, a1, a2, a3, a4, rfl, (‹Gr w6 _ ∧ _›).1, Q4⟩
                  case k =>
                    intro c1 c2 c3 c4 w7 hF
                    obtain ⟨g7, R7⟩ := hF
                    obtain ⟨A7, C7, rfl⟩ := R7.slice
                    have R5x : Hid (Rows 4 encS w7 (.slice (some ⟨b5, o5, none⟩) n0 C5) all) := R5'.out.gr (G56.out.trans g7)
                    have EQ := fun W (g : Gr w7 W) => (equalS_any _ _ _ _ W (R7.gr g) (R5x.out.gr g) (by rw [AL.out]; omega) (by rw [AL.out]; omega)).mono fun e w' h => (⟨h.1.trans (ret_bool (decide_eq_true rfl)), h.2⟩ : e = .returned (.bool true) ∧ Gr W w')
                    rw [AL.out] at EQ ⊢
                    have y0 := held_keep g7 x0
                    have G7 : Aside (Gr w w7) := G6.out.trans g7
                    have G57 : Aside (Gr w5 w7) := G56.out.trans g7
                    clear x0 x1 g7 R7 CS CP CM C2' RUN3
                    go_wp2_with fail
                    refine (EQ _ (Gr.refl _)).mono ?_
                    rintro e w8 ⟨rfl, g8⟩
                    have x0 := held_keep g8 y0
                    have X0 := Lib.hid x0
                    have G8 : Aside (Gr w w8) := G7.out.trans g8
                    have G58 : Aside (Gr w5 w8) := G57.out.trans g8
                    clear y0 g8 EQ
                    go_wp2_with fail
                    go_loopg [17, 18, 126] n0 (fun gg _ _ s126 wr => ∃ kk : Nat, kk ≤ n0 ∧ n0 - kk ≤ gg ∧ s126 = .int .i64 (kk : Int) ∧ Aside (Gr w8 wr))
                    case atStart => exact ⟨0, Nat.zero_le _, by omega, rfl, Gr.refl _⟩
                    case round =>
                      obtain ⟨kk, hkk, hgg, rfl, G⟩ := hrel
                      clear x0
                      by_cases hlt : kk < n0
                      · have hltz : (kk : Int) < (n0 : Int) := by omega
                        go_wp2_with fail
                        refine (named_all (kk : Int) _ Y _ (RY.out.gr (G8.out.trans G.out)) (by have := E2.out; omega)).mono ?_
                        rintro e w9 ⟨rfl, g9⟩
                        have n9 : w9.cell? ⟨wr.heap.size, 0, none⟩ = some (.int .i64 (kk : Int)) := held_keep g9 (cell_new wr kk _)
                        have G9 : Aside (Gr w8 w9) := (G.out.alloc _).trans g9
                        have x0 := held_keep G9.out X0.out
                        clear g9
                        by_cases hn : (Y.any fun x => decide (x.n = (kk : Int))) = true
                        · rw [hn]
                          go_wp2_with fail
                          go_quiet (fail)
                          go_wp2
                          go_roundg (n0 - (kk + 1))
                          case measure => omega
                          case rel => exact ⟨kk + 1, by omega, by omega, by go_num, G9.out.drewN _⟩
                        · have hn2 : (Y.any fun x => decide (x.n = (kk : Int))) = false := by simpa using hn
                          have hu := U.out kk (fun x hx he => hn (List.any_eq_true.2 ⟨x, hx, decide_eq_true he⟩))
                          rw [hn2]
                          obtain ⟨s, hs⟩ : ∃ s, S[kk]? = some s := ⟨_, List.getElem?_eq_getElem (by rw [E0.out]; exact hlt)⟩
                          rw [hs] at hu
                          clear hn hn2
                          have p0 := held_keep G9.out (held_keep G58.out (AC.out kk s hu 0 _ rfl))
                          have q0 := held_keep G9.out (held_keep G8.out (SC.out kk s hs 0 _ rfl))
                          have p1 := held_keep G9.out (held_keep G58.out (AC.out kk s hu 1 _ rfl))
                          have q1 := held_keep G9.out (held_keep G8.out (SC.out kk s hs 1 _ rfl))
                          have p2 := held_keep G9.out (held_keep G58.out (AC.out kk s hu 2 _ rfl))
                          have q2 := held_keep G9.out (held_keep G8.out (SC.out kk s hs 2 _ rfl))
                          have p3 := held_keep G9.out (held_keep G58.out (AC.out kk s hu 3 _ rfl))
                          have q3 := held_keep G9.out (held_keep G8.out (SC.out kk s hs 3 _ rfl))
                          simp only [Nat.add_zero] at p0 q0
                          clear hu hs
                          go_wp2_with fail
                          go_quiet (fail)
                          go_wp2
                          go_roundg (n0 - (kk + 1))
                          case measure => omega
                          case rel => exact ⟨kk + 1, by omega, by omega, by go_num, G9.out.drewN _⟩
                      · have hltz : ¬ (kk : Int) < (n0 : Int) := by omega
                        go_wp2_with fail
                        go_ret
                        exact ⟨rfl, G8.out.trans G.out⟩
              · have kk5 : ¬ (k : Int) < (C2 : Int) := by omega
                have kk1 : (k : Int) ≤ (C2 : Int) := by omega
                have kk2 : (0 : Int) ≤ (k : Int) := by omega
                have kk3 : (k : Int) ≤ (n2 : Int) := by omega
                have kk4 : (n2 : Int) ≤ (C2 : Int) := by omega
                have T1 : Hid (Rows 3 encY w (.slice (some aY) k C2) (Y.take k)) := rows_take RY.out hk2
                obtain rfl : n2 = k := by omega
                obtain rfl : C2 = n2 := by omega
                have T2 : Hid (Rows 3 encY w (.slice (some aY) 0 0) (Y.drop C2)) := .inl ⟨List.drop_eq_nil_of_le (Nat.le_of_eq E2.out), _, _, rfl, fun h => by cases h⟩
                have C1' := fun W (g : Gr w W) => (cloneCloneY_any _ _ W (T1.out.gr g) (by have := E2.out; first | (rw [List.length_take]; omega) | (rw [List.length_drop]; omega))).mono fun e w' h => rows_cloneY h
                have C2' := fun W (g : Gr w W) => (cloneCloneY_any _ _ W (T2.out.gr g) (by have := E2.out; first | (rw [List.length_take]; omega) | (rw [List.length_drop]; omega))).mono fun e w' h => rows_cloneY h
                go_wp2_with fail
                apply wp_join4 (F := fun W v1 v2 v3 v4 => Gr w5 W ∧ Rows 4 encS W v4 m)
                case h =>
                  go_region_held3 (fun W => Gr w5 W ∧ W.cell? ⟨w.heap.size, 0, none⟩ = some (.slice (some ⟨bS, oS, none⟩) n0 C0) ∧ W.cell? ⟨w.heap.size, 1, none⟩ = some (.slice A1 n1 C1)) ((refine KEEP2.out _ ?_; (repeat (first | assumption | exact And.left (by assumption) | exact Gr.refl _ | refine Gr.drew ?_ | refine Gr.alloc ?_ _ | refine Gr.setCell ?_ (by first | exact Nat.le_refl _ | omega) _ | refine Gr.trans ?_ (by assumption)))))
                    ((first
                      | (go_at_call 27; refine (CS _ (G5.out.trans (And.left (by assumption)))).mono ?_; rintro e w9 ⟨a1, rfl, Q1, k1⟩)
                      | (go_at_call 22; refine (CP _ (G5.out.trans (And.left (by assumption)))).mono ?_; rintro e w9 ⟨a2, rfl, Q2, k2⟩)
                      | (go_at_call 28; refine (C1' _ (G5.out.trans (And.left (by assumption)))).mono ?_; rintro e w9 ⟨a3, rfl, Q3, k3⟩)
                      | (go_at_call 26; refine (RUN2 _ _ _ _ (by (repeat (first | assumption | refine Rows.gr ?_ (by assumption)))) (by (repeat (first | assumption | refine Rows.gr ?_ (by assumption)))) (by (repeat (first | assumption | refine Rows.gr ?_ (by assumption))))).mono ?_; rintro e w9 ⟨a4, rfl, Q4, k4⟩)))
                  all_goals exact ⟨rfl, a1, a2, a3, a4, rfl, (‹Gr w5 _ ∧ _›).1, Q4⟩
                case k =>
                  intro b1 b2 b3 b4 w6 hF
                  obtain ⟨g6, R6⟩ := hF
                  have x0 := held_keep g6 y0
                  have x1 := held_keep g6 y1
                  have KEEP3 : Aside (∀ W, Gr w6 W → (Gr w6 W ∧ W.cell? ⟨w.heap.size, 0, none⟩ = some (.slice (some ⟨bS, oS, none⟩) n0 C0) ∧ W.cell? ⟨w.heap.size, 1, none⟩ = some (.slice A1 n1 C1))) := fun W g => ⟨g, held_keep g x0, held_keep g x1⟩
                  have G6 : Aside (Gr w w6) := G5.out.trans g6
                  have G56 : Aside (Gr w5 w6) := g6
                  have CM := fun W (g : Gr w6 W) => (cloneCloneS_any b4 m W (R6.gr g) (by rw [ML.out, E0.out]; omega)).mono fun e w' h => rows_cloneS h
                  clear y0 y1 g6 RUN RUN2 C1' CY
                  go_wp2_with fail
                  apply wp_join4 (F := fun W v1 v2 v3 v4 => Gr w6 W ∧ Rows 4 encS W v4 all)
                  case h =>
                    go_region_held3 (fun W => Gr w6 W ∧ W.cell? ⟨w.heap.size, 0, none⟩ = some (.slice (some ⟨bS, oS, none⟩) n0 C0) ∧ W.cell? ⟨w.heap.size, 1, none⟩ = some (.slice A1 n1 C1)) ((refine KEEP3.out _ ?_; (repeat (first | assumption | exact And.left (by assumption) | exact Gr.refl _ | refine Gr.drew ?_ | refine Gr.alloc ?_ _ | refine Gr.setCell ?_ (by first | exact Nat.le_refl _ | omega) _ | refine Gr.trans ?_ (by assumption)))))
                      ((first
                        | (go_at_call 27; refine (CM _ (And.left (by assumption))).mono ?_; rintro e w9 ⟨a1, rfl, Q1, k1⟩)
                        | (go_at_call 22; refine (CP _ (G6.out.trans (And.left (by assumption)))).mono ?_; rintro e w9 ⟨a2, rfl, Q2, k2⟩)
                        | (go_at_call 28; refine (C2' _ (G6.out.trans (And.left (by assumption)))).mono ?_; rintro e w9 ⟨a3, rfl, Q3, k3⟩)
                        | (go_at_call 26; refine (RUN3 _ _ _ _ (by (repeat (first | assumption | refine Rows.gr ?_ (by assumption)))) (by (repeat (first | assumption | refine Rows.gr ?_ (by assumption)))) (by (repeat (first | assumption | refine Rows.gr ?_ (by assumption))))).mono ?_; rintro e w9 ⟨a4, rfl, Q4, k4⟩)))
                    all_goals exact ⟨rfl, a1, a2, a3, a4, rfl, (‹Gr w6 _ ∧ _›).1, Q4⟩
                  case k =>
                    intro c1 c2 c3 c4 w7 hF
                    obtain ⟨g7, R7⟩ := hF
                    obtain ⟨A7, C7, rfl⟩ := R7.slice
                    have R5x : Hid (Rows 4 encS w7 (.slice (some ⟨b5, o5, none⟩) n0 C5) all) := R5'.out.gr (G56.out.trans g7)
                    have EQ := fun W (g : Gr w7 W) => (equalS_any _ _ _ _ W (R7.gr g) (R5x.out.gr g) (by rw [AL.out]; omega) (by rw [AL.out]; omega)).mono fun e w' h => (⟨h.1.trans (ret_bool (decide_eq_true rfl)), h.2⟩ : e = .returned (.bool true) ∧ Gr W w')
                    rw [AL.out] at EQ ⊢
                    have y0 := held_keep g7 x0
                    have G7 : Aside (Gr w w7) := G6.out.trans g7
                    have G57 : Aside (Gr w5 w7) := G56.out.trans g7
                    clear x0 x1 g7 R7 CS CP CM C2' RUN3
                    go_wp2_with fail
                    refine (EQ _ (Gr.refl _)).mono ?_
                    rintro e w8 ⟨rfl, g8⟩
                    have x0 := held_keep g8 y0
                    have X0 := Lib.hid x0
                    have G8 : Aside (Gr w w8) := G7.out.trans g8
                    have G58 : Aside (Gr w5 w8) := G57.out.trans g8
                    clear y0 g8 EQ
                    go_wp2_with fail
                    go_loopg [17, 18, 126] n0 (fun gg _ _ s126 wr => ∃ kk : Nat, kk ≤ n0 ∧ n0 - kk ≤ gg ∧ s126 = .int .i64 (kk : Int) ∧ Aside (Gr w8 wr))
                    case atStart => exact ⟨0, Nat.zero_le _, by omega, rfl, Gr.refl _⟩
                    case round =>
                      obtain ⟨kk, hkk, hgg, rfl, G⟩ := hrel
                      clear x0
                      by_cases hlt : kk < n0
                      · have hltz : (kk : Int) < (n0 : Int) := by omega
                        go_wp2_with fail
                        refine (named_all (kk : Int) _ Y _ (RY.out.gr (G8.out.trans G.out)) (by have := E2.out; omega)).mono ?_
                        rintro e w9 ⟨rfl, g9⟩
                        have n9 : w9.cell? ⟨wr.heap.size, 0, none⟩ = some (.int .i64 (kk : Int)) := held_keep g9 (cell_new wr kk _)
                        have G9 : Aside (Gr w8 w9) := (G.out.alloc _).trans g9
                        have x0 := held_keep G9.out X0.out
                        clear g9
                        by_cases hn : (Y.any fun x => decide (x.n = (kk : Int))) = true
                        · rw [hn]
                          go_wp2_with fail
                          go_quiet (fail)
                          go_wp2
                          go_roundg (n0 - (kk + 1))
                          case measure => omega
                          case rel => exact ⟨kk + 1, by omega, by omega, by go_num, G9.out.drewN _⟩
                        · have hn2 : (Y.any fun x => decide (x.n = (kk : Int))) = false := by simpa using hn
                          have hu := U.out kk (fun x hx he => hn (List.any_eq_true.2 ⟨x, hx, decide_eq_true he⟩))
                          rw [hn2]
                          obtain ⟨s, hs⟩ : ∃ s, S[kk]? = some s := ⟨_, List.getElem?_eq_getElem (by rw [E0.out]; exact hlt)⟩
                          rw [hs] at hu
                          clear hn hn2
                          have p0 := held_keep G9.out (held_keep G58.out (AC.out kk s hu 0 _ rfl))
                          have q0 := held_keep G9.out (held_keep G8.out (SC.out kk s hs 0 _ rfl))
                          have p1 := held_keep G9.out (held_keep G58.out (AC.out kk s hu 1 _ rfl))
                          have q1 := held_keep G9.out (held_keep G8.out (SC.out kk s hs 1 _ rfl))
                          have p2 := held_keep G9.out (held_keep G58.out (AC.out kk s hu 2 _ rfl))
                          have q2 := held_keep G9.out (held_keep G8.out (SC.out kk s hs 2 _ rfl))
                          have p3 := held_keep G9.out (held_keep G58.out (AC.out kk s hu 3 _ rfl))
                          have q3 := held_keep G9.out (held_keep G8.out (SC.out kk s hs 3 _ rfl))
                          simp only [Nat.add_zero] at p0 q0
                          clear hu hs
                          go_wp2_with fail
                          go_quiet (fail)
                          go_wp2
                          go_roundg (n0 - (kk + 1))
                          case measure => omega
                          case rel => exact ⟨kk + 1, by omega, by omega, by go_num, G9.out.drewN _⟩
                      · have hltz : ¬ (kk : Int) < (n0 : Int) := by omega
                        go_wp2_with fail
                        go_ret
                        exact ⟨rfl, G8.out.trans G.out⟩
        · obtain ⟨q1, q2, q3⟩ := Ru.one_err he
          generalize Ru.run p S Y = r at he q1 q2 q3 RUN
          have hb : (r.2.2 != 0) = true := by simpa using he
          have q4 : r.2.1 < (n2 : Int) := by rw [E2.out] at q3; exact q3
          go_wp2_with fail
          apply wp_join4 (F := fun W v1 v2 v3 v4 => Gr w1 W ∧ Rows 4 encS W v4 r.1)
          case h =>
            go_region_held3 (fun W => Gr w1 W ∧ W.cell? ⟨w.heap.size, 0, none⟩ = some (.slice A0 n0 C0) ∧ W.cell? ⟨w.heap.size, 1, none⟩ = some (.slice A1 n1 C1)) ((refine KEEP1.out _ ?_; (repeat (first | assumption | exact And.left (by assumption) | exact Gr.refl _ | refine Gr.drew ?_ | refine Gr.alloc ?_ _ | refine Gr.setCell ?_ (by first | exact Nat.le_refl _ | omega) _ | refine Gr.trans ?_ (by assumption)))))
              ((first
                | (go_at_call 27; refine (CS _ (G1.out.trans (And.left (by assumption)))).mono ?_; rintro e w9 ⟨a1, rfl, Q1, k1⟩)
                | (go_at_call 22; refine (CP _ (G1.out.trans (And.left (by assumption)))).mono ?_; rintro e w9 ⟨a2, rfl, Q2, k2⟩)
                | (go_at_call 28; refine (CY _ (G1.out.trans (And.left (by assumption)))).mono ?_; rintro e w9 ⟨a3, rfl, Q3, k3⟩)
                | (go_at_call 26; refine (RUN _ _ _ _ (by (repeat (first | assumption | refine Rows.gr ?_ (by assumption)))) (by (repeat (first | assumption | refine Rows.gr ?_ (by assumption)))) (by (repeat (first | assumption | refine Rows.gr ?_ (by assumption))))).mono ?_; rintro e w9 ⟨a4, rfl, Q4, k4⟩)))
            all_goals exact ⟨rfl, a1, a2, a3, a4, rfl, (‹Gr w1 _ ∧ _›).1, Q4⟩
          case k =>
            intro a1 a2 a3 a4 w5 hF
            obtain ⟨g5, R5⟩ := hF
            obtain ⟨A5, C5, rfl⟩ := R5.slice
            rw [q1]
            have y0 := held_keep g5 x0
            have y1 := held_keep g5 x1
            have G5 : Aside (Gr w w5) := G1.out.trans g5
            have l0 : (([] : List Sy).length : Int) = 0 := rfl
            clear x0 x1 g5 R5
            go_wp2_with fail
            go_ret
            exact ⟨rfl, G5.out⟩
end Go.Proofs.Ytjiaemmhjkhdhaa.timesyncOne
