/- The walk of TimesyncDepths: the Go text returns true. -/
import Derived.Test.YtjiaemmhjkhdhaaTmsAwake
import Derived.Test.YtjiaemmhjkhdhaaDepA
import Derived.Test.YtjiaemmhjkhdhaaOkInt
namespace Go.Proofs.Ytjiaemmhjkhdhaa.timesyncDepths
open Go.RowKit Go.Sort
set_option linter.unusedVariables false

set_option maxHeartbeats 4000000 in
set_option maxRecDepth 100000 in
theorem walk (v0 : Value) (p : List Int) (w : World) (rl : Rows 1 encI w v0 p) (bl : (p.length : Int) ≤ 9223372036854775807) (kl : ∀ A n c, v0 = .slice A n c → n ≤ c ∧ c ≤ 9223372036854775807) (wl : ∀ x ∈ p, okI x) :
    Calls Try.prog 5 #[v0] w fun e w' => e = .returned (.bool true) ∧ Gr w w' := by
  obtain ⟨n, hn⟩ : ∃ n, p.length = n := ⟨_, rfl⟩
  have HN := Lib.hid hn
  have HR := Lib.hid rl
  obtain ⟨A, c, rfl⟩ := rl.slice
  rw [hn] at bl ⊢
  by_cases hbig : 40 < n
  · have z : (40 : Int) < (n : Int) := by omega
    clear hn rl kl wl
    go_enter Try.func5, Try.ntmps5
    go_wp2_with (first | (go_at_call 10; refine (awake_any _).mono ?_; rintro e w' ⟨rfl, hn⟩; (first | have hg' := Gr.trans hg hn | have hg' := Gr.trans (Gr.alloc hg _) hn | have hg' := Gr.trans (Gr.drewN hg _) hn | have hg' := Gr.trans (Gr.alloc (Gr.alloc hg _) _) hn | have hg' := hn); (try clear hr hf hr2 hf2 hz hz2); (try clear hg); have hg := hg'; clear hg'; have hr := hg.rules.1; have hf := hg.rules.2; have hr2 := hn.rules.1; have hf2 := hn.rules.2; have hz := hg.size; (try simp only [World.size_alloc] at hz); have hz2 := hn.size; (try simp only [World.size_alloc] at hz2); (try clear hy1); (try clear hy2); (try clear hy3); (try have hy1 : w.heap.size < w'.heap.size := by omega); (try have hy2 : w.heap.size + 1 < w'.heap.size := by omega); (try have hy3 : w.heap.size + 1 + 1 < w'.heap.size := by omega); clear hn))
    go_ret
    exact ⟨rfl, by repeat (first | (with_reducible exact Gr.refl _) | (with_reducible assumption) | (with_reducible refine Gr.alloc ?_ _) | (with_reducible refine Gr.drewN ?_ _) | (with_reducible refine Gr.drew ?_) | (with_reducible refine Gr.grown ?_ _ _) | (with_reducible refine Gr.regrown ?_ _ _) | (with_reducible refine Gr.setCell ?_ (by first | omega | (simp; omega) | simp) _) | (with_reducible refine Gr.trans ?_ (by with_reducible assumption)))⟩
  · have z : ¬ (40 : Int) < (n : Int) := by omega
    have CL := fun W g => clone_any (.slice A n c) p W (by have := HR.out.gr (w := W) g; rwa [HN.out] at this) (by rw [HN.out]; omega)
    by_cases hD : Dp.okD p
    · obtain ⟨h1, h2⟩ := Dp.d_ok hD
      have n1 : 1 ≤ n := by have := hD.1.1; omega
      have n2 : n ≤ 32 := by have := hD.1.2.1; omega
      have n3 := hD.1.2.2
      rcases rl with ⟨rfl, _⟩ | ⟨b, off, c', hb, hv, hc⟩
      · simp at hn; omega
      · simp only [Value.slice.injEq] at hv
        obtain ⟨rfl, _, rfl⟩ := hv
        have HC := Lib.hid (Rows.int_cell hc)
        have HB := Lib.hid hb
        have c0 : w.cell? ⟨b, off, none⟩ = some (.int .i64 (-1)) := by
          have := Rows.int_cell hc 0 (by omega)
          rw [par_get, n3] at this
          simpa using this
        have C0 := Lib.hid c0
        have kc := (kl _ _ _ rfl).1
        have kc2 := (kl _ _ _ rfl).2
        rw [hn] at kc
        have PAR : Aside (∀ i, i + 1 < n → ∃ a, a < n ∧ Dp.par p (i + 1) = (a : Int) ∧ Dp.dN p (i + 1) = Dp.dN p a + 1) := fun i hi => by
          obtain ⟨q1, q2, q3⟩ := Dp.d_parent hD (i := i) (by omega)
          exact ⟨(Dp.par p (i + 1)).toNat, by omega, by omega, q3⟩
        have DB : Aside (∀ i, i < n → 0 ≤ Dp.dN p i ∧ Dp.dN p i ≤ 32) := fun i hi => by
          obtain ⟨d, hd⟩ := Option.isSome_iff_exists.1 (hD.2 i (by omega))
          have := Dp.dep_lt (by omega) hd
          rw [Dp.dN_some hd]
          omega
        have D0 : Hid (Dp.dN p 0 = 0) := Dp.d_zero hD
        have H1 := Lib.hid h1
        have H2 := Lib.hid h2
        clear hD hc hb c0 kl wl h1 h2 n3
        go_enter Try.func5, Try.ntmps5
        go_wp2_with (first | (go_at_call 10; refine (awake_any _).mono ?_; rintro e w' ⟨rfl, hn⟩; (first | have hg' := Gr.trans hg hn | have hg' := Gr.trans (Gr.alloc hg _) hn | have hg' := Gr.trans (Gr.drewN hg _) hn | have hg' := Gr.trans (Gr.alloc (Gr.alloc hg _) _) hn | have hg' := hn); (try clear hr hf hr2 hf2 hz hz2); (try clear hg); have hg := hg'; clear hg'; have hr := hg.rules.1; have hf := hg.rules.2; have hr2 := hn.rules.1; have hf2 := hn.rules.2; have hz := hg.size; (try simp only [World.size_alloc] at hz); have hz2 := hn.size; (try simp only [World.size_alloc] at hz2); (try clear hy1); (try clear hy2); (try clear hy3); (try have hy1 : w.heap.size < w'.heap.size := by omega); (try have hy2 : w.heap.size + 1 < w'.heap.size := by omega); (try have hy3 : w.heap.size + 1 + 1 < w'.heap.size := by omega); clear hn))
        refine (CL _ hg).mono ?_
        rintro e w2 ⟨v2, rfl, R2, g2⟩
        have G2 : Aside (Gr w w2) := hg.trans g2
        clear hr hf hr2 hf2 hg CL
        go_wp2_with fail
        refine (depths_any v2 p _ R2 (by rw [HN.out]; omega)).mono ?_
        rintro e w3 ⟨v3, rfl, R3, g3⟩
        rw [H1.out]
        rw [H2.out, HN.out] at R3
        have G3 : Aside (Gr w w3) := G2.out.trans g3
        rcases R3 with ⟨hL, _⟩ | ⟨b2, o2, c2, hb2, rfl, hc2⟩
        · have := congrArg List.length hL
          simp at this; omega
        · have CC : Aside (∀ j, j < n → w3.cell? ⟨b2, o2 + j, none⟩ = some (.int .i64 (Dp.dN p j))) := fun j hj => by
            have := Rows.int_cell hc2 j (by simpa using hj)
            simpa using this
          have d0 : w3.cell? ⟨b2, o2, none⟩ = some (.int .i64 0) := by
            have := CC.out 0 (by omega)
            rw [D0.out] at this
            simpa using this
          have e0 := (G3.out.cell (p := ⟨b, off, none⟩) HB.out).trans C0.out
          have zn : (1 : Int) ≤ (n : Int) := by omega
          have zc : (n : Int) ≤ (c : Int) := by omega
          have zc1 : (1 : Int) ≤ (c : Int) := by omega
          clear hc2 g2 g3 R2
          rw [show (List.map (Dp.dN p) (List.range n)).length = n by simp]
          have HB2 := Lib.hid hb2
          obtain ⟨m, rfl⟩ : ∃ m, n = m + 1 := ⟨n - 1, by omega⟩
          clear hn bl z kc kc2 zn
          by_cases hc1 : c = 1
          · obtain rfl : m = 0 := by omega
            subst hc1
            go_wp2_with fail
            go_loopg [2, 5, 6, 47] 0 (fun _ _ _ _ s47 wr => s47 = .int .i64 0 ∧ Aside (Gr w wr))
            case atStart => exact ⟨rfl, G3.out⟩
            case round =>
              obtain ⟨rfl, G⟩ := hrel
              go_wp2_with fail
              go_ret
              exact ⟨rfl, G.out⟩
          · go_wp2_with fail
            go_loopg [2, 5, 6, 47] m (fun gg _ _ _ s47 wr => ∃ kk : Nat, kk ≤ m ∧ m - kk ≤ gg ∧ s47 = .int .i64 (kk : Int) ∧ Aside (Gr w3 wr))
            case atStart => exact ⟨0, Nat.zero_le _, by omega, rfl, Gr.refl _⟩
            case round =>
              obtain ⟨kk, hkk, hgg, rfl, G⟩ := hrel
              by_cases hlt : kk < m
              · have hltz : (kk : Int) < (m : Int) := by omega
                obtain ⟨a, ha, hpa, hda⟩ := PAR.out kk (by omega)
                have HC2 : ∀ (kk a : Nat), kk < m → Dp.par p (kk + 1) = (a : Int) → w.cell? ⟨b, off + 1 + kk, none⟩ = some (.int .i64 (a : Int)) := fun kk a h1 h2 => by
                  have h9 := HN.out
                  have h8 := HC.out (kk + 1) (by omega)
                  rw [par_get, h2] at h8
                  rwa [show off + 1 + kk = off + (kk + 1) by omega]
                have cp := ((G3.out.trans G.out).cell (p := ⟨b, off + 1 + kk, none⟩) HB.out).trans (HC2 kk a hlt hpa)
                obtain ⟨b0, b1⟩ := DB.out a ha
                have c1 := (G.out.cell (p := ⟨b2, o2 + (kk + 1), none⟩) HB2.out).trans (CC.out (kk + 1) (by omega))
                have c2' := (G.out.cell (p := ⟨b2, o2 + a, none⟩) HB2.out).trans (CC.out a ha)
                rw [hda] at c1
                generalize Dp.dN p a = D at *
                clear hpa hda d0 e0 HC2
                have q1 : decide (((m : Int) + 1) ≤ (a : Int)) = false := by simp; omega
                have q2 : ¬ ((m : Int) + 1) ≤ (a : Int) := by omega
                have q3 : (kk : Int) + 1 < (m : Int) + 1 := by omega
                have q4 : (0 : Int) ≤ (kk : Int) + 1 := by omega
                have q5 : ((kk : Int) + 1).toNat = kk + 1 := by omega
                have q6 : IntKind.i64.wrap ((kk : Int) + 1) = (kk : Int) + 1 := IntWalk.i64_in _ (by omega)
                have q7 : IntKind.i64.wrap (D + 1) = D + 1 := IntWalk.i64_in _ (by omega)
                have q8 : (a : Int) < (m : Int) + 1 := by omega
                go_wp2_with fail
                go_quiet (fail)
                clear q5 q6 q7
                go_wp2_with fail
                go_roundg (m - (kk + 1))
                case measure => omega
                case rel => exact ⟨kk + 1, by omega, by omega, by go_num, G.out.drewN _⟩
              · have hltz : ¬ (kk : Int) < (m : Int) := by omega
                go_wp2_with fail
                go_ret
                exact ⟨rfl, G3.out.trans G.out⟩
    · obtain ⟨h1, h2⟩ := Dp.d_no hD
      have H1 := Lib.hid h1
      have H2 := Lib.hid h2
      clear h1 h2 wl
      by_cases n1 : n < 1
      · have z1 : (n : Int) < 1 := by omega
        clear rl kl hn
        go_enter Try.func5, Try.ntmps5
        go_wp2_with (first | (go_at_call 10; refine (awake_any _).mono ?_; rintro e w' ⟨rfl, hn⟩; (first | have hg' := Gr.trans hg hn | have hg' := Gr.trans (Gr.alloc hg _) hn | have hg' := Gr.trans (Gr.drewN hg _) hn | have hg' := Gr.trans (Gr.alloc (Gr.alloc hg _) _) hn | have hg' := hn); (try clear hr hf hr2 hf2 hz hz2); (try clear hg); have hg := hg'; clear hg'; have hr := hg.rules.1; have hf := hg.rules.2; have hr2 := hn.rules.1; have hf2 := hn.rules.2; have hz := hg.size; (try simp only [World.size_alloc] at hz); have hz2 := hn.size; (try simp only [World.size_alloc] at hz2); (try clear hy1); (try clear hy2); (try clear hy3); (try have hy1 : w.heap.size < w'.heap.size := by omega); (try have hy2 : w.heap.size + 1 < w'.heap.size := by omega); (try have hy3 : w.heap.size + 1 + 1 < w'.heap.size := by omega); clear hn))
        refine (CL _ hg).mono ?_
        rintro e w2 ⟨v2, rfl, R2, g2⟩
        have G2 : Aside (Gr w w2) := hg.trans g2
        clear hr hf hr2 hf2 hg CL
        go_wp2_with fail
        refine (depths_any v2 p _ R2 (by rw [HN.out]; omega)).mono ?_
        rintro e w3 ⟨v3, rfl, R3, g3⟩
        rw [H1.out]
        rw [H2.out] at R3
        have G3 : Aside (Gr w w3) := G2.out.trans g3
        obtain ⟨A3, C3, rfl⟩ := R3.slice
        rw [show ([] : List Int).length = 0 from rfl]
        clear g2 g3 R2 R3
        go_wp2_with fail
        go_ret
        exact ⟨rfl, G3.out⟩
      · have z1 : ¬ (n : Int) < 1 := by omega
        by_cases n2 : 32 < n
        · have z2 : (32 : Int) < (n : Int) := by omega
          clear rl kl hn
          go_enter Try.func5, Try.ntmps5
          go_wp2_with (first | (go_at_call 10; refine (awake_any _).mono ?_; rintro e w' ⟨rfl, hn⟩; (first | have hg' := Gr.trans hg hn | have hg' := Gr.trans (Gr.alloc hg _) hn | have hg' := Gr.trans (Gr.drewN hg _) hn | have hg' := Gr.trans (Gr.alloc (Gr.alloc hg _) _) hn | have hg' := hn); (try clear hr hf hr2 hf2 hz hz2); (try clear hg); have hg := hg'; clear hg'; have hr := hg.rules.1; have hf := hg.rules.2; have hr2 := hn.rules.1; have hf2 := hn.rules.2; have hz := hg.size; (try simp only [World.size_alloc] at hz); have hz2 := hn.size; (try simp only [World.size_alloc] at hz2); (try clear hy1); (try clear hy2); (try clear hy3); (try have hy1 : w.heap.size < w'.heap.size := by omega); (try have hy2 : w.heap.size + 1 < w'.heap.size := by omega); (try have hy3 : w.heap.size + 1 + 1 < w'.heap.size := by omega); clear hn))
          refine (CL _ hg).mono ?_
          rintro e w2 ⟨v2, rfl, R2, g2⟩
          have G2 : Aside (Gr w w2) := hg.trans g2
          clear hr hf hr2 hf2 hg CL
          go_wp2_with fail
          refine (depths_any v2 p _ R2 (by rw [HN.out]; omega)).mono ?_
          rintro e w3 ⟨v3, rfl, R3, g3⟩
          rw [H1.out]
          rw [H2.out] at R3
          have G3 : Aside (Gr w w3) := G2.out.trans g3
          obtain ⟨A3, C3, rfl⟩ := R3.slice
          rw [show ([] : List Int).length = 0 from rfl]
          clear g2 g3 R2 R3
          go_wp2_with fail
          go_ret
          exact ⟨rfl, G3.out⟩
        · have z2 : ¬ (32 : Int) < (n : Int) := by omega
          rcases rl with ⟨rfl, _⟩ | ⟨b, off, c', hb, hv, hc⟩
          · simp at hn; omega
          · simp only [Value.slice.injEq] at hv
            obtain ⟨rfl, _, rfl⟩ := hv
            have HC := Lib.hid (Rows.int_cell hc)
            have HB := Lib.hid hb
            have c0 := Rows.int_cell hc 0 (by omega)
            rw [par_get, Nat.add_zero] at c0
            have z3 : (0 : Int) < (n : Int) := by omega
            by_cases n3 : Dp.par p 0 = -1
            · have kc := (kl _ _ _ rfl).1
              have kc2 := (kl _ _ _ rfl).2
              rw [hn] at kc
              have zc : (n : Int) ≤ (c : Int) := by omega
              have zc1 : (1 : Int) ≤ (c : Int) := by omega
              rw [n3] at c0
              have C0 := Lib.hid c0
              have HOK : Aside (¬ ∀ i, i + 1 < n → 0 ≤ Dp.par p (i + 1) ∧ Dp.par p (i + 1) ≤ (i : Int)) := fun h => hD (Dp.d_less ⟨by omega, by omega, n3⟩ (fun i hi => h i (by omega)))
              obtain ⟨m, rfl⟩ : ∃ m, n = m + 1 := ⟨n - 1, by omega⟩
              clear hn n3 kc kc2 bl c0 hc hb kl hD
              by_cases hc1 : c = 1
              · obtain rfl : m = 0 := by omega
                exact absurd (fun i hi => absurd hi (by omega)) HOK.out
              · go_enter Try.func5, Try.ntmps5
                go_wp2_with (first | (go_at_call 10; refine (awake_any _).mono ?_; rintro e w' ⟨rfl, hn⟩; (first | have hg' := Gr.trans hg hn | have hg' := Gr.trans (Gr.alloc hg _) hn | have hg' := Gr.trans (Gr.drewN hg _) hn | have hg' := Gr.trans (Gr.alloc (Gr.alloc hg _) _) hn | have hg' := hn); (try clear hr hf hr2 hf2 hz hz2); (try clear hg); have hg := hg'; clear hg'; have hr := hg.rules.1; have hf := hg.rules.2; have hr2 := hn.rules.1; have hf2 := hn.rules.2; have hz := hg.size; (try simp only [World.size_alloc] at hz); have hz2 := hn.size; (try simp only [World.size_alloc] at hz2); (try clear hy1); (try clear hy2); (try clear hy3); (try have hy1 : w.heap.size < w'.heap.size := by omega); (try have hy2 : w.heap.size + 1 < w'.heap.size := by omega); (try have hy3 : w.heap.size + 1 + 1 < w'.heap.size := by omega); clear hn))
                refine (CL _ hg).mono ?_
                rintro e w2 ⟨v2, rfl, R2, g2⟩
                have G2 : Aside (Gr w w2) := hg.trans g2
                clear hr hf hr2 hf2 hg CL
                go_wp2_with fail
                refine (depths_any v2 p _ R2 (by rw [HN.out]; omega)).mono ?_
                rintro e w3 ⟨v3, rfl, R3, g3⟩
                rw [H1.out]
                rw [H2.out] at R3
                have G3 : Aside (Gr w w3) := G2.out.trans g3
                obtain ⟨A3, C3, rfl⟩ := R3.slice
                rw [show ([] : List Int).length = 0 from rfl]
                clear g2 g3 R2 R3
                have c0 := (G3.out.cell (p := ⟨b, off, none⟩) HB.out).trans C0.out
                go_wp2_with fail
                clear c0
                go_loopg [2, 7, 8, 98] m (fun gg _ _ _ s98 wr => ∃ kk : Nat, kk ≤ m ∧ m - kk ≤ gg ∧ s98 = .int .i64 (kk : Int) ∧ wr = w3 ∧ Aside (∀ j, j < kk → 0 ≤ Dp.par p (j + 1) ∧ Dp.par p (j + 1) ≤ (j : Int)))
                case atStart => exact ⟨0, Nat.zero_le _, by omega, rfl, rfl, fun j hj => absurd hj (Nat.not_lt_zero _)⟩
                case round =>
                  obtain ⟨kk, hkk, hgg, rfl, rfl, AL⟩ := hrel
                  by_cases hlt : kk < m
                  · have hltz : (kk : Int) < (m : Int) := by omega
                    have HC2 : w.cell? ⟨b, off + 1 + kk, none⟩ = some (.int .i64 (Dp.par p (kk + 1))) := by
                      have h9 := HN.out
                      have h8 := HC.out (kk + 1) (by omega)
                      rw [par_get] at h8
                      rwa [show off + 1 + kk = off + (kk + 1) by omega]
                    have cp := (G3.out.cell (p := ⟨b, off + 1 + kk, none⟩) HB.out).trans HC2
                    clear HC2
                    by_cases b1 : Dp.par p (kk + 1) < 0
                    · go_wp2_with fail
                      go_ret
                      exact ⟨rfl, G3.out⟩
                    · by_cases b2 : (kk : Int) < Dp.par p (kk + 1)
                      · go_wp2_with fail
                        go_ret
                        exact ⟨rfl, G3.out⟩
                      · have PB : Hid (0 ≤ Dp.par p (kk + 1) ∧ Dp.par p (kk + 1) ≤ (kk : Int)) := ⟨by omega, by omega⟩
                        go_wp2_with fail
                        go_roundg (m - (kk + 1))
                        case measure => omega
                        case rel => exact ⟨kk + 1, by omega, by omega, by go_num, rfl, (show ∀ j, j < kk + 1 → 0 ≤ Dp.par p (j + 1) ∧ Dp.par p (j + 1) ≤ (j : Int) from fun j hj => by
                          by_cases e : j = kk
                          · subst e; exact PB.out
                          · exact AL.out j (by omega))⟩
                  · exact absurd (fun i hi => AL.out i (by omega)) HOK.out
            · have q : (Dp.par p 0 != -1) = true := by rw [bne_iff_ne]; exact n3
              clear n3 hn hc
              have C0 := Lib.hid c0
              clear c0
              go_enter Try.func5, Try.ntmps5
              go_wp2_with (first | (go_at_call 10; refine (awake_any _).mono ?_; rintro e w' ⟨rfl, hn⟩; (first | have hg' := Gr.trans hg hn | have hg' := Gr.trans (Gr.alloc hg _) hn | have hg' := Gr.trans (Gr.drewN hg _) hn | have hg' := Gr.trans (Gr.alloc (Gr.alloc hg _) _) hn | have hg' := hn); (try clear hr hf hr2 hf2 hz hz2); (try clear hg); have hg := hg'; clear hg'; have hr := hg.rules.1; have hf := hg.rules.2; have hr2 := hn.rules.1; have hf2 := hn.rules.2; have hz := hg.size; (try simp only [World.size_alloc] at hz); have hz2 := hn.size; (try simp only [World.size_alloc] at hz2); (try clear hy1); (try clear hy2); (try clear hy3); (try have hy1 : w.heap.size < w'.heap.size := by omega); (try have hy2 : w.heap.size + 1 < w'.heap.size := by omega); (try have hy3 : w.heap.size + 1 + 1 < w'.heap.size := by omega); clear hn))
              refine (CL _ hg).mono ?_
              rintro e w2 ⟨v2, rfl, R2, g2⟩
              have G2 : Aside (Gr w w2) := hg.trans g2
              clear hr hf hr2 hf2 hg CL
              go_wp2_with fail
              refine (depths_any v2 p _ R2 (by rw [HN.out]; omega)).mono ?_
              rintro e w3 ⟨v3, rfl, R3, g3⟩
              rw [H1.out]
              rw [H2.out] at R3
              have G3 : Aside (Gr w w3) := G2.out.trans g3
              obtain ⟨A3, C3, rfl⟩ := R3.slice
              rw [show ([] : List Int).length = 0 from rfl]
              clear g2 g3 R2 R3
              have c0 := (G3.out.cell (p := ⟨b, off, none⟩) HB.out).trans C0.out
              go_wp2_with fail
              go_ret
              exact ⟨rfl, G3.out⟩
end Go.Proofs.Ytjiaemmhjkhdhaa.timesyncDepths
