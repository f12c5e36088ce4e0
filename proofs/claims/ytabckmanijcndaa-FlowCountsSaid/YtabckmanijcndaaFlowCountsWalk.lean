/- The walk of FlowCounts: the Go text returns true. -/
import Derived.Test.YtabckmanijcndaaFlwAwake
import Derived.Test.YtabckmanijcndaaR32E
import Derived.Test.YtabckmanijcndaaFlwOk
import Derived.Test.YtabckmanijcndaaFlwG
namespace Go.Proofs.Ytabckmanijcndaa.flowCounts
open Go.RowKit Go.Sort
set_option linter.unusedVariables false

set_option maxHeartbeats 4000000 in
set_option maxRecDepth 100000 in
theorem walk (v0 : Value) (l : List Fl) (m : Int) (wm : (Lit.int .u16 m).wf = true) (w : World) (rl : Rows 6 encF w v0 l) (bl : (l.length : Int) ≤ 9223372036854775807) (kl : ∀ A n c, v0 = .slice A n c → n ≤ c ∧ c ≤ 9223372036854775807) (wl : ∀ x ∈ l, okF x) :
    Calls Try.prog 7 #[v0, .int .u16 m] w fun e w' => e = .returned (.bool true) ∧ Gr w w' := by
  have wm1 := bounds_u16 wm
  obtain ⟨m0, m1⟩ := wm1
  have HW : Aside (∀ x ∈ l, okF x) := wl
  clear wl kl
  by_cases hn : 16 < l.length
  · obtain ⟨A, c, rfl⟩ := rl.slice
    clear rl
    have hz2 : (16 : Int) < (l.length : Int) := by omega
    go_enter Try.func7, Try.ntmps7
    go_wp2_with (first | (go_at_call 10; refine (awake_any _).mono ?_; rintro e w' ⟨rfl, hn⟩; (first | have hg' := Gr.trans hg hn | have hg' := Gr.trans (Gr.alloc hg _) hn | have hg' := Gr.trans (Gr.drewN hg _) hn | have hg' := Gr.trans (Gr.alloc (Gr.alloc hg _) _) hn | have hg' := hn); (try clear hr hf hr2 hf2 hz hz2); (try clear hg); have hg := hg'; clear hg'; have hr := hg.rules.1; have hf := hg.rules.2; have hr2 := hn.rules.1; have hf2 := hn.rules.2; have hz := hg.size; (try simp only [World.size_alloc] at hz); have hz2 := hn.size; (try simp only [World.size_alloc] at hz2); (try clear hy1); (try clear hy2); (try clear hy3); (try have hy1 : w.heap.size < w'.heap.size := by omega); (try have hy2 : w.heap.size + 1 < w'.heap.size := by omega); (try have hy3 : w.heap.size + 1 + 1 < w'.heap.size := by omega); clear hn))
    all_goals
      go_ret
      exact ⟨by first | rfl | simp, by repeat (first | (with_reducible exact Gr.refl _) | (with_reducible assumption) | (with_reducible refine Gr.alloc ?_ _) | (with_reducible refine Gr.drewN ?_ _) | (with_reducible refine Gr.drew ?_) | (with_reducible refine Gr.grown ?_ _ _) | (with_reducible refine Gr.regrown ?_ _ _) | (with_reducible refine Gr.setCell ?_ (by first | omega | (simp; omega) | simp) _) | (with_reducible refine Gr.trans ?_ (by with_reducible assumption)))⟩
  · have hz2 : ¬ (16 : Int) < (l.length : Int) := by omega
    obtain ⟨A, c, hv⟩ := rl.slice
    subst hv
    have hH : ∀ W, Gr w W → Calls Try.prog 16 #[.slice A l.length c] W fun e w' => e = .returned (.tuple #[.int .i64 (Fw.hN l.length (at_ l)), .int .i64 (Fw.hE l.length (at_ l))]) ∧ Gr W w' := fun W g => hyper_rows (.slice A l.length c) l W (rl.gr g) (by omega)
    have HX : Aside (∀ b off, A = some ⟨b, off, none⟩ → (∀ i x, l[i]? = some x → ∀ j u, (encF x)[j]? = some u → w.cell? ⟨b, off + i * 6 + j, none⟩ = some u) → RowFl w b off l.length (at_ l)) := fun b off _ h => rows_fl h
    have RL : Aside ((l.length = 0) ∨ (∃ b off, A = some ⟨b, off, none⟩ ∧ b < w.heap.size ∧ RowFl w b off l.length (at_ l))) := by
      rcases rl with ⟨rfl, A', c', hv, _⟩ | ⟨b, off, c', hb, hv, hc⟩
      · exact .inl rfl
      · simp only [Value.slice.injEq] at hv
        exact .inr ⟨b, off, hv.1, hb, rows_fl hc⟩
    clear rl HX HW
    generalize at_ l = zs at *
    generalize l.length = n at *
    clear l
    by_cases he : Fw.hE n zs = 0
    · obtain ⟨c0, e7, e6⟩ := Fw.h_ok he
      obtain ⟨mm, bad⟩ := Fw.cE_inv c0
      obtain ⟨_, okp⟩ := Fw.cE_ok c0
      have hdv := (hyp_dvd zs (hyp zs n) n).1 (Nat.dvd_refl _)
      have hpos := hyp_pos okp n (Nat.le_refl _)
      generalize hyp zs n = K at *
      have FACT : Aside (∀ j, j < n → Fw.chk 32 (zs j) = 0 ∧ (K : Int) % (zs j).pe = 0) := fun j hj => by
        have hbj := bad j hj
        have hpj := okp j hj
        refine ⟨?_, ?_⟩
        · unfold Fw.badE at hbj
          split at hbj
          · assumption
          · exact hbj
        · obtain ⟨P, hP⟩ : ∃ P : Nat, (zs j).pe = (P : Int) := ⟨(zs j).pe.toNat, by omega⟩
          have h1 := hdv j hj
          rw [hP] at h1 ⊢
          have h2 := Nat.mod_eq_zero_of_dvd h1
          have : K % P = 0 := h2
          exact_mod_cast this
      have z3 : (1 : Int) ≤ (K : Int) := by omega
      have z4 : (K : Int) ≤ 512 := by omega
      rcases RL.out with h0 | ⟨b, off, rfl, hb, hrow⟩
      · subst h0
        clear bad okp hdv mm c0 bl hn RL FACT
        go_enter Try.func7, Try.ntmps7
        go_wp2_with (first | (go_at_call 10; refine (awake_any _).mono ?_; rintro e w' ⟨rfl, hn⟩; (first | have hg' := Gr.trans hg hn | have hg' := Gr.trans (Gr.alloc hg _) hn | have hg' := Gr.trans (Gr.drewN hg _) hn | have hg' := Gr.trans (Gr.alloc (Gr.alloc hg _) _) hn | have hg' := hn); (try clear hr hf hr2 hf2 hz hz2); (try clear hg); have hg := hg'; clear hg'; have hr := hg.rules.1; have hf := hg.rules.2; have hr2 := hn.rules.1; have hf2 := hn.rules.2; have hz := hg.size; (try simp only [World.size_alloc] at hz); have hz2 := hn.size; (try simp only [World.size_alloc] at hz2); (try clear hy1); (try clear hy2); (try clear hy3); (try have hy1 : w.heap.size < w'.heap.size := by omega); (try have hy2 : w.heap.size + 1 < w'.heap.size := by omega); (try have hy3 : w.heap.size + 1 + 1 < w'.heap.size := by omega); clear hn))
        refine (hH _ hg).mono ?_
        rintro e w2 ⟨rfl, g2⟩
        have G2 : Aside (Gr w w2) := hg.trans g2
        clear hr hf hr2 hf2 hg
        go_wp2_with fail
        go_loopg [4, 8, 9, 10, 11, 13, 14, 15, 16, 47] 0 (fun gg _ _ _ _ _ _ _ _ _ s47 wr => s47 = .int .i64 0 ∧ Aside (Gr w wr))
        case atStart => exact ⟨rfl, G2.out⟩
        case round =>
          obtain ⟨rfl, G⟩ := hrel
          go_wp2_with fail
          go_ret
          exact ⟨rfl, G.out⟩
      · have HR := Lib.hid hrow
        have HB := Lib.hid hb
        clear bad okp hdv mm c0 hrow RL
        go_enter Try.func7, Try.ntmps7
        go_wp2_with (first | (go_at_call 10; refine (awake_any _).mono ?_; rintro e w' ⟨rfl, hn⟩; (first | have hg' := Gr.trans hg hn | have hg' := Gr.trans (Gr.alloc hg _) hn | have hg' := Gr.trans (Gr.drewN hg _) hn | have hg' := Gr.trans (Gr.alloc (Gr.alloc hg _) _) hn | have hg' := hn); (try clear hr hf hr2 hf2 hz hz2); (try clear hg); have hg := hg'; clear hg'; have hr := hg.rules.1; have hf := hg.rules.2; have hr2 := hn.rules.1; have hf2 := hn.rules.2; have hz := hg.size; (try simp only [World.size_alloc] at hz); have hz2 := hn.size; (try simp only [World.size_alloc] at hz2); (try clear hy1); (try clear hy2); (try clear hy3); (try have hy1 : w.heap.size < w'.heap.size := by omega); (try have hy2 : w.heap.size + 1 < w'.heap.size := by omega); (try have hy3 : w.heap.size + 1 + 1 < w'.heap.size := by omega); clear hn))
        refine (hH _ hg).mono ?_
        rintro e w2 ⟨rfl, g2⟩
        have G2 : Aside (Gr w w2) := hg.trans g2
        clear hr hf hr2 hf2 hg hH
        go_wp2_with fail
        go_loopg [4, 8, 9, 10, 11, 13, 14, 15, 16, 47] n (fun gg _ _ _ _ _ _ _ _ _ s47 wr => ∃ kk : Nat, kk ≤ n ∧ n - kk ≤ gg ∧ s47 = .int .i64 (kk : Int) ∧ Aside (Gr w wr))
        case atStart => exact ⟨0, Nat.zero_le _, by omega, rfl, G2.out⟩
        case round =>
          obtain ⟨kk, hkk, hgg, rfl, G⟩ := hrel
          obtain ⟨wo, rfl⟩ : ∃ wo : World, wo = wr := ⟨_, rfl⟩
          by_cases hlt : kk < n
          · have hltz : (kk : Int) < (n : Int) := by omega
            obtain ⟨l0, l1, l2, l3, l4, l5⟩ := (HR.out.gr HB.out G.out) kk hlt
            obtain ⟨f1, f2⟩ := FACT.out kk hlt
            generalize zs kk = f at l0 l1 l2 l3 l4 l5 f1 f2
            obtain ⟨hok, -⟩ := Fw.chk_inv f1
            obtain ⟨-, p1, p2, p3, p4, p5, p6⟩ := hok
            have a1 := Fw.ahd_shift (f := f) (s := f.ph + m) (K := (K : Int)) p1 (by omega) (by omega) f2
            have k0 : 0 ≤ (K : Int) / f.pe := Int.ediv_nonneg (by omega) (by omega)
            have k1 : (K : Int) / f.pe ≤ (K : Int) := Int.ediv_le_self _ (by omega)
            have rg : Fw.rngOk (f.ph + m) (f.ph + m + K) := ⟨by omega, by omega, by omega⟩
            obtain ⟨b1, b2⟩ := Fw.fr_ok f1 rg (by omega)
            have b3 := Fw.fr_list f1 rg (by omega)
            have b4 : ((Fw.frL f (f.ph + m) (f.ph + m + K)).length : Int) = (K : Int) / f.pe := by rw [Fw.frL_len, b2]; omega
            obtain ⟨q, hq⟩ : ∃ q : Nat, (K : Int) / f.pe = (q : Int) := ⟨((K : Int) / f.pe).toNat, by omega⟩
            have b5 : (Fw.frL f (f.ph + m) (f.ph + m + K)).length = q := by omega
            have INN : Aside (∀ j : Nat, j < q → ∃ x, (Fw.frL f (f.ph + m) (f.ph + m + K))[j]? = some x ∧ Fw.relE f x = 0 ∧ f.ph + m ≤ Fw.relN f x ∧ Fw.relN f x < f.ph + m + K) := fun j hj => by
              have hx0 := Fw.ahd_0 (f := f) (s := f.ph + m) p1
              refine ⟨Fw.ahd f (f.ph + m) + (j : Int), ?_, ?_⟩
              · rw [b3, List.getElem?_map, List.getElem?_range (by omega)]; rfl
              · have i1 := (Fw.ahd_iff (f := f) (s := f.ph + m + K) (n := Fw.ahd f (f.ph + m) + (j : Int)) p1 p3 (by omega)).2 (by omega)
                have i2 : ¬ (f.ph + (Fw.ahd f (f.ph + m) + (j : Int)) * f.pe < f.ph + m) := fun h => by
                  have := (Fw.ahd_iff (f := f) (s := f.ph + m) (n := Fw.ahd f (f.ph + m) + (j : Int)) p1 p3 (by omega)).1 h
                  omega
                have i3 : (Fw.ahd f (f.ph + m) + (j : Int)) * 1 ≤ (Fw.ahd f (f.ph + m) + (j : Int)) * f.pe := Int.mul_le_mul_of_nonneg_left p1 (by omega)
                have ro : Fw.relOk f (Fw.ahd f (f.ph + m) + (j : Int)) := ⟨f1, by omega, by omega, by omega⟩
                have hN : Fw.relN f (Fw.ahd f (f.ph + m) + (j : Int)) = f.ph + (Fw.ahd f (f.ph + m) + (j : Int)) * f.pe := if_pos ro
                refine ⟨by unfold Fw.relE; rw [if_pos f1, if_pos ro], ?_, ?_⟩
                · rw [hN]; omega
                · rw [hN]; omega
            have FRA := fun W => frames_any f (f.ph + m) (f.ph + m + K) W
            rw [b1] at FRA
            generalize Fw.frL f (f.ph + m) (f.ph + m + K) = LL at *
            have z1 : ((K : Int) % f.pe != 0) = false := by rw [f2]; rfl
            have B5 := Lib.hid b5
            have q1 : 1 ≤ q := by
              have h1 := Int.mul_ediv_add_emod (K : Int) f.pe
              rw [f2, hq] at h1
              by_cases h2 : q = 0
              · subst h2; simp at h1; omega
              · omega
            have q2 : (q : Int) ≤ 512 := by omega
            clear a1 rg b1 b2 b3 b4 b5 f1 f2
            go_wp2_with fail
            refine (FRA _).mono ?_
            rintro e w3 ⟨v, rfl, R, g3⟩
            rcases R with ⟨hL, AA, CC, rfl, _⟩ | ⟨b2, o2, CC, hb2, rfl, hc2⟩
            · exact absurd B5.out (by rw [hL]; simp; omega)
            · rw [B5.out]
              have HC2 := Lib.hid (Rows.int_cell hc2)
              have HB2 := Lib.hid hb2
              have d0 : w3.cell? ⟨wo.heap.size, 0, none⟩ = some (.int .i64 f.id) := Eq.trans (Gr.cell g3 (by first | (simp; done) | (simp; omega) | omega)) (by go_simp); have d1 : w3.cell? ⟨wo.heap.size, 1, none⟩ = some (.int .i64 f.fr) := Eq.trans (Gr.cell g3 (by first | (simp; done) | (simp; omega) | omega)) (by go_simp); have d2 : w3.cell? ⟨wo.heap.size, 2, none⟩ = some (.int .i64 f.to) := Eq.trans (Gr.cell g3 (by first | (simp; done) | (simp; omega) | omega)) (by go_simp); have d3 : w3.cell? ⟨wo.heap.size, 3, none⟩ = some (.int .i64 f.pe) := Eq.trans (Gr.cell g3 (by first | (simp; done) | (simp; omega) | omega)) (by go_simp); have d4 : w3.cell? ⟨wo.heap.size, 4, none⟩ = some (.int .i64 f.ph) := Eq.trans (Gr.cell g3 (by first | (simp; done) | (simp; omega) | omega)) (by go_simp); have d5 : w3.cell? ⟨wo.heap.size, 5, none⟩ = some (.int .i64 f.de) := Eq.trans (Gr.cell g3 (by first | (simp; done) | (simp; omega) | omega)) (by go_simp)
              have y1 : wo.heap.size < w3.heap.size := by have := g3.size; simp at this; omega
              have CC6 : Aside (∀ W, Gr w3 W → W.cell? ⟨wo.heap.size, 0, none⟩ = some (.int .i64 f.id) ∧ W.cell? ⟨wo.heap.size, 1, none⟩ = some (.int .i64 f.fr) ∧ W.cell? ⟨wo.heap.size, 2, none⟩ = some (.int .i64 f.to) ∧ W.cell? ⟨wo.heap.size, 3, none⟩ = some (.int .i64 f.pe) ∧ W.cell? ⟨wo.heap.size, 4, none⟩ = some (.int .i64 f.ph) ∧ W.cell? ⟨wo.heap.size, 5, none⟩ = some (.int .i64 f.de)) :=
                fun W g => ⟨(g.cell y1).trans d0, (g.cell y1).trans d1, (g.cell y1).trans d2, (g.cell y1).trans d3, (g.cell y1).trans d4, (g.cell y1).trans d5⟩
              have G3 : Aside (Gr w w3) := (G.out.alloc _).trans g3
              have hqz : ((q : Int) != (K : Int) / f.pe) = false := by rw [hq]; simp
              have HQ := Lib.hid hq
              clear hc2 hb2 g3 hq
              go_wp2_with fail
              go_loopg [4, 13, 14, 15, 16, 85] q (fun g5 _ _ _ _ _ s85 wr => ∃ jj : Nat, jj ≤ q ∧ q - jj ≤ g5 ∧ s85 = .int .i64 (jj : Int) ∧ Aside (Gr w3 wr))
              case atStart => exact ⟨0, Nat.zero_le _, by omega, rfl, Gr.refl _⟩
              case round =>
                obtain ⟨jj, hjj, hg5, rfl, GI⟩ := hrel
                by_cases hj : jj < q
                · have hjz : (jj : Int) < (q : Int) := by omega
                  obtain ⟨x, x1, x2, x3, x4⟩ := INN.out jj hj
                  have hc := HC2.out jj (by rw [B5.out]; exact hj)
                  have hx : LL[jj]'(by rw [B5.out]; exact hj) = x := by
                    rw [List.getElem?_eq_getElem (by rw [B5.out]; exact hj)] at x1
                    exact Option.some.inj x1
                  rw [hx] at hc
                  have hcw := (GI.out.cell (p := ⟨b2, o2 + jj, none⟩) HB2.out).trans hc
                  obtain ⟨e0, e1, e2, e3, e4, e5⟩ := CC6.out _ GI.out
                  clear hc hx x1 d0 d1 d2 d3 d4 d5
                  go_wp2_with fail
                  refine (window_any f x _).mono ?_
                  rintro e w4 ⟨rfl, g4⟩
                  go_wp2_with fail
                  go_roundg (q - (jj + 1))
                  case measure => omega
                  case rel => exact ⟨jj + 1, by omega, by omega, by go_num, GI.out.trans g4⟩
                · have hjz : ¬ (jj : Int) < (q : Int) := by omega
                  go_wp2_with fail
                  go_roundg (n - (kk + 1))
                  case measure => omega
                  case rel => exact ⟨kk + 1, by omega, by omega, by go_num, G3.out.trans GI.out⟩
          · have hltz : ¬ (kk : Int) < (n : Int) := by omega
            go_wp2_with fail
            go_ret
            exact ⟨rfl, G.out⟩
    · have hb2 : (Fw.hE n zs != 0) = true := by simpa using he
      obtain ⟨n1, n2⟩ := Fw.h_no he
      clear he RL
      rcases n2 with n2 | n2
      all_goals
        go_enter Try.func7, Try.ntmps7
        go_wp2_with (first | (go_at_call 10; refine (awake_any _).mono ?_; rintro e w' ⟨rfl, hn⟩; (first | have hg' := Gr.trans hg hn | have hg' := Gr.trans (Gr.alloc hg _) hn | have hg' := Gr.trans (Gr.drewN hg _) hn | have hg' := Gr.trans (Gr.alloc (Gr.alloc hg _) _) hn | have hg' := hn); (try clear hr hf hr2 hf2 hz hz2); (try clear hg); have hg := hg'; clear hg'; have hr := hg.rules.1; have hf := hg.rules.2; have hr2 := hn.rules.1; have hf2 := hn.rules.2; have hz := hg.size; (try simp only [World.size_alloc] at hz); have hz2 := hn.size; (try simp only [World.size_alloc] at hz2); (try clear hy1); (try clear hy2); (try clear hy3); (try have hy1 : w.heap.size < w'.heap.size := by omega); (try have hy2 : w.heap.size + 1 < w'.heap.size := by omega); (try have hy3 : w.heap.size + 1 + 1 < w'.heap.size := by omega); clear hn))
        refine (hH _ hg).mono ?_
        rintro e w2 ⟨rfl, g2⟩
        have G2 : Aside (Gr w w2) := hg.trans g2
        clear hr hf hr2 hf2 hg
        go_wp2_with fail
        go_ret
        exact ⟨by first | rfl | simp, G2.out⟩
end Go.Proofs.Ytabckmanijcndaa.flowCounts
