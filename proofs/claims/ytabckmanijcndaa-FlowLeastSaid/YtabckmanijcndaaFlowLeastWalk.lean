/- The walk of FlowLeast: the Go text returns true. -/
import Derived.Test.YtabckmanijcndaaFlwAwake
import Derived.Test.YtabckmanijcndaaR32E
import Derived.Test.YtabckmanijcndaaFlwOk
namespace Go.Proofs.Ytabckmanijcndaa.flowLeast
open Go.RowKit Go.Sort
set_option linter.unusedVariables false

set_option maxHeartbeats 1000000 in
theorem least1_any (f : Fl) (r : Nat) (B : Nat) (w : World) (hp : 1 ≤ f.pe) (c0 : w.cell? ⟨B, 0, none⟩ = some (.int .i64 (r : Int))) (hB : B < w.heap.size) :
    Calls Try.prog 18 #[.agg #[.int .i64 f.id, .int .i64 f.fr, .int .i64 f.to, .int .i64 f.pe, .int .i64 f.ph, .int .i64 f.de], .pointer (some ⟨B, 0, none⟩)] w fun e w' => e = .returned (.bool ((r : Int) % f.pe != 0)) ∧ Gr w w' := by
  go_enter Try.func18, Try.ntmps18
  go_wp2_with fail
  go_ret
  exact ⟨rfl, by repeat (first | (with_reducible exact Gr.refl _) | (with_reducible assumption) | (with_reducible refine Gr.alloc ?_ _) | (with_reducible refine Gr.drewN ?_ _) | (with_reducible refine Gr.drew ?_) | (with_reducible refine Gr.grown ?_ _ _) | (with_reducible refine Gr.regrown ?_ _ _) | (with_reducible refine Gr.setCell ?_ (by first | omega | (simp; omega) | simp) _) | (with_reducible refine Gr.trans ?_ (by with_reducible assumption)))⟩

set_option maxHeartbeats 4000000 in
theorem walk (v0 : Value) (l : List Fl) (m : Int) (wm : (Lit.int .u16 m).wf = true) (w : World) (rl : Rows 6 encF w v0 l) (bl : (l.length : Int) ≤ 9223372036854775807) (kl : ∀ A n c, v0 = .slice A n c → n ≤ c ∧ c ≤ 9223372036854775807) (wl : ∀ x ∈ l, okF x) :
    Calls Try.prog 5 #[v0, .int .u16 m] w fun e w' => e = .returned (.bool true) ∧ Gr w w' := by
  have wm1 := bounds_u16 wm
  obtain ⟨m0, m1⟩ := wm1
  have HW : Aside (∀ x ∈ l, okF x) := wl
  clear wl
  by_cases hn : l.length = 0 ∨ 16 < l.length
  · obtain ⟨A, c, rfl⟩ := rl.slice
    clear rl kl
    rcases hn with hn | hn
    · have hz : ((l.length : Int) == 0) = true := by rw [beq_iff_eq]; omega
      go_enter Try.func5, Try.ntmps5
      go_wp2_with (first | (go_at_call 10; refine (awake_any _).mono ?_; rintro e w' ⟨rfl, hn⟩; (first | have hg' := Gr.trans hg hn | have hg' := Gr.trans (Gr.alloc hg _) hn | have hg' := Gr.trans (Gr.drewN hg _) hn | have hg' := Gr.trans (Gr.alloc (Gr.alloc hg _) _) hn | have hg' := hn); (try clear hr hf hr2 hf2 hz hz2); (try clear hg); have hg := hg'; clear hg'; have hr := hg.rules.1; have hf := hg.rules.2; have hr2 := hn.rules.1; have hf2 := hn.rules.2; have hz := hg.size; (try simp only [World.size_alloc] at hz); have hz2 := hn.size; (try simp only [World.size_alloc] at hz2); (try clear hy1); (try clear hy2); (try clear hy3); (try have hy1 : w.heap.size < w'.heap.size := by omega); (try have hy2 : w.heap.size + 1 < w'.heap.size := by omega); (try have hy3 : w.heap.size + 1 + 1 < w'.heap.size := by omega); clear hn))
      all_goals
        go_ret
        exact ⟨by first | rfl | simp, by repeat (first | (with_reducible exact Gr.refl _) | (with_reducible assumption) | (with_reducible refine Gr.alloc ?_ _) | (with_reducible refine Gr.drewN ?_ _) | (with_reducible refine Gr.drew ?_) | (with_reducible refine Gr.grown ?_ _ _) | (with_reducible refine Gr.regrown ?_ _ _) | (with_reducible refine Gr.setCell ?_ (by first | omega | (simp; omega) | simp) _) | (with_reducible refine Gr.trans ?_ (by with_reducible assumption)))⟩
    · have hz : ((l.length : Int) == 0) = false := by rw [beq_eq_false_iff_ne]; omega
      have hz2 : (16 : Int) < (l.length : Int) := by omega
      go_enter Try.func5, Try.ntmps5
      go_wp2_with (first | (go_at_call 10; refine (awake_any _).mono ?_; rintro e w' ⟨rfl, hn⟩; (first | have hg' := Gr.trans hg hn | have hg' := Gr.trans (Gr.alloc hg _) hn | have hg' := Gr.trans (Gr.drewN hg _) hn | have hg' := Gr.trans (Gr.alloc (Gr.alloc hg _) _) hn | have hg' := hn); (try clear hr hf hr2 hf2 hz hz2); (try clear hg); have hg := hg'; clear hg'; have hr := hg.rules.1; have hf := hg.rules.2; have hr2 := hn.rules.1; have hf2 := hn.rules.2; have hz := hg.size; (try simp only [World.size_alloc] at hz); have hz2 := hn.size; (try simp only [World.size_alloc] at hz2); (try clear hy1); (try clear hy2); (try clear hy3); (try have hy1 : w.heap.size < w'.heap.size := by omega); (try have hy2 : w.heap.size + 1 < w'.heap.size := by omega); (try have hy3 : w.heap.size + 1 + 1 < w'.heap.size := by omega); clear hn))
      all_goals
        go_ret
        exact ⟨by first | rfl | simp, by repeat (first | (with_reducible exact Gr.refl _) | (with_reducible assumption) | (with_reducible refine Gr.alloc ?_ _) | (with_reducible refine Gr.drewN ?_ _) | (with_reducible refine Gr.drew ?_) | (with_reducible refine Gr.grown ?_ _ _) | (with_reducible refine Gr.regrown ?_ _ _) | (with_reducible refine Gr.setCell ?_ (by first | omega | (simp; omega) | simp) _) | (with_reducible refine Gr.trans ?_ (by with_reducible assumption)))⟩
  · rcases rl with ⟨rfl, A, c, rfl, _⟩ | ⟨b, off, c, hb, rfl, hc⟩
    · exact absurd rfl (fun h => hn (.inl h))
    · have hrow := rows_fl hc
      have kc : ((l.length : Int) ≤ (c : Int)) := by have := (kl _ _ _ rfl).1; omega
      have kc2 : ((c : Int) ≤ 9223372036854775807) := by have := (kl _ _ _ rfl).2; omega
      clear kl
      obtain ⟨n, hl⟩ : ∃ n, l.length = n + 1 := ⟨l.length - 1, by omega⟩
      rw [hl] at hrow hn kc ⊢
      have kc3 : (n : Int) ≤ (c : Int) := by omega
      clear kc
      have hz : ((n : Int) + 1 == 0) = false := by rw [beq_eq_false_iff_ne]; omega
      have hz2 : ¬ (16 : Int) < (n : Int) + 1 := by omega
      have HL := Lib.hid hl
      clear hl hc bl
      have HR := Lib.hid hrow
      have HP : Hid (RowFl w b off n (at_ l)) := fun j hj => hrow j (by omega)
      have HB := Lib.hid hb
      have hnn : n ≤ 15 := by omega
      generalize hzs : at_ l = zs at *
      have HZS := Lib.hid hzs
      clear hrow hb hzs hn
      by_cases he : Fw.hE (n + 1) zs = 0
      · obtain ⟨e1, e2, e3, e4, e5⟩ := Fw.h_prefix he
        obtain ⟨c0, -, e6⟩ := Fw.h_ok he
        have okp : Aside (okP zs (n + 1)) := (Fw.cE_ok c0).2
        clear c0
        have HD := Lib.hid e4
        have HH : Hid (∀ m : Nat, 0 < m → m < hyp zs (n + 1) → ∃ j, j < n + 1 ∧ ¬ (zs j).pe.toNat ∣ m) := fun m h1 h2 => Fw.h_less h1 h2
        clear e4
        generalize hyp zs (n + 1) = K at *
        generalize hyp zs n = k at *
        have z1 : ((K : Int) % (k : Int)) = 0 := by have := HD.out; exact_mod_cast Nat.mod_eq_zero_of_dvd this
        have z2 : (1 : Int) ≤ (k : Int) := by omega
        have z3 : (1 : Int) ≤ (K : Int) := by omega
        have z4 : ((K : Int) % (k : Int) != 0) = false := by rw [z1]; rfl
        have r1 : 0 ≤ m % (K : Int) := Int.emod_nonneg _ (by omega)
        have r2 : m % (K : Int) < (K : Int) := Int.emod_lt_of_pos _ (by omega)
        obtain ⟨r, hr1⟩ : ∃ r : Nat, m % (K : Int) = (r : Int) := ⟨(m % (K : Int)).toNat, by omega⟩
        clear z1
        by_cases h0 : r = 0
        · have q0 : ((r : Int) == 0) = true := by simp; omega
          go_enter Try.func5, Try.ntmps5
          go_wp2_with (first | (go_at_call 10; refine (awake_any _).mono ?_; rintro e w' ⟨rfl, hn⟩; (first | have hg' := Gr.trans hg hn | have hg' := Gr.trans (Gr.alloc hg _) hn | have hg' := Gr.trans (Gr.drewN hg _) hn | have hg' := Gr.trans (Gr.alloc (Gr.alloc hg _) _) hn | have hg' := hn); (try clear hr hf hr2 hf2 hz hz2); (try clear hg); have hg := hg'; clear hg'; have hr := hg.rules.1; have hf := hg.rules.2; have hr2 := hn.rules.1; have hf2 := hn.rules.2; have hz := hg.size; (try simp only [World.size_alloc] at hz); have hz2 := hn.size; (try simp only [World.size_alloc] at hz2); (try clear hy1); (try clear hy2); (try clear hy3); (try have hy1 : w.heap.size < w'.heap.size := by omega); (try have hy2 : w.heap.size + 1 < w'.heap.size := by omega); (try have hy3 : w.heap.size + 1 + 1 < w'.heap.size := by omega); clear hn))
          refine (hyper_any b off (n + 1) c zs _ (by have := hg.size; have := HB.out; omega) (HR.out.gr HB.out hg) (by omega)).mono ?_
          rintro e w2 ⟨rfl, g2⟩
          have G2 : Aside (Gr w w2) := hg.trans g2
          clear hr hf hr2 hf2 hg
          go_wp2_with fail
          refine (hyper_any b off n c zs _ (by have := G2.out.size; have := HB.out; omega) (HP.out.gr HB.out G2.out) (by omega)).mono ?_
          rintro e w3 ⟨rfl, g3⟩
          have G3 : Aside (Gr w w3) := G2.out.trans g3
          go_wp2_with fail
          go_ret
          exact ⟨by first | rfl | simp, (G3.out.alloc _)⟩
        · have q0 : ((r : Int) == 0) = false := by simp; omega
          have q1 : 0 ≤ ixN (fun f => (r : Int) % f.pe != 0) (n + 1) zs := ix_ex (by
            obtain ⟨j, hj, hd⟩ := HH.out r (by omega) (by omega)
            refine ⟨j, hj, ?_⟩
            have hp := okp.out j hj
            show ((r : Int) % (zs j).pe != 0) = true
            rw [bne_iff_ne]
            intro h
            apply hd
            obtain ⟨P, hP⟩ : ∃ P : Nat, (zs j).pe = (P : Int) := ⟨(zs j).pe.toNat, by omega⟩
            rw [hP] at h ⊢
            apply Nat.dvd_of_mod_eq_zero
            show r % P = 0
            exact_mod_cast h)
          have q2 : decide (0 ≤ ixN (fun f => (r : Int) % f.pe != 0) (n + 1) zs) = true := decide_eq_true q1
          clear q1
          go_enter Try.func5, Try.ntmps5
          go_wp2_with (first | (go_at_call 10; refine (awake_any _).mono ?_; rintro e w' ⟨rfl, hn⟩; (first | have hg' := Gr.trans hg hn | have hg' := Gr.trans (Gr.alloc hg _) hn | have hg' := Gr.trans (Gr.drewN hg _) hn | have hg' := Gr.trans (Gr.alloc (Gr.alloc hg _) _) hn | have hg' := hn); (try clear hr hf hr2 hf2 hz hz2); (try clear hg); have hg := hg'; clear hg'; have hr := hg.rules.1; have hf := hg.rules.2; have hr2 := hn.rules.1; have hf2 := hn.rules.2; have hz := hg.size; (try simp only [World.size_alloc] at hz); have hz2 := hn.size; (try simp only [World.size_alloc] at hz2); (try clear hy1); (try clear hy2); (try clear hy3); (try have hy1 : w.heap.size < w'.heap.size := by omega); (try have hy2 : w.heap.size + 1 < w'.heap.size := by omega); (try have hy3 : w.heap.size + 1 + 1 < w'.heap.size := by omega); clear hn))
          refine (hyper_any b off (n + 1) c zs _ (by have := hg.size; have := HB.out; omega) (HR.out.gr HB.out hg) (by omega)).mono ?_
          rintro e w2 ⟨rfl, g2⟩
          have G2 : Aside (Gr w w2) := hg.trans g2
          clear hr hf hr2 hf2 hg
          go_wp2_with fail
          refine (hyper_any b off n c zs _ (by have := G2.out.size; have := HB.out; omega) (HP.out.gr HB.out G2.out) (by omega)).mono ?_
          rintro e w3 ⟨rfl, g3⟩
          have G3 : Aside (Gr w w3) := G2.out.trans g3
          go_wp2_with fail
          refine (cont_any 18 #[.pointer (some ⟨w3.heap.size, 0, none⟩)] (fun f => (r : Int) % f.pe != 0) b off (n + 1) c zs _ (by have := G3.out.size; have := HB.out; simp; omega) (HR.out.gr HB.out (G3.out.alloc _)) (by omega) (enters_of Try.func18 (by kernel_rfl) rfl) (fun W j g hj => least1_any (zs j) r w3.heap.size W (okp.out j hj).1 ((g.cell (by simp)).trans (by go_simp)) (by have := g.size; simp at this; omega))).mono ?_
          rintro e w4 ⟨rfl, g4⟩
          go_wp2_with fail
          go_ret
          exact ⟨by first | rfl | simp, (G3.out.alloc _).trans g4⟩
      · have hb2 : (Fw.hE (n + 1) zs != 0) = true := by simpa using he
        clear he
        go_enter Try.func5, Try.ntmps5
        go_wp2_with (first | (go_at_call 10; refine (awake_any _).mono ?_; rintro e w' ⟨rfl, hn⟩; (first | have hg' := Gr.trans hg hn | have hg' := Gr.trans (Gr.alloc hg _) hn | have hg' := Gr.trans (Gr.drewN hg _) hn | have hg' := Gr.trans (Gr.alloc (Gr.alloc hg _) _) hn | have hg' := hn); (try clear hr hf hr2 hf2 hz hz2); (try clear hg); have hg := hg'; clear hg'; have hr := hg.rules.1; have hf := hg.rules.2; have hr2 := hn.rules.1; have hf2 := hn.rules.2; have hz := hg.size; (try simp only [World.size_alloc] at hz); have hz2 := hn.size; (try simp only [World.size_alloc] at hz2); (try clear hy1); (try clear hy2); (try clear hy3); (try have hy1 : w.heap.size < w'.heap.size := by omega); (try have hy2 : w.heap.size + 1 < w'.heap.size := by omega); (try have hy3 : w.heap.size + 1 + 1 < w'.heap.size := by omega); clear hn))
        refine (hyper_any b off (n + 1) c zs _ (by have := hg.size; have := HB.out; omega) (HR.out.gr HB.out hg) (by omega)).mono ?_
        rintro e w2 ⟨rfl, g2⟩
        have G2 : Aside (Gr w w2) := hg.trans g2
        clear hr hf hr2 hf2 hg
        go_wp2_with fail
        refine (hyper_any b off n c zs _ (by have := G2.out.size; have := HB.out; omega) (HP.out.gr HB.out G2.out) (by omega)).mono ?_
        rintro e w3 ⟨rfl, g3⟩
        have G3 : Aside (Gr w w3) := G2.out.trans g3
        go_wp2_with fail
        go_ret
        exact ⟨by first | rfl | simp, G3.out⟩
end Go.Proofs.Ytabckmanijcndaa.flowLeast
