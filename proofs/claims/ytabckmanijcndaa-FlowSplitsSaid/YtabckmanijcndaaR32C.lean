/- The contract of the reference's Frames. -/
import Derived.Test.YtabckmanijcndaaR32B
import Derived.Test.YtabckmanijcndaaFlwG
namespace Go.Proofs.Ytabckmanijcndaa
open Go.RowKit Go.Sort
set_option linter.unusedVariables false

set_option maxHeartbeats 4000000 in
theorem rframes_any (f : Fl) (a b : Int) (w : World) (wp : f.pe ≤ 9223372036854775807 ∧ -9223372036854775808 ≤ f.pe) :
    Calls Try.prog 26 #[.agg #[.int .i64 f.id, .int .i64 f.fr, .int .i64 f.to, .int .i64 f.pe, .int .i64 f.ph, .int .i64 f.de], .int .i64 a, .int .i64 b] w (IntsRes (Fw.frE f a b) (Fw.frL f a b) w) := by
  by_cases hc : Fw.chk 32 f = 0
  · by_cases hr : Fw.rngOk a b
    · have HR := Lib.hid hr
      obtain ⟨r1, r2, r3⟩ := hr
      obtain ⟨⟨_, p1, p2, p3, p4, _⟩, -⟩ := Fw.chk_inv hc
      have HC := Lib.hid hc
      have P1 := Lib.hid p1
      have P3 := Lib.hid p3
      have r4 : 0 ≤ b := by omega
      have r5 : a ≤ 1099511627776 := by omega
      obtain ⟨F, hF⟩ : ∃ F : Nat, (F : Int) = Fw.ahd f a := ⟨(Fw.ahd f a).toNat, by have := Fw.ahd_0 (f := f) (s := a) p1; omega⟩
      obtain ⟨n, hn⟩ : ∃ n : Nat, Fw.ahd f b - (F : Int) = (n : Int) := ⟨(Fw.ahd f b - Fw.ahd f a).toNat, by have := Fw.ahd_mono (f := f) p1 p3 r2; omega⟩
      have F1 : (F : Int) ≤ 1099511627776 := by
        rw [hF]
        by_cases q : 0 ≤ a - f.ph
        · have := Fw.ahd_le (f := f) (s := a) p1 q; omega
        · unfold Fw.ahd; rw [if_neg (by omega)]; omega
      have B1 : (F : Int) + n ≤ 1099511627776 := by
        have h0 := Fw.ahd_0 (f := f) (s := b) p1
        by_cases q : 0 ≤ b - f.ph
        · have := Fw.ahd_le (f := f) (s := b) p1 q; omega
        · have : Fw.ahd f b = 0 := by unfold Fw.ahd; rw [if_neg (by omega)]
          omega
      have hF2 : f.ph < a → (a - f.ph + f.pe - 1) / f.pe = (F : Int) := fun h => by rw [hF]; unfold Fw.ahd; rw [if_pos h]
      have hF3 : ¬ f.ph < a → F = 0 := fun h => by have : Fw.ahd f a = 0 := by unfold Fw.ahd; rw [if_neg h]
                                                   omega
      have HL : Aside (Fw.frL f a b = if n ≤ 1024 then (List.range n).map (fun (j : Nat) => (F : Int) + (j : Int)) else []) := by
        show _ = _
        by_cases q : n ≤ 1024
        · rw [if_pos q, Fw.fr_list hc HR.out (by omega), ← hF, hn]; rfl
        · rw [if_neg q]; exact (Fw.fr_big hc HR.out (by omega)).2
      have HE : Aside (Fw.frE f a b = if n ≤ 1024 then 0 else 8) := by
        show _ = _
        by_cases q : n ≤ 1024
        · rw [if_pos q]; exact (Fw.fr_ok hc HR.out (by omega)).1
        · rw [if_neg q]; exact (Fw.fr_big hc HR.out (by omega)).1
      have HT : Aside (∀ k : Nat, f.ph + ((F : Int) + k) * f.pe < b ↔ k < n) := fun k => by
        rw [Fw.ahd_iff (f := f) (s := b) p1 p3 (n := (F : Int) + k) (by omega)]
        omega
      have HP : Aside (∀ k : Nat, k ≤ n → k ≤ 1024 → 0 ≤ ((F : Int) + k) * f.pe ∧ f.ph + ((F : Int) + k) * f.pe ≤ 4611686018427387904) := fun k h1 h2 => by
        refine ⟨Int.mul_nonneg (by omega) (by omega), ?_⟩
        have h3 : ((F : Int) + k) * f.pe ≤ 1099511627776 * 512 := Int.mul_le_mul (by omega) p2 (by omega) (by omega)
        omega
      have HN := Lib.hid hn
      obtain ⟨i0, hi, hz0, hz1, hz2⟩ := info_parts infoI
      have HF3 := Lib.hid hF3
      clear hF hn
      by_cases hfa : f.ph < a
      all_goals
        (try have HF5 := Lib.hid (hF2 hfa))
        (try have HF4 := Lib.hid (hF3 hfa))
        clear hF2 hF3
        go_enter Try.func26, Try.ntmps26
        go_wp2_with fail
        refine (fault_any 32 f _ (by omega) (by omega) wp).mono ?_
        rintro e w1 ⟨rfl, g1⟩
        have c0 : w1.cell? ⟨w.heap.size, 0, none⟩ = some (.int .i64 f.id) := Eq.trans (Gr.cell g1 (by first | (simp; done) | (simp; omega) | omega)) (by go_simp); have c1 : w1.cell? ⟨w.heap.size, 1, none⟩ = some (.int .i64 f.fr) := Eq.trans (Gr.cell g1 (by first | (simp; done) | (simp; omega) | omega)) (by go_simp); have c2 : w1.cell? ⟨w.heap.size, 2, none⟩ = some (.int .i64 f.to) := Eq.trans (Gr.cell g1 (by first | (simp; done) | (simp; omega) | omega)) (by go_simp); have c3 : w1.cell? ⟨w.heap.size, 3, none⟩ = some (.int .i64 f.pe) := Eq.trans (Gr.cell g1 (by first | (simp; done) | (simp; omega) | omega)) (by go_simp); have c4 : w1.cell? ⟨w.heap.size, 4, none⟩ = some (.int .i64 f.ph) := Eq.trans (Gr.cell g1 (by first | (simp; done) | (simp; omega) | omega)) (by go_simp); have c5 : w1.cell? ⟨w.heap.size, 5, none⟩ = some (.int .i64 f.de) := Eq.trans (Gr.cell g1 (by first | (simp; done) | (simp; omega) | omega)) (by go_simp)
        have y1 : w.heap.size < w1.heap.size := by have := g1.size; simp at this; omega
        have GG : Aside (Gr w w1) := Gr.trans (Gr.alloc (Gr.refl w) _) g1
        clear g1
        go_wp2_with fail
        have CC : Aside (∀ W, Gr w1 W → W.cell? ⟨w.heap.size, 0, none⟩ = some (.int .i64 f.id) ∧ W.cell? ⟨w.heap.size, 1, none⟩ = some (.int .i64 f.fr) ∧ W.cell? ⟨w.heap.size, 2, none⟩ = some (.int .i64 f.to) ∧ W.cell? ⟨w.heap.size, 3, none⟩ = some (.int .i64 f.pe) ∧ W.cell? ⟨w.heap.size, 4, none⟩ = some (.int .i64 f.ph) ∧ W.cell? ⟨w.heap.size, 5, none⟩ = some (.int .i64 f.de)) :=
          fun W g => ⟨(g.cell y1).trans c0, (g.cell y1).trans c1, (g.cell y1).trans c2, (g.cell y1).trans c3, (g.cell y1).trans c4, (g.cell y1).trans c5⟩
        clear c0 c1 c2 c3 c4 c5
        go_loopg [6, 7, 9, 10] n (fun gg _ _ s9 s10 wr => ∃ kk : Nat, kk ≤ n ∧ kk ≤ 1024 ∧ n - kk ≤ gg ∧ s10 = .int .i64 ((F : Int) + (kk : Int)) ∧ Aside (Gr w1 wr) ∧ Aside (wr.ownsRow w1.heap.size 3 1 s9 kk (((List.range kk).map fun (j : Nat) => (F : Int) + (j : Int)).map (Value.int .i64))))
        case atStart => exact ⟨0, Nat.zero_le _, by omega, by omega, by first | (simp; done) | (simp; exact HF5.out) | (simp; have := HF4.out; omega), Gr.alloc (Gr.refl w1) _, ⟨rfl, .inr ⟨w1.heap.size, 0, #[], rfl, Nat.le_refl _, heap_alloc_new _ _, Nat.le_refl _, by simp [maxLen], rfl, rfl⟩⟩⟩
        case round =>
          obtain ⟨kk, hkk, hk2, hgg, rfl, G, O⟩ := hrel
          obtain ⟨A9, C9, rfl⟩ := owns_slice O.out
          obtain ⟨c0, c1, c2, c3, c4, c5⟩ := CC.out _ G.out
          by_cases hlt : kk < n
          · have t1 := (HT.out kk).2 hlt
            obtain ⟨t2, t3⟩ := HP.out kk hkk hk2
            by_cases hq : kk = 1024
            · have hqb : ((kk : Int) == 1024) = true := by simp; omega
              have HQ := Lib.hid hq
              clear hq
              go_wp2_with fail
              refine (rrelease_any f _ _ (by first | assumption | omega) (by first | assumption | omega) (by omega)).mono ?_
              rintro e w2 ⟨rfl, g2⟩
              go_wp2_with fail
              go_ret2
              exact ⟨.slice none 0 0, ret_vi rfl (by rw [HE.out, if_neg (by have := HQ.out; omega)]), by rw [HL.out, if_neg (by have := HQ.out; omega)]; exact Rows.nil _ _, (GG.out.trans G.out).trans g2⟩
            · have hqb : ((kk : Int) == 1024) = false := by simp; omega
              go_wp2_with fail
              refine (rrelease_any f _ _ (by first | assumption | omega) (by first | assumption | omega) (by omega)).mono ?_
              rintro e w2 ⟨rfl, g2⟩
              have G2 : Aside (Gr w1 w2) := G.out.trans g2
              have O2 : Aside (w2.ownsRow w1.heap.size 3 1 (.slice A9 kk C9) kk (((List.range kk).map fun (j : Nat) => (F : Int) + (j : Int)).map (Value.int .i64))) := owns_gr O.out g2
              clear g2
              go_wp2_with (at_builtin; refine wpList_append_own _ rfl _ _ 43 rfl w1.heap.size 3 i0 (.int .i64 0) 1 8 Try.underlying43 hi hz0 hz1 hz2 rfl (by decide) _ _ _ rfl (O2.out.alloc _) ⟨w2.heap.size, 0, none⟩ 1 1 [.int .i64 (F + kk)] rfl rfl ?qc1 ?qc2 ?qc3 ?qc4 ?qc5 ?_)
              case qc1 => intro j u hj; match j with | 0 => (simp at hj; subst hj; go_simp) | j + 1 => simp at hj
              case qc2 => simp [Value.oneCell']
              case qc3 => unfold maxLen; omega
              case qc4 => omega
              case qc5 => have := G2.out.size; simp; omega
              intro v' w' hown' hgrow _
              have HO := Lib.hid hown'
              clear hown'
              go_wp2_with fail
              go_roundg (n - (kk + 1))
              case measure => omega
              case rel => exact ⟨kk + 1, by omega, by omega, by omega, by go_num, (G2.out.alloc _).append hgrow (fun k hk => (O2.out.lt k hk).1), (show World.ownsRow _ _ _ _ _ _ _ by simpa [List.range_succ] using HO.out)⟩
          · have t1 : ¬ f.ph + ((F : Int) + (kk : Int)) * f.pe < b := fun h => hlt ((HT.out kk).1 h)
            obtain ⟨t2, t3⟩ := HP.out kk hkk hk2
            have : kk = n := by omega
            subst this
            go_wp2_with fail
            refine (rrelease_any f _ _ (by first | assumption | omega) (by first | assumption | omega) (by omega)).mono ?_
            rintro e w2 ⟨rfl, g2⟩
            go_wp2_with fail
            go_ret2
            exact ⟨.slice A9 kk C9, ret_vi rfl (by rw [HE.out, if_pos (by omega)]), by rw [HL.out, if_pos (by omega)]; exact Rows.ints_of (owns_gr O.out g2) (by simp), (GG.out.trans G.out).trans g2⟩
    · have hb : a < 0 ∨ (0 ≤ a ∧ b < a) ∨ (0 ≤ a ∧ a ≤ b ∧ 1099511627776 < b) := by
        unfold Fw.rngOk at hr; omega
      obtain ⟨z1, z2⟩ := Fw.fr_rng hc hr
      rw [z1, z2]
      clear hr z1 z2
      rcases hb with hb | ⟨hb, hb2⟩ | ⟨hb, hb2, hb3⟩
      all_goals
        go_enter Try.func26, Try.ntmps26
        go_wp2_with (first | (go_at_call 38; refine (fault_any 32 f _ (by omega) (by omega) wp).mono ?_; rintro e w' ⟨rfl, hn⟩; (first | have hg' := Gr.trans hg hn | have hg' := Gr.trans (Gr.alloc hg _) hn | have hg' := Gr.trans (Gr.drewN hg _) hn | have hg' := Gr.trans (Gr.alloc (Gr.alloc hg _) _) hn | have hg' := hn); (try clear hr hf hr2 hf2 hz hz2); (try clear hg); have hg := hg'; clear hg'; have hr := hg.rules.1; have hf := hg.rules.2; have hr2 := hn.rules.1; have hf2 := hn.rules.2; have hz := hg.size; (try simp only [World.size_alloc] at hz); have hz2 := hn.size; (try simp only [World.size_alloc] at hz2); (try clear hy1); (try clear hy2); (try clear hy3); (try have hy1 : w.heap.size < w'.heap.size := by omega); (try have hy2 : w.heap.size + 1 < w'.heap.size := by omega); (try have hy3 : w.heap.size + 1 + 1 < w'.heap.size := by omega); clear hn))
        go_ret2
        exact ⟨_, rfl, Rows.nil _ _, by repeat (first | (with_reducible exact Gr.refl _) | (with_reducible assumption) | (with_reducible refine Gr.alloc ?_ _) | (with_reducible refine Gr.drewN ?_ _) | (with_reducible refine Gr.drew ?_) | (with_reducible refine Gr.grown ?_ _ _) | (with_reducible refine Gr.regrown ?_ _ _) | (with_reducible refine Gr.setCell ?_ (by first | omega | (simp; omega) | simp) _) | (with_reducible refine Gr.trans ?_ (by with_reducible assumption)))⟩
  · have hb : (Fw.chk 32 f != 0) = true := by simpa using hc
    obtain ⟨z1, z2⟩ := Fw.fr_bad (a := a) (b := b) hc
    rw [z1, z2]
    clear hc z1 z2
    go_enter Try.func26, Try.ntmps26
    go_wp2_with (first | (go_at_call 38; refine (fault_any 32 f _ (by omega) (by omega) wp).mono ?_; rintro e w' ⟨rfl, hn⟩; (first | have hg' := Gr.trans hg hn | have hg' := Gr.trans (Gr.alloc hg _) hn | have hg' := Gr.trans (Gr.drewN hg _) hn | have hg' := Gr.trans (Gr.alloc (Gr.alloc hg _) _) hn | have hg' := hn); (try clear hr hf hr2 hf2 hz hz2); (try clear hg); have hg := hg'; clear hg'; have hr := hg.rules.1; have hf := hg.rules.2; have hr2 := hn.rules.1; have hf2 := hn.rules.2; have hz := hg.size; (try simp only [World.size_alloc] at hz); have hz2 := hn.size; (try simp only [World.size_alloc] at hz2); (try clear hy1); (try clear hy2); (try clear hy3); (try have hy1 : w.heap.size < w'.heap.size := by omega); (try have hy2 : w.heap.size + 1 < w'.heap.size := by omega); (try have hy3 : w.heap.size + 1 + 1 < w'.heap.size := by omega); clear hn))
    go_ret2
    exact ⟨_, rfl, Rows.nil _ _, by repeat (first | (with_reducible exact Gr.refl _) | (with_reducible assumption) | (with_reducible refine Gr.alloc ?_ _) | (with_reducible refine Gr.drewN ?_ _) | (with_reducible refine Gr.drew ?_) | (with_reducible refine Gr.grown ?_ _ _) | (with_reducible refine Gr.regrown ?_ _ _) | (with_reducible refine Gr.setCell ?_ (by first | omega | (simp; omega) | simp) _) | (with_reducible refine Gr.trans ?_ (by with_reducible assumption)))⟩
end Go.Proofs.Ytabckmanijcndaa
