/- The walk of FlowSplits: the Go text returns true. -/
import Derived.Test.YtabckmanijcndaaFlwAwake
import Derived.Test.YtabckmanijcndaaR32C
import Derived.Test.YtabckmanijcndaaEqualInts
import Derived.Test.YtabckmanijcndaaConcatInts
namespace Go.Proofs.Ytabckmanijcndaa.flowSplits
open Go.RowKit Go.Sort
set_option linter.unusedVariables false

set_option maxHeartbeats 4000000 in
theorem walk (i fr t pe ph de q m n : Int) (wi : (Lit.int .i64 i).wf = true) (wfr : (Lit.int .i64 fr).wf = true) (wt : (Lit.int .i64 t).wf = true) (wpe_ : (Lit.int .i64 pe).wf = true) (wph : (Lit.int .i64 ph).wf = true) (wde : (Lit.int .i64 de).wf = true) (wq : (Lit.int .u16 q).wf = true) (wm : (Lit.int .u16 m).wf = true) (wn : (Lit.int .u16 n).wf = true) (w : World) :
    Calls Try.prog 9 #[.agg #[.int .i64 i, .int .i64 fr, .int .i64 t, .int .i64 pe, .int .i64 ph, .int .i64 de], .int .u16 q, .int .u16 m, .int .u16 n] w fun e w' => e = .returned (.bool true) ∧ Gr w w' := by
  obtain ⟨f, hf⟩ : ∃ f : Fl, f = ⟨i, fr, t, pe, ph, de⟩ := ⟨_, rfl⟩
  have wp := wpe (f := ⟨i, fr, t, pe, ph, de⟩) wpe_
  obtain rfl : f.id = i := by rw [hf]
  obtain rfl : f.fr = fr := by rw [hf]
  obtain rfl : f.to = t := by rw [hf]
  obtain rfl : f.pe = pe := by rw [hf]
  obtain rfl : f.ph = ph := by rw [hf]
  obtain rfl : f.de = de := by rw [hf]
  clear hf
  have wk1 := bounds_u16 wq
  have wm1 := bounds_u16 wm
  have wn1 := bounds_u16 wn
  obtain ⟨q0, q1⟩ := wk1
  obtain ⟨m0, m1⟩ := wm1
  obtain ⟨n0, n1⟩ := wn1
  have r1 : 0 ≤ m % 2000 := Int.emod_nonneg _ (by omega)
  have r2 : m % 2000 < 2000 := Int.emod_lt_of_pos _ (by omega)
  have r3 : 0 ≤ n % 2000 := Int.emod_nonneg _ (by omega)
  have r4 : n % 2000 < 2000 := Int.emod_lt_of_pos _ (by omega)
  generalize hm1 : m % 2000 = M at r1 r2
  generalize hn1 : n % 2000 = N at r3 r4
  by_cases hc : Fw.chk 32 f = 0
  · have hbig : Fw.frE f q (q + M + N) = 0 ∨ (Fw.frE f q (q + M + N) = 8 ∧ 1024 < q + M + N - q) := by
      obtain ⟨⟨_, p1, p2, p3, _⟩, -⟩ := Fw.chk_inv hc
      by_cases z : Fw.ahd f (q + M + N) - Fw.ahd f q ≤ 1024
      · exact .inl (Fw.fr_ok hc ⟨q0, by omega, by omega⟩ z).1
      · refine .inr ⟨(Fw.fr_big hc ⟨q0, by omega, by omega⟩ z).1, ?_⟩
        have := Fw.ahd_sub (f := f) (a := q) (b := q + M + N) p1 p3 (by omega)
        omega
    rcases hbig with z | ⟨z, z2⟩
    · obtain ⟨z1, z2, z3⟩ := Fw.frL_append (a := q) (b := q + M) (c := q + M + N) hc q0 (by omega) (by omega) (by omega) z
      have Z3 := Lib.hid z3
      clear z3
      go_enter Try.func9, Try.ntmps9
      go_wp2_with (first | (go_at_call 10; refine (awake_any _).mono ?_; rintro e w' ⟨rfl, hn⟩; (first | have hg' := Gr.trans hg hn | have hg' := Gr.trans (Gr.alloc hg _) hn | have hg' := Gr.trans (Gr.drewN hg _) hn | have hg' := Gr.trans (Gr.alloc (Gr.alloc hg _) _) hn | have hg' := hn); (try clear hr hf hr2 hf2 hz hz2); (try clear hg); have hg := hg'; clear hg'; have hr := hg.rules.1; have hf := hg.rules.2; have hr2 := hn.rules.1; have hf2 := hn.rules.2; have hz := hg.size; (try simp only [World.size_alloc] at hz); have hz2 := hn.size; (try simp only [World.size_alloc] at hz2); (try clear hy1); (try clear hy2); (try clear hy3); (try have hy1 : w.heap.size < w'.heap.size := by omega); (try have hy2 : w.heap.size + 1 < w'.heap.size := by omega); (try have hy3 : w.heap.size + 1 + 1 < w'.heap.size := by omega); clear hn))
      refine (frames_any f _ _ _).mono ?_
      rintro e w1 ⟨v1, rfl, R1, g1⟩
      obtain ⟨A1, C1, rfl⟩ := R1.slice
      have G1 := hg.trans g1
      clear hr hf hr2 hf2 hg hz hz2 hy1
      have hr := G1.rules.1
      have y1 : w.heap.size < w1.heap.size := by have := G1.size; simp at this; omega
      go_wp2_with fail
      refine (frames_any f _ _ _).mono ?_
      rintro e w2 ⟨v2, rfl, R2, g2⟩
      obtain ⟨A2, C2, rfl⟩ := R2.slice
      have G2 := G1.trans g2
      clear hr
      have hr := G2.rules.1
      have y2 : w.heap.size < w2.heap.size := by have := g2.size; omega
      go_wp2_with fail
      refine (frames_any f _ _ _).mono ?_
      rintro e w3 ⟨v3, rfl, R3, g3⟩
      obtain ⟨A3, C3, rfl⟩ := R3.slice
      have GG : Aside (Gr w w3) := Gr.trans (Gr.alloc (Gr.refl w) _) (G2.trans g3)
      clear hr y1 y2 G1 G2
      go_wp2_with fail
      have L1 := Fw.frL_le f q (q + M)
      have L2 := Fw.frL_le f (q + M) (q + M + N)
      have L3 := Fw.frL_le f q (q + M + N)
      refine (concat_any w3.heap.size 2 _ _ A1 A2 C1 C2 (Fw.frL f q (q + M)) (Fw.frL f (q + M) (q + M + N)) _ (by go_simp) (by go_simp) (R1.gr (Gr.alloc (g2.trans g3) _)) (R2.gr (Gr.alloc g3 _)) rfl rfl (by omega)).mono ?_
      rintro e w4 ⟨v4, rfl, R4, g4⟩
      rw [← Z3.out] at R4
      go_wp2_with fail
      refine (equal_any _ _ _ _ _ (R3.gr (Gr.trans (Gr.alloc (Gr.refl _) _) g4)) R4 (by omega) (by omega)).mono ?_
      rintro e w5 ⟨rfl, g5⟩
      go_wp2_with fail
      go_ret
      exact ⟨by first | rfl | simp, (GG.out.trans (Gr.trans (Gr.alloc (Gr.refl _) _) g4)).trans g5⟩
    · have z3 : (Fw.frE f q (q + M + N) != 0) = true := by rw [z]; rfl
      go_enter Try.func9, Try.ntmps9
      go_wp2_with (first | (go_at_call 10; refine (awake_any _).mono ?_; rintro e w' ⟨rfl, hn⟩; (first | have hg' := Gr.trans hg hn | have hg' := Gr.trans (Gr.alloc hg _) hn | have hg' := Gr.trans (Gr.drewN hg _) hn | have hg' := Gr.trans (Gr.alloc (Gr.alloc hg _) _) hn | have hg' := hn); (try clear hr hf hr2 hf2 hz hz2); (try clear hg); have hg := hg'; clear hg'; have hr := hg.rules.1; have hf := hg.rules.2; have hr2 := hn.rules.1; have hf2 := hn.rules.2; have hz := hg.size; (try simp only [World.size_alloc] at hz); have hz2 := hn.size; (try simp only [World.size_alloc] at hz2); (try clear hy1); (try clear hy2); (try clear hy3); (try have hy1 : w.heap.size < w'.heap.size := by omega); (try have hy2 : w.heap.size + 1 < w'.heap.size := by omega); (try have hy3 : w.heap.size + 1 + 1 < w'.heap.size := by omega); clear hn))
      refine (frames_any f _ _ _).mono ?_
      rintro e w1 ⟨v1, rfl, R1, g1⟩
      obtain ⟨A1, C1, rfl⟩ := R1.slice
      have G1 := hg.trans g1
      clear hr hf hr2 hf2 hg hz hz2 hy1
      have hr := G1.rules.1
      have y1 : w.heap.size < w1.heap.size := by have := G1.size; simp at this; omega
      go_wp2_with fail
      refine (frames_any f _ _ _).mono ?_
      rintro e w2 ⟨v2, rfl, R2, g2⟩
      obtain ⟨A2, C2, rfl⟩ := R2.slice
      have G2 := G1.trans g2
      clear hr
      have hr := G2.rules.1
      have y2 : w.heap.size < w2.heap.size := by have := g2.size; omega
      go_wp2_with fail
      refine (frames_any f _ _ _).mono ?_
      rintro e w3 ⟨v3, rfl, R3, g3⟩
      obtain ⟨A3, C3, rfl⟩ := R3.slice
      have GG : Aside (Gr w w3) := Gr.trans (Gr.alloc (Gr.refl w) _) (G2.trans g3)
      clear hr y1 y2 G1 G2
      go_wp2_with fail
      go_ret
      exact ⟨by first | rfl | simp | (simp; omega), GG.out⟩
  · have z : ∀ a b, Fw.frE f a b = 1 := fun a b => (Fw.fr_bad hc).1
    have z1 := z q (q + M)
    have z2 := z (q + M) (q + M + N)
    have z3 := z q (q + M + N)
    clear z
    go_enter Try.func9, Try.ntmps9
    go_wp2_with (first | (go_at_call 10; refine (awake_any _).mono ?_; rintro e w' ⟨rfl, hn⟩; (first | have hg' := Gr.trans hg hn | have hg' := Gr.trans (Gr.alloc hg _) hn | have hg' := Gr.trans (Gr.drewN hg _) hn | have hg' := Gr.trans (Gr.alloc (Gr.alloc hg _) _) hn | have hg' := hn); (try clear hr hf hr2 hf2 hz hz2); (try clear hg); have hg := hg'; clear hg'; have hr := hg.rules.1; have hf := hg.rules.2; have hr2 := hn.rules.1; have hf2 := hn.rules.2; have hz := hg.size; (try simp only [World.size_alloc] at hz); have hz2 := hn.size; (try simp only [World.size_alloc] at hz2); (try clear hy1); (try clear hy2); (try clear hy3); (try have hy1 : w.heap.size < w'.heap.size := by omega); (try have hy2 : w.heap.size + 1 < w'.heap.size := by omega); (try have hy3 : w.heap.size + 1 + 1 < w'.heap.size := by omega); clear hn))
    refine (frames_any f _ _ _).mono ?_
    rintro e w1 ⟨v1, rfl, R1, g1⟩
    obtain ⟨A1, C1, rfl⟩ := R1.slice
    have G1 := hg.trans g1
    clear hr hf hr2 hf2 hg hz hz2 hy1
    have hr := G1.rules.1
    have y1 : w.heap.size < w1.heap.size := by have := G1.size; simp at this; omega
    go_wp2_with fail
    refine (frames_any f _ _ _).mono ?_
    rintro e w2 ⟨v2, rfl, R2, g2⟩
    obtain ⟨A2, C2, rfl⟩ := R2.slice
    have G2 := G1.trans g2
    clear hr
    have hr := G2.rules.1
    have y2 : w.heap.size < w2.heap.size := by have := g2.size; omega
    go_wp2_with fail
    refine (frames_any f _ _ _).mono ?_
    rintro e w3 ⟨v3, rfl, R3, g3⟩
    obtain ⟨A3, C3, rfl⟩ := R3.slice
    have GG : Aside (Gr w w3) := Gr.trans (Gr.alloc (Gr.refl w) _) (G2.trans g3)
    clear hr y1 y2 G1 G2
    go_wp2_with fail
    go_ret
    exact ⟨by first | rfl | simp, GG.out⟩
end Go.Proofs.Ytabckmanijcndaa.flowSplits
