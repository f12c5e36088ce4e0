/- The contract of flow.Frames. -/
import Derived.Test.YtabckmanijcndaaFlwA
import Derived.Test.YtabckmanijcndaaFlwF
import Derived.Test.YtabckmanijcndaaRow
import Derived.Deep.LoopGhost
import Derived.Outline
import Derived.Laws.AppendOwn
namespace Go.Proofs.Ytabckmanijcndaa
open Go.RowKit Go.Sort
set_option linter.unusedVariables false

/-- a list of ints and an error are returned -/
def IntsRes (E : Int) (l : List Int) (w : World) (e : Ending) (w' : World) : Prop := ∃ v, e = .returned (.tuple #[v, .int .i64 E]) ∧ Rows 1 encI w' v l ∧ Gr w w'

set_option maxHeartbeats 1000000 in
theorem ahead_any (f : Fl) (B : Nat) (s : Int) (w : World) (hp : 1 ≤ f.pe) (hp2 : f.pe ≤ 512) (h0 : 0 ≤ f.ph) (h1 : f.ph < f.pe) (s0 : 0 ≤ s) (s1 : s ≤ 1099511627776) (c3 : w.cell? ⟨B, 3, none⟩ = some (.int .i64 f.pe)) (c4 : w.cell? ⟨B, 4, none⟩ = some (.int .i64 f.ph)) :
    Calls Try.prog 40 #[.int .i64 s, .pointer (some ⟨B, 0, none⟩)] w fun e w' => e = .returned (.int .i64 (Fw.ahd f s)) ∧ Gr w w' := by
  have H : Hid ((max (s - f.ph) 0 + f.pe - 1) / f.pe = Fw.ahd f s) := by
    show _ = _
    unfold Fw.ahd
    by_cases h : f.ph < s
    · rw [if_pos h, Int.max_eq_left (by omega)]
    · rw [if_neg h, Int.max_eq_right (by omega)]
      exact Int.ediv_eq_zero_of_lt (by omega) (by omega)
  go_enter Try.func40, Try.ntmps40
  go_wp2_with fail
  go_ret
  exact ⟨ret_int H.out, by repeat (first | (with_reducible exact Gr.refl _) | (with_reducible assumption) | (with_reducible refine Gr.alloc ?_ _) | (with_reducible refine Gr.drewN ?_ _) | (with_reducible refine Gr.drew ?_) | (with_reducible refine Gr.grown ?_ _ _) | (with_reducible refine Gr.regrown ?_ _ _) | (with_reducible refine Gr.setCell ?_ (by first | omega | (simp; omega) | simp) _) | (with_reducible refine Gr.trans ?_ (by with_reducible assumption)))⟩

theorem infoI : (Try.prog.info? 3).map (fun i => (i.zero, i.size, i.bytes)) = some (some (.int .i64 0), 1, 8) := by kernel_rfl

set_option maxHeartbeats 4000000 in
theorem frames_any (f : Fl) (a b : Int) (w : World) :
    Calls Try.prog 24 #[.agg #[.int .i64 f.id, .int .i64 f.fr, .int .i64 f.to, .int .i64 f.pe, .int .i64 f.ph, .int .i64 f.de], .int .i64 a, .int .i64 b] w (IntsRes (Fw.frE f a b) (Fw.frL f a b) w) := by
  by_cases hc : Fw.chk 32 f = 0
  · by_cases hr : Fw.rngOk a b
    · have HR := Lib.hid hr
      obtain ⟨r1, r2, r3⟩ := hr
      obtain ⟨⟨_, p1, p2, p3, p4, _⟩, -⟩ := Fw.chk_inv hc
      have HC := Lib.hid hc
      have r4 : 0 ≤ b := by omega
      have r5 : a ≤ 1099511627776 := by omega
      go_enter Try.func24, Try.ntmps24
      go_wp2_with fail
      refine (alone_any _ _).mono ?_
      rintro e w1 ⟨rfl, g1⟩
      have c3 : w1.cell? ⟨w.heap.size, 3, none⟩ = some (.int .i64 f.pe) := Eq.trans (Gr.cell g1 (by first | (simp; done) | (simp; omega) | omega)) (by go_simp); have c4 : w1.cell? ⟨w.heap.size, 4, none⟩ = some (.int .i64 f.ph) := Eq.trans (Gr.cell g1 (by first | (simp; done) | (simp; omega) | omega)) (by go_simp)
      go_wp2_with fail
      refine (ahead_any f w.heap.size a _ p1 p2 p3 p4 r1 r5 (by go_simp) (by go_simp)).mono ?_
      rintro e w2 ⟨rfl, g2⟩
      have G2 := g1.trans g2
      have d3 : w2.cell? ⟨w.heap.size, 3, none⟩ = some (.int .i64 f.pe) := Eq.trans (Gr.cell G2 (by first | (simp; done) | (simp; omega) | omega)) (by go_simp); have d4 : w2.cell? ⟨w.heap.size, 4, none⟩ = some (.int .i64 f.ph) := Eq.trans (Gr.cell G2 (by first | (simp; done) | (simp; omega) | omega)) (by go_simp)
      clear c3 c4
      go_wp2_with fail
      refine (ahead_any f w.heap.size b _ p1 p2 p3 p4 r4 r3 (by go_simp) (by go_simp)).mono ?_
      rintro e w3 ⟨rfl, g3⟩
      have G3 : Gr w w3 := Gr.trans (by repeat (first | (with_reducible exact Gr.refl _) | (with_reducible assumption) | (with_reducible refine Gr.alloc ?_ _) | (with_reducible refine Gr.drewN ?_ _) | (with_reducible refine Gr.drew ?_) | (with_reducible refine Gr.grown ?_ _ _) | (with_reducible refine Gr.regrown ?_ _ _) | (with_reducible refine Gr.setCell ?_ (by first | omega | (simp; omega) | simp) _) | (with_reducible refine Gr.trans ?_ (by with_reducible assumption)))) (G2.trans g3)
      have GG := Lib.hid G3
      obtain ⟨n, hn⟩ : ∃ n : Nat, Fw.ahd f b - Fw.ahd f a = (n : Int) := ⟨(Fw.ahd f b - Fw.ahd f a).toNat, by have := Fw.ahd_mono (f := f) p1 p3 r2; omega⟩
      have a0 := Fw.ahd_0 (f := f) (s := a) p1
      have a1 : Fw.ahd f a ≤ 1099511627776 := by
        by_cases q : 0 ≤ a - f.ph
        · have := Fw.ahd_le (f := f) (s := a) p1 q; omega
        · unfold Fw.ahd; rw [if_neg (by omega)]; omega
      have b0 := Fw.ahd_0 (f := f) (s := b) p1
      have b1 : Fw.ahd f b ≤ 1099511627776 := by
        by_cases q : 0 ≤ b - f.ph
        · have := Fw.ahd_le (f := f) (s := b) p1 q; omega
        · unfold Fw.ahd; rw [if_neg (by omega)]; omega
      clear g1 g2 g3 G2 G3 d3 d4
      by_cases hm : n ≤ 1024
      · have hm2 : (n : Int) ≤ 1024 := by omega
        obtain ⟨z1, z2⟩ := Fw.fr_ok HC.out HR.out (by omega)
        have z3 := Fw.fr_list HC.out HR.out (by omega)
        rw [z1, z3]
        have HN := Lib.hid hn
        obtain ⟨i0, hi, hz0, hz1, hz2⟩ := info_parts infoI
        go_wp2_with fail
        go_loopg [11, 39] n (fun gg s11 s39 wr => ∃ kk : Nat, kk ≤ n ∧ n - kk ≤ gg ∧ s39 = .int .i64 kk ∧ Aside (Gr w wr) ∧ Aside (wr.ownsRow w.heap.size 3 1 s11 kk (((List.range kk).map fun (j : Nat) => Fw.ahd f a + (j : Int)).map (Value.int .i64))))
        case atStart => exact ⟨0, Nat.zero_le _, by omega, rfl, GG.out, World.ownsRow_nil _ _ _ _⟩
        case round =>
          obtain ⟨kk, hkk, hgg, rfl, G, O⟩ := hrel
          by_cases hlt : kk < n
          · have hltz : (kk : Int) < (n : Int) := by omega
            go_wp2_with (at_builtin; refine wpList_append_own _ rfl _ _ 43 rfl w.heap.size 3 i0 (.int .i64 0) 1 8 Try.underlying43 hi hz0 hz1 hz2 rfl (by decide) _ _ _ rfl (O.out.alloc _) ⟨wr.heap.size, 0, none⟩ 1 1 [.int .i64 (Fw.ahd f a + kk)] rfl rfl ?qc1 ?qc2 ?qc3 ?qc4 ?qc5 ?_)
            case qc1 => intro j u hj; match j with | 0 => (simp at hj; subst hj; go_simp) | j + 1 => simp at hj
            case qc2 => simp [Value.oneCell']
            case qc3 => unfold maxLen; omega
            case qc4 => omega
            case qc5 => have := G.out.size; simp; omega
            intro v' w' hown' hgrow _
            have HO := Lib.hid hown'
            clear hown'
            go_wp2_with fail
            go_roundg (n - (kk + 1))
            case measure => omega
            case rel => exact ⟨kk + 1, by omega, by omega, by go_num, (G.out.alloc _).append hgrow (fun k hk => (O.out.lt k hk).1), (show World.ownsRow _ _ _ _ _ _ _ by simpa [List.range_succ] using HO.out)⟩
          · have hltz : ¬ (kk : Int) < (n : Int) := by omega
            have : kk = n := by omega
            subst this
            go_wp2_with fail
            go_ret2
            exact ⟨u11, rfl, Rows.ints_of (base := w.heap.size) (e := 3) O.out (by simp), G.out⟩
      · have hm2 : (1024 : Int) < (n : Int) := by omega
        obtain ⟨z1, z2⟩ := Fw.fr_big HC.out HR.out (by omega)
        have Z1 := Lib.hid z1
        have Z2 := Lib.hid z2
        clear z1 z2
        go_wp2_with fail
        go_ret2
        exact ⟨.slice none 0 0, ret_vi rfl Z1.out.symm, by rw [Z2.out]; exact Rows.nil _ _, GG.out⟩
    · have hb : a < 0 ∨ (0 ≤ a ∧ b < a) ∨ (0 ≤ a ∧ a ≤ b ∧ 1099511627776 < b) := by
        unfold Fw.rngOk at hr; omega
      obtain ⟨z1, z2⟩ := Fw.fr_rng hc hr
      rw [z1, z2]
      clear hr z1 z2
      rcases hb with hb | ⟨hb, hb2⟩ | ⟨hb, hb2, hb3⟩
      all_goals
        go_enter Try.func24, Try.ntmps24
        go_wp2_with (first | (go_at_call 32; refine (alone_any _ _).mono ?_; rintro e w' ⟨rfl, hn⟩; (first | have hg' := Gr.trans hg hn | have hg' := Gr.trans (Gr.alloc hg _) hn | have hg' := Gr.trans (Gr.drewN hg _) hn | have hg' := Gr.trans (Gr.alloc (Gr.alloc hg _) _) hn | have hg' := hn); (try clear hr hf hr2 hf2 hz hz2); (try clear hg); have hg := hg'; clear hg'; have hr := hg.rules.1; have hf := hg.rules.2; have hr2 := hn.rules.1; have hf2 := hn.rules.2; have hz := hg.size; (try simp only [World.size_alloc] at hz); have hz2 := hn.size; (try simp only [World.size_alloc] at hz2); (try clear hy1); (try clear hy2); (try clear hy3); (try have hy1 : w.heap.size < w'.heap.size := by omega); (try have hy2 : w.heap.size + 1 < w'.heap.size := by omega); (try have hy3 : w.heap.size + 1 + 1 < w'.heap.size := by omega); clear hn))
        go_ret2
        exact ⟨_, rfl, Rows.nil _ _, by repeat (first | (with_reducible exact Gr.refl _) | (with_reducible assumption) | (with_reducible refine Gr.alloc ?_ _) | (with_reducible refine Gr.drewN ?_ _) | (with_reducible refine Gr.drew ?_) | (with_reducible refine Gr.grown ?_ _ _) | (with_reducible refine Gr.regrown ?_ _ _) | (with_reducible refine Gr.setCell ?_ (by first | omega | (simp; omega) | simp) _) | (with_reducible refine Gr.trans ?_ (by with_reducible assumption)))⟩
  · have hb : (Fw.chk 32 f != 0) = true := by simpa using hc
    obtain ⟨z1, z2⟩ := Fw.fr_bad (a := a) (b := b) hc
    rw [z1, z2]
    clear hc z1 z2
    go_enter Try.func24, Try.ntmps24
    go_wp2_with (first | (go_at_call 32; refine (alone_any _ _).mono ?_; rintro e w' ⟨rfl, hn⟩; (first | have hg' := Gr.trans hg hn | have hg' := Gr.trans (Gr.alloc hg _) hn | have hg' := Gr.trans (Gr.drewN hg _) hn | have hg' := Gr.trans (Gr.alloc (Gr.alloc hg _) _) hn | have hg' := hn); (try clear hr hf hr2 hf2 hz hz2); (try clear hg); have hg := hg'; clear hg'; have hr := hg.rules.1; have hf := hg.rules.2; have hr2 := hn.rules.1; have hf2 := hn.rules.2; have hz := hg.size; (try simp only [World.size_alloc] at hz); have hz2 := hn.size; (try simp only [World.size_alloc] at hz2); (try clear hy1); (try clear hy2); (try clear hy3); (try have hy1 : w.heap.size < w'.heap.size := by omega); (try have hy2 : w.heap.size + 1 < w'.heap.size := by omega); (try have hy3 : w.heap.size + 1 + 1 < w'.heap.size := by omega); clear hn))
    go_ret2
    exact ⟨_, rfl, Rows.nil _ _, by repeat (first | (with_reducible exact Gr.refl _) | (with_reducible assumption) | (with_reducible refine Gr.alloc ?_ _) | (with_reducible refine Gr.drewN ?_ _) | (with_reducible refine Gr.drew ?_) | (with_reducible refine Gr.grown ?_ _ _) | (with_reducible refine Gr.regrown ?_ _ _) | (with_reducible refine Gr.setCell ?_ (by first | omega | (simp; omega) | simp) _) | (with_reducible refine Gr.trans ?_ (by with_reducible assumption)))⟩
end Go.Proofs.Ytabckmanijcndaa
