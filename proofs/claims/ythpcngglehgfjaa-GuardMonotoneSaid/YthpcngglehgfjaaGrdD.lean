/- The contracts of guard.End, arrival, Fits and Late. -/
import Derived.Test.YthpcngglehgfjaaGrdB
import Derived.Test.YthpcngglehgfjaaClkW
import Derived.Test.YthpcngglehgfjaaClkLaws
namespace Go.Proofs.Ythpcngglehgfjaa
open Go.RowKit Go.Sort

theorem results_tmp4 {fn : Func} {t u v x : Tmp} (h : fn.results = #[.tmp t, .tmp u, .tmp v, .tmp x]) (tmps : Array Value) (P : Program) (w : World) :
    (results fn tmps).run P w = .ok (.tuple #[tmps.getD t undef, tmps.getD u undef, tmps.getD v undef, tmps.getD x undef]) w := by simp [results, h]

namespace Gd
open Ck
noncomputable def endN (o d s : Int) : Int := if inE o d s 2120 = 0 ∧ inN o d s 2120 + 6088 ≤ 1099511627776 then inN o d s 2120 + 6088 else 0
noncomputable def endE (o d s : Int) : Int := if inE o d s 2120 = 0 then (if inN o d s 2120 + 6088 ≤ 1099511627776 then 0 else 15) else inE o d s 2120
def arrE (oa da ob db s : Int) : Int := if inE oa da s 2120 = 0 then winE ob db s else inE oa da s 2120
noncomputable def fitB (oa da ob db s : Int) : Bool := decide (arrE oa da ob db s = 0 ∧ winF ob db s ≤ inN oa da s 2120 ∧ inN oa da s 2120 ≤ winT ob db s)
noncomputable def latN (oa da ob db s : Int) : Int := if arrE oa da ob db s = 0 then sh ob db (inN oa da s 2120) - (s * 10000 + 2120) else 0
end Gd

theorem in_bd {o d s x : Int} (h : Ck.inE o d s x = 0) : 0 ≤ Ck.inN o d s x ∧ Ck.inN o d s x ≤ 1099511627776 := by
  obtain ⟨hs, hx, e⟩ := Ck.in_ok h
  obtain ⟨v, _, _⟩ := slot_valid hs
  rw [e]
  exact Ck.rc_bd o d _ v.d1 v.d2 hx

set_option maxHeartbeats 400000 in
theorem End_any (o d s : Int) (w : World) :
    Calls Try.prog 24 #[.agg #[.int .i64 o, .int .i64 d], .int .i64 s] w fun e w' => e = .returned (.tuple #[.int .i64 (Gd.endN o d s), .int .i64 (Gd.endE o d s)]) ∧ Gr w w' := by
  by_cases he : Ck.inE o d s 2120 = 0
  · obtain ⟨n0, n1⟩ := in_bd he
    by_cases hn : Ck.inN o d s 2120 + 6088 ≤ 1099511627776
    · have N : Hid (Ck.inN o d s 2120 + 6088 = Gd.endN o d s) := by unfold Gd.endN; rw [if_pos ⟨he, hn⟩]; rfl
      have E : Hid (0 = Gd.endE o d s) := by unfold Gd.endE; rw [if_pos he, if_pos hn]; rfl
      go_enter Try.func24, Try.ntmps24
      go_wp2_with (first | (go_at_call 25; refine (send_any _ _ _ _).mono ?_; rintro e w' ⟨rfl, hn⟩; (first | have hg' := Gr.trans hg hn | have hg' := Gr.trans (Gr.alloc hg _) hn | have hg' := Gr.trans (Gr.drewN hg _) hn | have hg' := Gr.trans (Gr.alloc (Gr.alloc hg _) _) hn | have hg' := hn); (try clear hr hf hr2 hf2 hz hz2); (try clear hg); have hg := hg'; clear hg'; have hr := hg.rules.1; have hf := hg.rules.2; have hr2 := hn.rules.1; have hf2 := hn.rules.2; have hz := hg.size; (try simp only [World.size_alloc] at hz); have hz2 := hn.size; (try simp only [World.size_alloc] at hz2); (try clear hy1); (try clear hy2); (try clear hy3); (try have hy1 : w.heap.size < w'.heap.size := by omega); (try have hy2 : w.heap.size + 1 < w'.heap.size := by omega); (try have hy3 : w.heap.size + 1 + 1 < w'.heap.size := by omega); clear hn))
      go_ret2
      exact ⟨ret_int2 N.out E.out, by repeat (first | (with_reducible exact Gr.refl _) | (with_reducible assumption) | (with_reducible refine Gr.alloc ?_ _) | (with_reducible refine Gr.drewN ?_ _) | (with_reducible refine Gr.drew ?_) | (with_reducible refine Gr.grown ?_ _ _) | (with_reducible refine Gr.setCell ?_ (by first | omega | (simp; omega) | simp) _) | (with_reducible refine Gr.trans ?_ (by with_reducible assumption)))⟩
    · have N : Hid (0 = Gd.endN o d s) := by unfold Gd.endN; rw [if_neg (fun h => hn h.2)]; rfl
      have E : Hid (15 = Gd.endE o d s) := by unfold Gd.endE; rw [if_pos he, if_neg hn]; rfl
      go_enter Try.func24, Try.ntmps24
      go_wp2_with (first | (go_at_call 25; refine (send_any _ _ _ _).mono ?_; rintro e w' ⟨rfl, hn⟩; (first | have hg' := Gr.trans hg hn | have hg' := Gr.trans (Gr.alloc hg _) hn | have hg' := Gr.trans (Gr.drewN hg _) hn | have hg' := Gr.trans (Gr.alloc (Gr.alloc hg _) _) hn | have hg' := hn); (try clear hr hf hr2 hf2 hz hz2); (try clear hg); have hg := hg'; clear hg'; have hr := hg.rules.1; have hf := hg.rules.2; have hr2 := hn.rules.1; have hf2 := hn.rules.2; have hz := hg.size; (try simp only [World.size_alloc] at hz); have hz2 := hn.size; (try simp only [World.size_alloc] at hz2); (try clear hy1); (try clear hy2); (try clear hy3); (try have hy1 : w.heap.size < w'.heap.size := by omega); (try have hy2 : w.heap.size + 1 < w'.heap.size := by omega); (try have hy3 : w.heap.size + 1 + 1 < w'.heap.size := by omega); clear hn))
      go_ret2
      exact ⟨ret_int2 N.out E.out, by repeat (first | (with_reducible exact Gr.refl _) | (with_reducible assumption) | (with_reducible refine Gr.alloc ?_ _) | (with_reducible refine Gr.drewN ?_ _) | (with_reducible refine Gr.drew ?_) | (with_reducible refine Gr.grown ?_ _ _) | (with_reducible refine Gr.setCell ?_ (by first | omega | (simp; omega) | simp) _) | (with_reducible refine Gr.trans ?_ (by with_reducible assumption)))⟩
  · have N : Hid (0 = Gd.endN o d s) := by unfold Gd.endN; rw [if_neg (fun h => he h.1)]; rfl
    have E : Hid (Ck.inE o d s 2120 = Gd.endE o d s) := by unfold Gd.endE; rw [if_neg he]; rfl
    have hb : (Ck.inE o d s 2120 != 0) = true := by simpa using he
    clear he
    go_enter Try.func24, Try.ntmps24
    go_wp2_with (first | (go_at_call 25; refine (send_any _ _ _ _).mono ?_; rintro e w' ⟨rfl, hn⟩; (first | have hg' := Gr.trans hg hn | have hg' := Gr.trans (Gr.alloc hg _) hn | have hg' := Gr.trans (Gr.drewN hg _) hn | have hg' := Gr.trans (Gr.alloc (Gr.alloc hg _) _) hn | have hg' := hn); (try clear hr hf hr2 hf2 hz hz2); (try clear hg); have hg := hg'; clear hg'; have hr := hg.rules.1; have hf := hg.rules.2; have hr2 := hn.rules.1; have hf2 := hn.rules.2; have hz := hg.size; (try simp only [World.size_alloc] at hz); have hz2 := hn.size; (try simp only [World.size_alloc] at hz2); (try clear hy1); (try clear hy2); (try clear hy3); (try have hy1 : w.heap.size < w'.heap.size := by omega); (try have hy2 : w.heap.size + 1 < w'.heap.size := by omega); (try have hy3 : w.heap.size + 1 + 1 < w'.heap.size := by omega); clear hn))
    go_ret2
    exact ⟨ret_int2 N.out E.out, by repeat (first | (with_reducible exact Gr.refl _) | (with_reducible assumption) | (with_reducible refine Gr.alloc ?_ _) | (with_reducible refine Gr.drewN ?_ _) | (with_reducible refine Gr.drew ?_) | (with_reducible refine Gr.grown ?_ _ _) | (with_reducible refine Gr.setCell ?_ (by first | omega | (simp; omega) | simp) _) | (with_reducible refine Gr.trans ?_ (by with_reducible assumption)))⟩

set_option maxHeartbeats 400000 in
theorem arrival_ok (oa da ob db s : Int) (he : Ck.inE oa da s 2120 = 0) (w : World) :
    Calls Try.prog 51 #[.agg #[.int .i64 oa, .int .i64 da], .agg #[.int .i64 ob, .int .i64 db], .int .i64 s] w fun e w' => e = .returned (.tuple #[.int .i64 (Ck.inN oa da s 2120), .int .i64 (Ck.winF ob db s), .int .i64 (Ck.winT ob db s), .int .i64 (Ck.winE ob db s)]) ∧ Gr w w' := by
  go_enter Try.func51, Try.ntmps51
  go_wp2_with (first | (go_at_call 25; refine (send_any _ _ _ _).mono ?_; rintro e w' ⟨rfl, hn⟩; (first | have hg' := Gr.trans hg hn | have hg' := Gr.trans (Gr.alloc hg _) hn | have hg' := Gr.trans (Gr.drewN hg _) hn | have hg' := Gr.trans (Gr.alloc (Gr.alloc hg _) _) hn | have hg' := hn); (try clear hr hf hr2 hf2 hz hz2); (try clear hg); have hg := hg'; clear hg'; have hr := hg.rules.1; have hf := hg.rules.2; have hr2 := hn.rules.1; have hf2 := hn.rules.2; have hz := hg.size; (try simp only [World.size_alloc] at hz); have hz2 := hn.size; (try simp only [World.size_alloc] at hz2); (try clear hy1); (try clear hy2); (try clear hy3); (try have hy1 : w.heap.size < w'.heap.size := by omega); (try have hy2 : w.heap.size + 1 < w'.heap.size := by omega); (try have hy3 : w.heap.size + 1 + 1 < w'.heap.size := by omega); clear hn) | (go_at_call 58; refine (window_any _ _ _ _).mono ?_; rintro e w' ⟨rfl, hn⟩; (first | have hg' := Gr.trans hg hn | have hg' := Gr.trans (Gr.alloc hg _) hn | have hg' := Gr.trans (Gr.drewN hg _) hn | have hg' := Gr.trans (Gr.alloc (Gr.alloc hg _) _) hn | have hg' := hn); (try clear hr hf hr2 hf2 hz hz2); (try clear hg); have hg := hg'; clear hg'; have hr := hg.rules.1; have hf := hg.rules.2; have hr2 := hn.rules.1; have hf2 := hn.rules.2; have hz := hg.size; (try simp only [World.size_alloc] at hz); have hz2 := hn.size; (try simp only [World.size_alloc] at hz2); (try clear hy1); (try clear hy2); (try clear hy3); (try have hy1 : w.heap.size < w'.heap.size := by omega); (try have hy2 : w.heap.size + 1 < w'.heap.size := by omega); (try have hy3 : w.heap.size + 1 + 1 < w'.heap.size := by omega); clear hn))
  refine bodyPost_ret (results_tmp4 rfl _ _ _) rfl ?_
  exact ⟨rfl, by repeat (first | (with_reducible exact Gr.refl _) | (with_reducible assumption) | (with_reducible refine Gr.alloc ?_ _) | (with_reducible refine Gr.drewN ?_ _) | (with_reducible refine Gr.drew ?_) | (with_reducible refine Gr.grown ?_ _ _) | (with_reducible refine Gr.setCell ?_ (by first | omega | (simp; omega) | simp) _) | (with_reducible refine Gr.trans ?_ (by with_reducible assumption)))⟩

set_option maxHeartbeats 400000 in
theorem arrival_no (oa da ob db s : Int) (he : Ck.inE oa da s 2120 ≠ 0) (w : World) :
    Calls Try.prog 51 #[.agg #[.int .i64 oa, .int .i64 da], .agg #[.int .i64 ob, .int .i64 db], .int .i64 s] w fun e w' => e = .returned (.tuple #[.int .i64 0, .int .i64 0, .int .i64 0, .int .i64 (Ck.inE oa da s 2120)]) ∧ Gr w w' := by
  have hb : (Ck.inE oa da s 2120 != 0) = true := by simpa using he
  clear he
  go_enter Try.func51, Try.ntmps51
  go_wp2_with (first | (go_at_call 25; refine (send_any _ _ _ _).mono ?_; rintro e w' ⟨rfl, hn⟩; (first | have hg' := Gr.trans hg hn | have hg' := Gr.trans (Gr.alloc hg _) hn | have hg' := Gr.trans (Gr.drewN hg _) hn | have hg' := Gr.trans (Gr.alloc (Gr.alloc hg _) _) hn | have hg' := hn); (try clear hr hf hr2 hf2 hz hz2); (try clear hg); have hg := hg'; clear hg'; have hr := hg.rules.1; have hf := hg.rules.2; have hr2 := hn.rules.1; have hf2 := hn.rules.2; have hz := hg.size; (try simp only [World.size_alloc] at hz); have hz2 := hn.size; (try simp only [World.size_alloc] at hz2); (try clear hy1); (try clear hy2); (try clear hy3); (try have hy1 : w.heap.size < w'.heap.size := by omega); (try have hy2 : w.heap.size + 1 < w'.heap.size := by omega); (try have hy3 : w.heap.size + 1 + 1 < w'.heap.size := by omega); clear hn))
  refine bodyPost_ret (results_tmp4 rfl _ _ _) rfl ?_
  exact ⟨rfl, by repeat (first | (with_reducible exact Gr.refl _) | (with_reducible assumption) | (with_reducible refine Gr.alloc ?_ _) | (with_reducible refine Gr.drewN ?_ _) | (with_reducible refine Gr.drew ?_) | (with_reducible refine Gr.grown ?_ _ _) | (with_reducible refine Gr.setCell ?_ (by first | omega | (simp; omega) | simp) _) | (with_reducible refine Gr.trans ?_ (by with_reducible assumption)))⟩

theorem ret_bi {k : IntKind} {a b : Bool} {c d : Int} (h : a = b) (h' : c = d) : Ending.returned (.tuple #[.bool a, .int k c]) = .returned (.tuple #[.bool b, .int k d]) := by rw [h, h']

set_option maxHeartbeats 400000 in
theorem Fits_any (oa da ob db s : Int) (w : World) :
    Calls Try.prog 30 #[.agg #[.int .i64 oa, .int .i64 da], .agg #[.int .i64 ob, .int .i64 db], .int .i64 s] w fun e w' => e = .returned (.tuple #[.bool (Gd.fitB oa da ob db s), .int .i64 (Gd.arrE oa da ob db s)]) ∧ Gr w w' := by
  by_cases he : Ck.inE oa da s 2120 = 0
  · have E : Hid (Ck.winE ob db s = Gd.arrE oa da ob db s) := by unfold Gd.arrE; rw [if_pos he]; rfl
    have B : Hid (decide (Ck.winE ob db s = 0 ∧ Ck.winF ob db s ≤ Ck.inN oa da s 2120 ∧ Ck.inN oa da s 2120 ≤ Ck.winT ob db s) = Gd.fitB oa da ob db s) := by unfold Gd.fitB; rw [E.out]; rfl
    by_cases hw : Ck.winE ob db s = 0
    · by_cases h1 : Ck.winF ob db s ≤ Ck.inN oa da s 2120
      all_goals
        go_enter Try.func30, Try.ntmps30
        go_wp2_with (first | (go_at_call 51; refine (arrival_ok _ _ _ _ _ he _).mono ?_; rintro e w' ⟨rfl, hn⟩; (first | have hg' := Gr.trans hg hn | have hg' := Gr.trans (Gr.alloc hg _) hn | have hg' := Gr.trans (Gr.drewN hg _) hn | have hg' := Gr.trans (Gr.alloc (Gr.alloc hg _) _) hn | have hg' := hn); (try clear hr hf hr2 hf2 hz hz2); (try clear hg); have hg := hg'; clear hg'; have hr := hg.rules.1; have hf := hg.rules.2; have hr2 := hn.rules.1; have hf2 := hn.rules.2; have hz := hg.size; (try simp only [World.size_alloc] at hz); have hz2 := hn.size; (try simp only [World.size_alloc] at hz2); (try clear hy1); (try clear hy2); (try clear hy3); (try have hy1 : w.heap.size < w'.heap.size := by omega); (try have hy2 : w.heap.size + 1 < w'.heap.size := by omega); (try have hy3 : w.heap.size + 1 + 1 < w'.heap.size := by omega); clear hn))
        all_goals go_ret2
        all_goals exact ⟨ret_bi (by rw [← B.out]; simp [*] <;> omega) (by first | exact E.out | (rw [← hw]; exact E.out)), by repeat (first | (with_reducible exact Gr.refl _) | (with_reducible assumption) | (with_reducible refine Gr.alloc ?_ _) | (with_reducible refine Gr.drewN ?_ _) | (with_reducible refine Gr.drew ?_) | (with_reducible refine Gr.grown ?_ _ _) | (with_reducible refine Gr.setCell ?_ (by first | omega | (simp; omega) | simp) _) | (with_reducible refine Gr.trans ?_ (by with_reducible assumption)))⟩
    · have hb : (Ck.winE ob db s == 0) = false := by simpa using hw
      go_enter Try.func30, Try.ntmps30
      go_wp2_with (first | (go_at_call 51; refine (arrival_ok _ _ _ _ _ he _).mono ?_; rintro e w' ⟨rfl, hn⟩; (first | have hg' := Gr.trans hg hn | have hg' := Gr.trans (Gr.alloc hg _) hn | have hg' := Gr.trans (Gr.drewN hg _) hn | have hg' := Gr.trans (Gr.alloc (Gr.alloc hg _) _) hn | have hg' := hn); (try clear hr hf hr2 hf2 hz hz2); (try clear hg); have hg := hg'; clear hg'; have hr := hg.rules.1; have hf := hg.rules.2; have hr2 := hn.rules.1; have hf2 := hn.rules.2; have hz := hg.size; (try simp only [World.size_alloc] at hz); have hz2 := hn.size; (try simp only [World.size_alloc] at hz2); (try clear hy1); (try clear hy2); (try clear hy3); (try have hy1 : w.heap.size < w'.heap.size := by omega); (try have hy2 : w.heap.size + 1 < w'.heap.size := by omega); (try have hy3 : w.heap.size + 1 + 1 < w'.heap.size := by omega); clear hn))
      go_ret2
      exact ⟨ret_bi (by rw [← B.out]; simp [hw]) E.out, by repeat (first | (with_reducible exact Gr.refl _) | (with_reducible assumption) | (with_reducible refine Gr.alloc ?_ _) | (with_reducible refine Gr.drewN ?_ _) | (with_reducible refine Gr.drew ?_) | (with_reducible refine Gr.grown ?_ _ _) | (with_reducible refine Gr.setCell ?_ (by first | omega | (simp; omega) | simp) _) | (with_reducible refine Gr.trans ?_ (by with_reducible assumption)))⟩
  · have E : Hid (Ck.inE oa da s 2120 = Gd.arrE oa da ob db s) := by unfold Gd.arrE; rw [if_neg he]; rfl
    have B : Hid (false = Gd.fitB oa da ob db s) := by unfold Gd.fitB; rw [← E.out]; exact (decide_eq_false (fun h => he h.1)).symm
    have hb : (Ck.inE oa da s 2120 == 0) = false := by simpa using he
    go_enter Try.func30, Try.ntmps30
    go_wp2_with (first | (go_at_call 51; refine (arrival_no _ _ _ _ _ he _).mono ?_; rintro e w' ⟨rfl, hn⟩; (first | have hg' := Gr.trans hg hn | have hg' := Gr.trans (Gr.alloc hg _) hn | have hg' := Gr.trans (Gr.drewN hg _) hn | have hg' := Gr.trans (Gr.alloc (Gr.alloc hg _) _) hn | have hg' := hn); (try clear hr hf hr2 hf2 hz hz2); (try clear hg); have hg := hg'; clear hg'; have hr := hg.rules.1; have hf := hg.rules.2; have hr2 := hn.rules.1; have hf2 := hn.rules.2; have hz := hg.size; (try simp only [World.size_alloc] at hz); have hz2 := hn.size; (try simp only [World.size_alloc] at hz2); (try clear hy1); (try clear hy2); (try clear hy3); (try have hy1 : w.heap.size < w'.heap.size := by omega); (try have hy2 : w.heap.size + 1 < w'.heap.size := by omega); (try have hy3 : w.heap.size + 1 + 1 < w'.heap.size := by omega); clear hn))
    go_ret2
    exact ⟨ret_bi B.out E.out, by repeat (first | (with_reducible exact Gr.refl _) | (with_reducible assumption) | (with_reducible refine Gr.alloc ?_ _) | (with_reducible refine Gr.drewN ?_ _) | (with_reducible refine Gr.drew ?_) | (with_reducible refine Gr.grown ?_ _ _) | (with_reducible refine Gr.setCell ?_ (by first | omega | (simp; omega) | simp) _) | (with_reducible refine Gr.trans ?_ (by with_reducible assumption)))⟩

set_option maxHeartbeats 400000 in
theorem Late_any (oa da ob db s : Int) (w : World) :
    Calls Try.prog 32 #[.agg #[.int .i64 oa, .int .i64 da], .agg #[.int .i64 ob, .int .i64 db], .int .i64 s] w fun e w' => e = .returned (.tuple #[.int .i64 (Gd.latN oa da ob db s), .int .i64 (Gd.arrE oa da ob db s)]) ∧ Gr w w' := by
  by_cases he : Ck.inE oa da s 2120 = 0
  · have E : Hid (Ck.winE ob db s = Gd.arrE oa da ob db s) := by unfold Gd.arrE; rw [if_pos he]; rfl
    obtain ⟨n0, n1⟩ := in_bd he
    by_cases hw : Ck.winE ob db s = 0
    · obtain ⟨hs, hx, -, -⟩ := win_ok hw
      obtain ⟨v, s0, s1⟩ := slot_valid hs
      have hsh := Ck.show_ok (Ck.chk_ok v) n0 n1
      obtain ⟨m1, m2⟩ := hsh
      obtain ⟨b1, b2⟩ := Ck.sh_bd ob db _ v n0 n1
      have N : Hid (Ck.sh ob db (Ck.inN oa da s 2120) - (s * 10000 + 2120) = Gd.latN oa da ob db s) := by unfold Gd.latN; rw [if_pos (by rw [← E.out]; exact hw)]; rfl
      have E2 : Hid (0 = Gd.arrE oa da ob db s) := by rw [← E.out]; exact hw.symm
      clear hs hx v
      go_enter Try.func32, Try.ntmps32
      go_wp2_with (first | (go_at_call 51; refine (arrival_ok _ _ _ _ _ he _).mono ?_; rintro e w' ⟨rfl, hn⟩; (first | have hg' := Gr.trans hg hn | have hg' := Gr.trans (Gr.alloc hg _) hn | have hg' := Gr.trans (Gr.drewN hg _) hn | have hg' := Gr.trans (Gr.alloc (Gr.alloc hg _) _) hn | have hg' := hn); (try clear hr hf hr2 hf2 hz hz2); (try clear hg); have hg := hg'; clear hg'; have hr := hg.rules.1; have hf := hg.rules.2; have hr2 := hn.rules.1; have hf2 := hn.rules.2; have hz := hg.size; (try simp only [World.size_alloc] at hz); have hz2 := hn.size; (try simp only [World.size_alloc] at hz2); (try clear hy1); (try clear hy2); (try clear hy3); (try have hy1 : w.heap.size < w'.heap.size := by omega); (try have hy2 : w.heap.size + 1 < w'.heap.size := by omega); (try have hy3 : w.heap.size + 1 + 1 < w'.heap.size := by omega); clear hn) | (go_at_call 23; refine (show_any _ _ _ _).mono ?_; rintro e w' ⟨rfl, hn⟩; (first | have hg' := Gr.trans hg hn | have hg' := Gr.trans (Gr.alloc hg _) hn | have hg' := Gr.trans (Gr.drewN hg _) hn | have hg' := Gr.trans (Gr.alloc (Gr.alloc hg _) _) hn | have hg' := hn); (try clear hr hf hr2 hf2 hz hz2); (try clear hg); have hg := hg'; clear hg'; have hr := hg.rules.1; have hf := hg.rules.2; have hr2 := hn.rules.1; have hf2 := hn.rules.2; have hz := hg.size; (try simp only [World.size_alloc] at hz); have hz2 := hn.size; (try simp only [World.size_alloc] at hz2); (try clear hy1); (try clear hy2); (try clear hy3); (try have hy1 : w.heap.size < w'.heap.size := by omega); (try have hy2 : w.heap.size + 1 < w'.heap.size := by omega); (try have hy3 : w.heap.size + 1 + 1 < w'.heap.size := by omega); clear hn))
      go_ret2
      exact ⟨ret_int2 N.out E2.out, by repeat (first | (with_reducible exact Gr.refl _) | (with_reducible assumption) | (with_reducible refine Gr.alloc ?_ _) | (with_reducible refine Gr.drewN ?_ _) | (with_reducible refine Gr.drew ?_) | (with_reducible refine Gr.grown ?_ _ _) | (with_reducible refine Gr.setCell ?_ (by first | omega | (simp; omega) | simp) _) | (with_reducible refine Gr.trans ?_ (by with_reducible assumption)))⟩
    · have hb : (Ck.winE ob db s != 0) = true := by simpa using hw
      have N : Hid (0 = Gd.latN oa da ob db s) := by unfold Gd.latN; rw [if_neg (by rw [← E.out]; exact hw)]; rfl
      clear hw
      go_enter Try.func32, Try.ntmps32
      go_wp2_with (first | (go_at_call 51; refine (arrival_ok _ _ _ _ _ he _).mono ?_; rintro e w' ⟨rfl, hn⟩; (first | have hg' := Gr.trans hg hn | have hg' := Gr.trans (Gr.alloc hg _) hn | have hg' := Gr.trans (Gr.drewN hg _) hn | have hg' := Gr.trans (Gr.alloc (Gr.alloc hg _) _) hn | have hg' := hn); (try clear hr hf hr2 hf2 hz hz2); (try clear hg); have hg := hg'; clear hg'; have hr := hg.rules.1; have hf := hg.rules.2; have hr2 := hn.rules.1; have hf2 := hn.rules.2; have hz := hg.size; (try simp only [World.size_alloc] at hz); have hz2 := hn.size; (try simp only [World.size_alloc] at hz2); (try clear hy1); (try clear hy2); (try clear hy3); (try have hy1 : w.heap.size < w'.heap.size := by omega); (try have hy2 : w.heap.size + 1 < w'.heap.size := by omega); (try have hy3 : w.heap.size + 1 + 1 < w'.heap.size := by omega); clear hn))
      go_ret2
      exact ⟨ret_int2 N.out E.out, by repeat (first | (with_reducible exact Gr.refl _) | (with_reducible assumption) | (with_reducible refine Gr.alloc ?_ _) | (with_reducible refine Gr.drewN ?_ _) | (with_reducible refine Gr.drew ?_) | (with_reducible refine Gr.grown ?_ _ _) | (with_reducible refine Gr.setCell ?_ (by first | omega | (simp; omega) | simp) _) | (with_reducible refine Gr.trans ?_ (by with_reducible assumption)))⟩
  · have E : Hid (Ck.inE oa da s 2120 = Gd.arrE oa da ob db s) := by unfold Gd.arrE; rw [if_neg he]; rfl
    have hb : (Ck.inE oa da s 2120 != 0) = true := by simpa using he
    have N : Hid (0 = Gd.latN oa da ob db s) := by unfold Gd.latN; rw [if_neg (by rw [← E.out]; exact he)]; rfl
    go_enter Try.func32, Try.ntmps32
    go_wp2_with (first | (go_at_call 51; refine (arrival_no _ _ _ _ _ he _).mono ?_; rintro e w' ⟨rfl, hn⟩; (first | have hg' := Gr.trans hg hn | have hg' := Gr.trans (Gr.alloc hg _) hn | have hg' := Gr.trans (Gr.drewN hg _) hn | have hg' := Gr.trans (Gr.alloc (Gr.alloc hg _) _) hn | have hg' := hn); (try clear hr hf hr2 hf2 hz hz2); (try clear hg); have hg := hg'; clear hg'; have hr := hg.rules.1; have hf := hg.rules.2; have hr2 := hn.rules.1; have hf2 := hn.rules.2; have hz := hg.size; (try simp only [World.size_alloc] at hz); have hz2 := hn.size; (try simp only [World.size_alloc] at hz2); (try clear hy1); (try clear hy2); (try clear hy3); (try have hy1 : w.heap.size < w'.heap.size := by omega); (try have hy2 : w.heap.size + 1 < w'.heap.size := by omega); (try have hy3 : w.heap.size + 1 + 1 < w'.heap.size := by omega); clear hn))
    go_ret2
    exact ⟨ret_int2 N.out E.out, by repeat (first | (with_reducible exact Gr.refl _) | (with_reducible assumption) | (with_reducible refine Gr.alloc ?_ _) | (with_reducible refine Gr.drewN ?_ _) | (with_reducible refine Gr.drew ?_) | (with_reducible refine Gr.grown ?_ _ _) | (with_reducible refine Gr.setCell ?_ (by first | omega | (simp; omega) | simp) _) | (with_reducible refine Gr.trans ?_ (by with_reducible assumption)))⟩
end Go.Proofs.Ythpcngglehgfjaa
