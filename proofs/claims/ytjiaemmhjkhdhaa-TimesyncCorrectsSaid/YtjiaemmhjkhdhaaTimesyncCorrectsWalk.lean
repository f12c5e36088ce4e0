/- The walk of TimesyncCorrects: the Go text returns true. -/
import Derived.Test.YtjiaemmhjkhdhaaTmsAwake
namespace Go.Proofs.Ytjiaemmhjkhdhaa.timesyncCorrects
open Go.RowKit Go.Sort
set_option linter.unusedVariables false

set_option maxHeartbeats 4000000 in
set_option maxRecDepth 100000 in
theorem walk (o d s c slot t n : Int) (wo : (Lit.int .i64 o).wf = true) (wd : (Lit.int .i64 d).wf = true) (ws : (Lit.int .i64 s).wf = true) (wc : (Lit.int .i64 c).wf = true) (wslot : (Lit.int .i64 slot).wf = true) (wt : (Lit.int .i64 t).wf = true) (wn : (Lit.int .i64 n).wf = true) (w : World) :
    Calls Try.prog 3 #[.agg #[.int .i64 o, .int .i64 d, .int .i64 s, .int .i64 c], .agg #[.int .i64 slot, .int .i64 t, .int .i64 n]] w fun e w' => e = .returned (.bool true) ∧ Gr w w' := by
  have ws1 := wslot
  simp [Lit.wf, IntKind.min, IntKind.max, IntKind.signed, IntKind.bits] at ws1
  obtain ⟨ws2, ws3⟩ := ws1
  have ws4 : -9223372036854775808 ≤ slot := by omega
  have ws5 : slot ≤ 9223372036854775807 := by omega
  clear ws2 ws3
  generalize hq : Ts.hear o d s c slot t = q
  generalize hr' : Ts.ack o d s c slot n = r
  have HQ := Lib.hid hq
  have HR := Lib.hid hr'
  clear hq hr'
  go_enter Try.func3, Try.ntmps3
  go_wp2_with (first | (go_at_call 10; refine (awake_any _).mono ?_; rintro e w' ⟨rfl, hn⟩; (first | have hg' := Gr.trans hg hn | have hg' := Gr.trans (Gr.alloc hg _) hn | have hg' := Gr.trans (Gr.drewN hg _) hn | have hg' := Gr.trans (Gr.alloc (Gr.alloc hg _) _) hn | have hg' := hn); (try clear hr hf hr2 hf2 hz hz2); (try clear hg); have hg := hg'; clear hg'; have hr := hg.rules.1; have hf := hg.rules.2; have hr2 := hn.rules.1; have hf2 := hn.rules.2; have hz := hg.size; (try simp only [World.size_alloc] at hz); have hz2 := hn.size; (try simp only [World.size_alloc] at hz2); (try clear hy1); (try clear hy2); (try clear hy3); (try have hy1 : w.heap.size < w'.heap.size := by omega); (try have hy2 : w.heap.size + 1 < w'.heap.size := by omega); (try have hy3 : w.heap.size + 1 + 1 < w'.heap.size := by omega); clear hn))
  go_quiet (fail)
  go_wp2_with (first | (go_at_call 11; refine (measure_any _ _ _ _ _).mono ?_; rintro e w' ⟨rfl, hn⟩; (first | have hg' := Gr.trans hg hn | have hg' := Gr.trans (Gr.alloc hg _) hn | have hg' := Gr.trans (Gr.drewN hg _) hn | have hg' := Gr.trans (Gr.alloc (Gr.alloc hg _) _) hn | have hg' := hn); (try clear hr hf hr2 hf2 hz hz2); (try clear hg); have hg := hg'; clear hg'; have hr := hg.rules.1; have hf := hg.rules.2; have hr2 := hn.rules.1; have hf2 := hn.rules.2; have hz := hg.size; (try simp only [World.size_alloc] at hz); have hz2 := hn.size; (try simp only [World.size_alloc] at hz2); (try clear hy1); (try clear hy2); (try clear hy3); (try have hy1 : w.heap.size < w'.heap.size := by omega); (try have hy2 : w.heap.size + 1 < w'.heap.size := by omega); (try have hy3 : w.heap.size + 1 + 1 < w'.heap.size := by omega); clear hn) | (go_at_call 12; refine (rmeasure_any _ _ _ _ _).mono ?_; rintro e w' ⟨rfl, hn⟩; (first | have hg' := Gr.trans hg hn | have hg' := Gr.trans (Gr.alloc hg _) hn | have hg' := Gr.trans (Gr.drewN hg _) hn | have hg' := Gr.trans (Gr.alloc (Gr.alloc hg _) _) hn | have hg' := hn); (try clear hr hf hr2 hf2 hz hz2); (try clear hg); have hg := hg'; clear hg'; have hr := hg.rules.1; have hf := hg.rules.2; have hr2 := hn.rules.1; have hf2 := hn.rules.2; have hz := hg.size; (try simp only [World.size_alloc] at hz); have hz2 := hn.size; (try simp only [World.size_alloc] at hz2); (try clear hy1); (try clear hy2); (try clear hy3); (try have hy1 : w.heap.size < w'.heap.size := by omega); (try have hy2 : w.heap.size + 1 < w'.heap.size := by omega); (try have hy3 : w.heap.size + 1 + 1 < w'.heap.size := by omega); clear hn))
  refine (hear_any _ _ _ _ _ _ _).mono ?_
  rw [HQ.out]
  rintro e w4 ⟨rfl, g4⟩
  have G4 := hg.trans g4
  clear hr hf hr2 hf2 hz hz2 hy1 hy2 g4
  have z4 := G4.size
  simp only [World.size_alloc] at z4
  have hr := G4.rules.1
  have y4 : w.heap.size < w4.heap.size := by omega
  go_wp2_with fail
  refine (rhear_any _ _ _ _ _ _ _).mono ?_
  rw [HQ.out]
  rintro e w5 ⟨rfl, g5⟩
  have G5 := (Gr.alloc G4 _).trans g5
  have z5 := g5.size
  simp only [World.size_alloc] at z5
  clear hr
  have hr := G5.rules.1
  have y5 : w.heap.size < w5.heap.size := by omega
  go_wp2_with fail
  refine (acked_any _ _ _ _ _ _ _).mono ?_
  rw [HR.out]
  rintro e w6 ⟨rfl, g6⟩
  have G6 := (Gr.alloc G5 _).trans g6
  have A6 := (Gr.alloc g5 _).trans g6
  have z6 := g6.size
  simp only [World.size_alloc] at z6
  clear hr
  have hr := G6.rules.1
  have y6 : w.heap.size < w6.heap.size := by omega
  go_wp2_with fail
  refine (racked_any _ _ _ _ _ _ _).mono ?_
  rw [HR.out]
  rintro e w7 ⟨rfl, g7⟩
  have G7 := (Gr.alloc G6 _).trans g7
  have A7 := (Gr.alloc A6 _).trans g7
  have B7 := (Gr.alloc g6 _).trans g7
  have z7 := g7.size
  simp only [World.size_alloc] at z7
  clear hr
  have y7 : w.heap.size < w7.heap.size := by omega
  have y8 : w4.heap.size < w7.heap.size := by omega
  have y9 : w5.heap.size < w7.heap.size := by omega
  have y10 : w6.heap.size < w7.heap.size := by omega
  have s0 : w7.cell? ⟨w.heap.size, 0, none⟩ = some (.int .i64 o) := Eq.trans (Gr.cell G7 (by first | (simp; done) | (simp; omega) | omega)) (by go_simp); have s1 : w7.cell? ⟨w.heap.size, 1, none⟩ = some (.int .i64 d) := Eq.trans (Gr.cell G7 (by first | (simp; done) | (simp; omega) | omega)) (by go_simp); have s2 : w7.cell? ⟨w.heap.size, 2, none⟩ = some (.int .i64 s) := Eq.trans (Gr.cell G7 (by first | (simp; done) | (simp; omega) | omega)) (by go_simp); have s3 : w7.cell? ⟨w.heap.size, 3, none⟩ = some (.int .i64 c) := Eq.trans (Gr.cell G7 (by first | (simp; done) | (simp; omega) | omega)) (by go_simp)
  have a0 : w7.cell? ⟨w4.heap.size, 0, none⟩ = some (.int .i64 q.o) := Eq.trans (Gr.cell A7 (by first | (simp; done) | (simp; omega) | omega)) (by go_simp); have a1 : w7.cell? ⟨w4.heap.size, 1, none⟩ = some (.int .i64 q.d) := Eq.trans (Gr.cell A7 (by first | (simp; done) | (simp; omega) | omega)) (by go_simp); have a2 : w7.cell? ⟨w4.heap.size, 2, none⟩ = some (.int .i64 q.s) := Eq.trans (Gr.cell A7 (by first | (simp; done) | (simp; omega) | omega)) (by go_simp); have a3 : w7.cell? ⟨w4.heap.size, 3, none⟩ = some (.int .i64 q.c) := Eq.trans (Gr.cell A7 (by first | (simp; done) | (simp; omega) | omega)) (by go_simp)
  have b0 : w7.cell? ⟨w5.heap.size, 0, none⟩ = some (.int .i64 q.o) := Eq.trans (Gr.cell B7 (by first | (simp; done) | (simp; omega) | omega)) (by go_simp); have b1 : w7.cell? ⟨w5.heap.size, 1, none⟩ = some (.int .i64 q.d) := Eq.trans (Gr.cell B7 (by first | (simp; done) | (simp; omega) | omega)) (by go_simp); have b2 : w7.cell? ⟨w5.heap.size, 2, none⟩ = some (.int .i64 q.s) := Eq.trans (Gr.cell B7 (by first | (simp; done) | (simp; omega) | omega)) (by go_simp); have b3 : w7.cell? ⟨w5.heap.size, 3, none⟩ = some (.int .i64 q.c) := Eq.trans (Gr.cell B7 (by first | (simp; done) | (simp; omega) | omega)) (by go_simp)
  have u0 : w7.cell? ⟨w6.heap.size, 0, none⟩ = some (.int .i64 r.o) := Eq.trans (Gr.cell g7 (by first | (simp; done) | (simp; omega) | omega)) (by go_simp); have u1 : w7.cell? ⟨w6.heap.size, 1, none⟩ = some (.int .i64 r.d) := Eq.trans (Gr.cell g7 (by first | (simp; done) | (simp; omega) | omega)) (by go_simp); have u2 : w7.cell? ⟨w6.heap.size, 2, none⟩ = some (.int .i64 r.s) := Eq.trans (Gr.cell g7 (by first | (simp; done) | (simp; omega) | omega)) (by go_simp); have u3 : w7.cell? ⟨w6.heap.size, 3, none⟩ = some (.int .i64 r.c) := Eq.trans (Gr.cell g7 (by first | (simp; done) | (simp; omega) | omega)) (by go_simp)
  have GW : Gr w w7 := by repeat (first | (with_reducible exact Gr.refl _) | (with_reducible assumption) | (with_reducible refine Gr.alloc ?_ _) | (with_reducible refine Gr.drewN ?_ _) | (with_reducible refine Gr.drew ?_) | (with_reducible refine Gr.grown ?_ _ _) | (with_reducible refine Gr.setCell ?_ (by first | omega | (simp; omega) | simp) _) | (with_reducible refine Gr.trans ?_ (by with_reducible assumption)))
  clear G4 G5 G6 G7 A6 A7 B7 g5 g6 g7 y4 y5 y6
  go_wp2_with fail
  have gs0 := fun n os => cell_grown (w := w7.alloc (Obj.cells #[.int .i64 r.o, .int .i64 r.d, .int .i64 r.s, .int .i64 r.c] 25)) (a := ⟨w.heap.size, 0, none⟩) (v := .int .i64 o) (by first | (simp; done) | (simp; omega)) (by go_simp) n os
  have gs1 := fun n os => cell_grown (w := w7.alloc (Obj.cells #[.int .i64 r.o, .int .i64 r.d, .int .i64 r.s, .int .i64 r.c] 25)) (a := ⟨w.heap.size, 1, none⟩) (v := .int .i64 d) (by first | (simp; done) | (simp; omega)) (by go_simp) n os
  have gs2 := fun n os => cell_grown (w := w7.alloc (Obj.cells #[.int .i64 r.o, .int .i64 r.d, .int .i64 r.s, .int .i64 r.c] 25)) (a := ⟨w.heap.size, 2, none⟩) (v := .int .i64 s) (by first | (simp; done) | (simp; omega)) (by go_simp) n os
  have gs3 := fun n os => cell_grown (w := w7.alloc (Obj.cells #[.int .i64 r.o, .int .i64 r.d, .int .i64 r.s, .int .i64 r.c] 25)) (a := ⟨w.heap.size, 3, none⟩) (v := .int .i64 c) (by first | (simp; done) | (simp; omega)) (by go_simp) n os
  have ga0 := fun n os => cell_grown (w := w7.alloc (Obj.cells #[.int .i64 r.o, .int .i64 r.d, .int .i64 r.s, .int .i64 r.c] 25)) (a := ⟨w4.heap.size, 0, none⟩) (v := .int .i64 q.o) (by first | (simp; done) | (simp; omega)) (by go_simp) n os
  have ga1 := fun n os => cell_grown (w := w7.alloc (Obj.cells #[.int .i64 r.o, .int .i64 r.d, .int .i64 r.s, .int .i64 r.c] 25)) (a := ⟨w4.heap.size, 1, none⟩) (v := .int .i64 q.d) (by first | (simp; done) | (simp; omega)) (by go_simp) n os
  have ga2 := fun n os => cell_grown (w := w7.alloc (Obj.cells #[.int .i64 r.o, .int .i64 r.d, .int .i64 r.s, .int .i64 r.c] 25)) (a := ⟨w4.heap.size, 2, none⟩) (v := .int .i64 q.s) (by first | (simp; done) | (simp; omega)) (by go_simp) n os
  have ga3 := fun n os => cell_grown (w := w7.alloc (Obj.cells #[.int .i64 r.o, .int .i64 r.d, .int .i64 r.s, .int .i64 r.c] 25)) (a := ⟨w4.heap.size, 3, none⟩) (v := .int .i64 q.c) (by first | (simp; done) | (simp; omega)) (by go_simp) n os
  have gb0 := fun n os => cell_grown (w := w7.alloc (Obj.cells #[.int .i64 r.o, .int .i64 r.d, .int .i64 r.s, .int .i64 r.c] 25)) (a := ⟨w5.heap.size, 0, none⟩) (v := .int .i64 q.o) (by first | (simp; done) | (simp; omega)) (by go_simp) n os
  have gb1 := fun n os => cell_grown (w := w7.alloc (Obj.cells #[.int .i64 r.o, .int .i64 r.d, .int .i64 r.s, .int .i64 r.c] 25)) (a := ⟨w5.heap.size, 1, none⟩) (v := .int .i64 q.d) (by first | (simp; done) | (simp; omega)) (by go_simp) n os
  have gb2 := fun n os => cell_grown (w := w7.alloc (Obj.cells #[.int .i64 r.o, .int .i64 r.d, .int .i64 r.s, .int .i64 r.c] 25)) (a := ⟨w5.heap.size, 2, none⟩) (v := .int .i64 q.s) (by first | (simp; done) | (simp; omega)) (by go_simp) n os
  have gb3 := fun n os => cell_grown (w := w7.alloc (Obj.cells #[.int .i64 r.o, .int .i64 r.d, .int .i64 r.s, .int .i64 r.c] 25)) (a := ⟨w5.heap.size, 3, none⟩) (v := .int .i64 q.c) (by first | (simp; done) | (simp; omega)) (by go_simp) n os
  have gu0 := fun n os => cell_grown (w := w7.alloc (Obj.cells #[.int .i64 r.o, .int .i64 r.d, .int .i64 r.s, .int .i64 r.c] 25)) (a := ⟨w6.heap.size, 0, none⟩) (v := .int .i64 r.o) (by first | (simp; done) | (simp; omega)) (by go_simp) n os
  have gu1 := fun n os => cell_grown (w := w7.alloc (Obj.cells #[.int .i64 r.o, .int .i64 r.d, .int .i64 r.s, .int .i64 r.c] 25)) (a := ⟨w6.heap.size, 1, none⟩) (v := .int .i64 r.d) (by first | (simp; done) | (simp; omega)) (by go_simp) n os
  have gu2 := fun n os => cell_grown (w := w7.alloc (Obj.cells #[.int .i64 r.o, .int .i64 r.d, .int .i64 r.s, .int .i64 r.c] 25)) (a := ⟨w6.heap.size, 2, none⟩) (v := .int .i64 r.s) (by first | (simp; done) | (simp; omega)) (by go_simp) n os
  have gu3 := fun n os => cell_grown (w := w7.alloc (Obj.cells #[.int .i64 r.o, .int .i64 r.d, .int .i64 r.s, .int .i64 r.c] 25)) (a := ⟨w6.heap.size, 3, none⟩) (v := .int .i64 r.c) (by first | (simp; done) | (simp; omega)) (by go_simp) n os
  have gv0 := fun n os => cell_grown (w := w7.alloc (Obj.cells #[.int .i64 r.o, .int .i64 r.d, .int .i64 r.s, .int .i64 r.c] 25)) (a := ⟨w7.heap.size, 0, none⟩) (v := .int .i64 r.o) (by first | (simp; done) | (simp; omega)) (by go_simp) n os
  have gv1 := fun n os => cell_grown (w := w7.alloc (Obj.cells #[.int .i64 r.o, .int .i64 r.d, .int .i64 r.s, .int .i64 r.c] 25)) (a := ⟨w7.heap.size, 1, none⟩) (v := .int .i64 r.d) (by first | (simp; done) | (simp; omega)) (by go_simp) n os
  have gv2 := fun n os => cell_grown (w := w7.alloc (Obj.cells #[.int .i64 r.o, .int .i64 r.d, .int .i64 r.s, .int .i64 r.c] 25)) (a := ⟨w7.heap.size, 2, none⟩) (v := .int .i64 r.s) (by first | (simp; done) | (simp; omega)) (by go_simp) n os
  have gv3 := fun n os => cell_grown (w := w7.alloc (Obj.cells #[.int .i64 r.o, .int .i64 r.d, .int .i64 r.s, .int .i64 r.c] 25)) (a := ⟨w7.heap.size, 3, none⟩) (v := .int .i64 r.c) (by first | (simp; done) | (simp; omega)) (by go_simp) n os
  clear s0 s1 s2 s3 a0 a1 a2 a3 b0 b1 b2 b3 u0 u1 u2 u3
  have mixed : Try.prog.follows .mixedOrders = true := by kernel_rfl
  go_quiet_grown ((first | (go_at_call 17; exact Calls.grown_of (tcheck_any _ _ _ _ _)) | (go_at_call 18; exact Calls.grown_of (rtcheck_any _ _ _ _ _)) | (go_at_call 19; exact Calls.grown_of (synchronized_any _ _ _ _ _ _ ws4 ws5 _)) | (go_at_call 20; exact Calls.grown_of (rsynchronized_any _ _ _ _ _ _ ws4 ws5 _))))
  go_wp2
  go_ret
  exact ⟨by first | rfl | simp, by repeat (first | (with_reducible exact Gr.refl _) | (with_reducible assumption) | (with_reducible refine Gr.alloc ?_ _) | (with_reducible refine Gr.drewN ?_ _) | (with_reducible refine Gr.drew ?_) | (with_reducible refine Gr.grown ?_ _ _) | (with_reducible refine Gr.setCell ?_ (by first | omega | (simp; omega) | simp) _) | (with_reducible refine Gr.trans ?_ (by with_reducible assumption)))⟩
end Go.Proofs.Ytjiaemmhjkhdhaa.timesyncCorrects
