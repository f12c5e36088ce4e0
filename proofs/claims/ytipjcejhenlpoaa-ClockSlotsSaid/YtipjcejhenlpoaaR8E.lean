/- The contracts of the reference's Show, Begin, Slot and Apart. -/
import Derived.Test.YtipjcejhenlpoaaR8B
import Derived.Test.YtipjcejhenlpoaaClkE
import Derived.Test.YtipjcejhenlpoaaClkC
namespace Go.Proofs.Ytipjcejhenlpoaa
open Go.RowKit Go.Sort

set_option maxHeartbeats 400000 in
theorem rshow_any (o d t : Int) (w : World) :
    Calls Try.prog 14 #[.agg #[.int .i64 o, .int .i64 d], .int .i64 t] w fun e w' => e = .returned (.tuple #[.int .i64 (Ck.showN o d t), .int .i64 (Ck.showE o d t)]) ∧ Gr w w' := by
  rcases Ck.show_ways o d t with ⟨v, h0, h1, na, ea, ca⟩ | ⟨v, h0, na, ea, ca⟩ | ⟨v, na, ea, ca⟩
  · have hb : decide (0 ≤ t ∧ t ≤ 1099511627776) = true := by simp; omega
    go_enter Try.func14, Try.ntmps14
    go_wp2_with (first | (go_at_call 19; refine (rcheck_any _ _ _).mono ?_; rintro e w' ⟨rfl, hn⟩; (first | have hg' := Gr.trans hg hn | have hg' := Gr.trans (Gr.alloc hg _) hn | have hg' := Gr.trans (Gr.drewN hg _) hn | have hg' := Gr.trans (Gr.alloc (Gr.alloc hg _) _) hn | have hg' := hn); (try clear hr hf hr2 hf2 hz); (try clear hg); have hg := hg'; clear hg'; have hr := hg.rules.1; have hf := hg.rules.2; have hr2 := hn.rules.1; have hf2 := hn.rules.2; have hz := hn.size; clear hn) | (go_at_call 32; refine (rtime_any _ _).mono ?_; rintro e w' ⟨rfl, rfl⟩) | (go_at_call 33; refine (rat_any _ _ _ (by omega) (by omega) v _).mono ?_; rintro e w' ⟨rfl, hn⟩; (first | have hg' := Gr.trans hg hn | have hg' := Gr.trans (Gr.alloc hg _) hn | have hg' := Gr.trans (Gr.drewN hg _) hn | have hg' := Gr.trans (Gr.alloc (Gr.alloc hg _) _) hn | have hg' := hn); (try clear hr hf hr2 hf2 hz); (try clear hg); have hg := hg'; clear hg'; have hr := hg.rules.1; have hf := hg.rules.2; have hr2 := hn.rules.1; have hf2 := hn.rules.2; have hz := hn.size; clear hn))
    go_ret2
    exact ⟨ret_int2 na.symm ea.symm, by repeat (first | (with_reducible exact Gr.refl _) | (with_reducible assumption) | (with_reducible refine Gr.alloc ?_ _) | (with_reducible refine Gr.drewN ?_ _) | (with_reducible refine Gr.drew ?_) | (with_reducible refine Gr.grown ?_ _ _) | (with_reducible refine Gr.setCell ?_ (by first | omega | (simp; omega) | simp) _) | (with_reducible refine Gr.trans ?_ (by with_reducible assumption)))⟩
  · have hb : decide (0 ≤ t ∧ t ≤ 1099511627776) = false := by simp; omega
    clear h0
    go_enter Try.func14, Try.ntmps14
    go_wp2_with (first | (go_at_call 19; refine (rcheck_any _ _ _).mono ?_; rintro e w' ⟨rfl, hn⟩; (first | have hg' := Gr.trans hg hn | have hg' := Gr.trans (Gr.alloc hg _) hn | have hg' := Gr.trans (Gr.drewN hg _) hn | have hg' := Gr.trans (Gr.alloc (Gr.alloc hg _) _) hn | have hg' := hn); (try clear hr hf hr2 hf2 hz); (try clear hg); have hg := hg'; clear hg'; have hr := hg.rules.1; have hf := hg.rules.2; have hr2 := hn.rules.1; have hf2 := hn.rules.2; have hz := hn.size; clear hn) | (go_at_call 32; refine (rtime_any _ _).mono ?_; rintro e w' ⟨rfl, rfl⟩))
    go_ret2
    exact ⟨ret_int2 na.symm ea.symm, by repeat (first | (with_reducible exact Gr.refl _) | (with_reducible assumption) | (with_reducible refine Gr.alloc ?_ _) | (with_reducible refine Gr.drewN ?_ _) | (with_reducible refine Gr.drew ?_) | (with_reducible refine Gr.grown ?_ _ _) | (with_reducible refine Gr.setCell ?_ (by first | omega | (simp; omega) | simp) _) | (with_reducible refine Gr.trans ?_ (by with_reducible assumption)))⟩
  · go_enter Try.func14, Try.ntmps14
    go_wp2_with (first | (go_at_call 19; refine (rcheck_any _ _ _).mono ?_; rintro e w' ⟨rfl, hn⟩; (first | have hg' := Gr.trans hg hn | have hg' := Gr.trans (Gr.alloc hg _) hn | have hg' := Gr.trans (Gr.drewN hg _) hn | have hg' := Gr.trans (Gr.alloc (Gr.alloc hg _) _) hn | have hg' := hn); (try clear hr hf hr2 hf2 hz); (try clear hg); have hg := hg'; clear hg'; have hr := hg.rules.1; have hf := hg.rules.2; have hr2 := hn.rules.1; have hf2 := hn.rules.2; have hz := hn.size; clear hn))
    go_ret2
    exact ⟨ret_int2 na.symm ea.symm, by repeat (first | (with_reducible exact Gr.refl _) | (with_reducible assumption) | (with_reducible refine Gr.alloc ?_ _) | (with_reducible refine Gr.drewN ?_ _) | (with_reducible refine Gr.drew ?_) | (with_reducible refine Gr.grown ?_ _ _) | (with_reducible refine Gr.setCell ?_ (by first | omega | (simp; omega) | simp) _) | (with_reducible refine Gr.trans ?_ (by with_reducible assumption)))⟩

set_option maxHeartbeats 400000 in
theorem rbegin_any (o d s : Int) (w : World) :
    Calls Try.prog 21 #[.agg #[.int .i64 o, .int .i64 d], .int .i64 s] w fun e w' => e = .returned (.tuple #[.int .i64 (Ck.inN o d s 0), .int .i64 (Ck.inE o d s 0)]) ∧ Gr w w' := by
  go_enter Try.func21, Try.ntmps21
  go_wp2_with (first | (go_at_call 35; refine (rin_any _ _ _ _ (by omega) (by omega) _).mono ?_; rintro e w' ⟨rfl, hn⟩; (first | have hg' := Gr.trans hg hn | have hg' := Gr.trans (Gr.alloc hg _) hn | have hg' := Gr.trans (Gr.drewN hg _) hn | have hg' := Gr.trans (Gr.alloc (Gr.alloc hg _) _) hn | have hg' := hn); (try clear hr hf hr2 hf2 hz); (try clear hg); have hg := hg'; clear hg'; have hr := hg.rules.1; have hf := hg.rules.2; have hr2 := hn.rules.1; have hf2 := hn.rules.2; have hz := hn.size; clear hn))
  go_ret2
  exact ⟨rfl, by repeat (first | (with_reducible exact Gr.refl _) | (with_reducible assumption) | (with_reducible refine Gr.alloc ?_ _) | (with_reducible refine Gr.drewN ?_ _) | (with_reducible refine Gr.drew ?_) | (with_reducible refine Gr.grown ?_ _ _) | (with_reducible refine Gr.setCell ?_ (by first | omega | (simp; omega) | simp) _) | (with_reducible refine Gr.trans ?_ (by with_reducible assumption)))⟩

set_option maxHeartbeats 400000 in
theorem rslot_any (o d t : Int) (w : World) :
    Calls Try.prog 17 #[.agg #[.int .i64 o, .int .i64 d], .int .i64 t] w fun e w' => e = .returned (.tuple #[.int .i64 (Ck.sloN o d t), .int .i64 (Ck.sloE o d t)]) ∧ Gr w w' := by
  obtain ⟨sb1, sb2⟩ := showN_bd o d t
  by_cases he : Ck.showE o d t = 0
  · by_cases hn : 0 ≤ Ck.showN o d t
    · have hN : Hid (Ck.showN o d t / 10000 = Ck.sloN o d t) := by unfold Ck.sloN; rw [if_pos ⟨he, hn⟩]; rfl
      have hE : Hid (0 = Ck.sloE o d t) := by unfold Ck.sloE; rw [if_pos he, if_pos hn]; rfl
      go_enter Try.func17, Try.ntmps17
      go_wp2_with (first | (go_at_call 14; refine (rshow_any _ _ _ _).mono ?_; rintro e w' ⟨rfl, hn⟩; (first | have hg' := Gr.trans hg hn | have hg' := Gr.trans (Gr.alloc hg _) hn | have hg' := Gr.trans (Gr.drewN hg _) hn | have hg' := Gr.trans (Gr.alloc (Gr.alloc hg _) _) hn | have hg' := hn); (try clear hr hf hr2 hf2 hz); (try clear hg); have hg := hg'; clear hg'; have hr := hg.rules.1; have hf := hg.rules.2; have hr2 := hn.rules.1; have hf2 := hn.rules.2; have hz := hn.size; clear hn))
      go_ret2
      exact ⟨ret_int2 hN.out hE.out, by repeat (first | (with_reducible exact Gr.refl _) | (with_reducible assumption) | (with_reducible refine Gr.alloc ?_ _) | (with_reducible refine Gr.drewN ?_ _) | (with_reducible refine Gr.drew ?_) | (with_reducible refine Gr.grown ?_ _ _) | (with_reducible refine Gr.setCell ?_ (by first | omega | (simp; omega) | simp) _) | (with_reducible refine Gr.trans ?_ (by with_reducible assumption)))⟩
    · have hN : Hid (0 = Ck.sloN o d t) := by unfold Ck.sloN; rw [if_neg (fun h => hn h.2)]; rfl
      have hE : Hid (14 = Ck.sloE o d t) := by unfold Ck.sloE; rw [if_pos he, if_neg hn]; rfl
      go_enter Try.func17, Try.ntmps17
      go_wp2_with (first | (go_at_call 14; refine (rshow_any _ _ _ _).mono ?_; rintro e w' ⟨rfl, hn⟩; (first | have hg' := Gr.trans hg hn | have hg' := Gr.trans (Gr.alloc hg _) hn | have hg' := Gr.trans (Gr.drewN hg _) hn | have hg' := Gr.trans (Gr.alloc (Gr.alloc hg _) _) hn | have hg' := hn); (try clear hr hf hr2 hf2 hz); (try clear hg); have hg := hg'; clear hg'; have hr := hg.rules.1; have hf := hg.rules.2; have hr2 := hn.rules.1; have hf2 := hn.rules.2; have hz := hn.size; clear hn))
      go_ret2
      exact ⟨ret_int2 hN.out hE.out, by repeat (first | (with_reducible exact Gr.refl _) | (with_reducible assumption) | (with_reducible refine Gr.alloc ?_ _) | (with_reducible refine Gr.drewN ?_ _) | (with_reducible refine Gr.drew ?_) | (with_reducible refine Gr.grown ?_ _ _) | (with_reducible refine Gr.setCell ?_ (by first | omega | (simp; omega) | simp) _) | (with_reducible refine Gr.trans ?_ (by with_reducible assumption)))⟩
  · have hN : Hid (0 = Ck.sloN o d t) := by unfold Ck.sloN; rw [if_neg (fun h => he h.1)]; rfl
    have hE : Hid (Ck.showE o d t = Ck.sloE o d t) := by unfold Ck.sloE; rw [if_neg he]; rfl
    have hb : (Ck.showE o d t != 0) = true := by simpa using he
    clear he
    go_enter Try.func17, Try.ntmps17
    go_wp2_with (first | (go_at_call 14; refine (rshow_any _ _ _ _).mono ?_; rintro e w' ⟨rfl, hn⟩; (first | have hg' := Gr.trans hg hn | have hg' := Gr.trans (Gr.alloc hg _) hn | have hg' := Gr.trans (Gr.drewN hg _) hn | have hg' := Gr.trans (Gr.alloc (Gr.alloc hg _) _) hn | have hg' := hn); (try clear hr hf hr2 hf2 hz); (try clear hg); have hg := hg'; clear hg'; have hr := hg.rules.1; have hf := hg.rules.2; have hr2 := hn.rules.1; have hf2 := hn.rules.2; have hz := hn.size; clear hn))
    go_ret2
    exact ⟨ret_int2 hN.out hE.out, by repeat (first | (with_reducible exact Gr.refl _) | (with_reducible assumption) | (with_reducible refine Gr.alloc ?_ _) | (with_reducible refine Gr.drewN ?_ _) | (with_reducible refine Gr.drew ?_) | (with_reducible refine Gr.grown ?_ _ _) | (with_reducible refine Gr.setCell ?_ (by first | omega | (simp; omega) | simp) _) | (with_reducible refine Gr.trans ?_ (by with_reducible assumption)))⟩

set_option maxHeartbeats 1000000 in
theorem rapart_any (oa da ob db t : Int) (w : World) :
    Calls Try.prog 29 #[.agg #[.int .i64 oa, .int .i64 da], .agg #[.int .i64 ob, .int .i64 db], .int .i64 t] w fun e w' => e = .returned (.tuple #[.int .i64 (Ck.apaN oa da ob db t), .int .i64 (Ck.apaE oa da ob db t)]) ∧ Gr w w' := by
  rcases Ck.chk_01 oa da with ⟨ca, va⟩ | ⟨ca, va⟩
  · rcases Ck.chk_01 ob db with ⟨cb, vb⟩ | ⟨cb, vb⟩
    · by_cases ht : 0 ≤ t ∧ t ≤ 1099511627776
      · obtain ⟨h0, h1⟩ := ht
        have HA := Lib.hid (Ck.apa_ok (t := t) ca cb h0 h1)
        obtain ⟨ba1, ba2⟩ := show_bds va h0 h1
        obtain ⟨bb1, bb2⟩ := show_bds vb h0 h1
        have hb : decide (0 ≤ t ∧ t ≤ 1099511627776) = true := by simp; omega
        go_enter Try.func29, Try.ntmps29
        go_wp2_with (first | (go_at_call 19; refine (rcheck_any _ _ _).mono ?_; rintro e w' ⟨rfl, hn⟩; (first | have hg' := Gr.trans hg hn | have hg' := Gr.trans (Gr.alloc hg _) hn | have hg' := Gr.trans (Gr.drewN hg _) hn | have hg' := Gr.trans (Gr.alloc (Gr.alloc hg _) _) hn | have hg' := hn); (try clear hr hf hr2 hf2 hz); (try clear hg); have hg := hg'; clear hg'; have hr := hg.rules.1; have hf := hg.rules.2; have hr2 := hn.rules.1; have hf2 := hn.rules.2; have hz := hn.size; clear hn) | (go_at_call 32; refine (rtime_any _ _).mono ?_; rintro e w' ⟨rfl, rfl⟩) | (go_at_call 33; refine (rat_any _ _ _ (by omega) (by omega) (by assumption) _).mono ?_; rintro e w' ⟨rfl, hn⟩; (first | have hg' := Gr.trans hg hn | have hg' := Gr.trans (Gr.alloc hg _) hn | have hg' := Gr.trans (Gr.drewN hg _) hn | have hg' := Gr.trans (Gr.alloc (Gr.alloc hg _) _) hn | have hg' := hn); (try clear hr hf hr2 hf2 hz); (try clear hg); have hg := hg'; clear hg'; have hr := hg.rules.1; have hf := hg.rules.2; have hr2 := hn.rules.1; have hf2 := hn.rules.2; have hz := hn.size; clear hn))
        have q0 := fun n os => cell_grown (w := w') (a := ⟨w.heap.size, 0, none⟩) (v := .int .i64 oa) (by have := hg.size; simp at this; simp; omega) (by rw [hr _ _ (by simp; omega)]; go_simp) n os
        have q1 := fun n os => cell_grown (w := w') (a := ⟨w.heap.size, 1, none⟩) (v := .int .i64 da) (by have := hg.size; simp at this; simp; omega) (by rw [hr _ _ (by simp; omega)]; go_simp) n os
        have q2 := fun n os => cell_grown (w := w') (a := ⟨w.heap.size + 1, 0, none⟩) (v := .int .i64 ob) (by have := hg.size; simp at this; simp; omega) (by rw [hr _ _ (by simp)]; go_simp) n os
        have q3 := fun n os => cell_grown (w := w') (a := ⟨w.heap.size + 1, 1, none⟩) (v := .int .i64 db) (by have := hg.size; simp at this; simp; omega) (by rw [hr _ _ (by simp)]; go_simp) n os
        clear hr hf hr2 hf2
        have mixed : Try.prog.follows .mixedOrders = true := by kernel_rfl
        go_quiet_grown ((go_at_call 33; exact Calls.grown_of (rat_any _ _ _ (by omega) (by omega) (by assumption) _)))
        go_wp2
        go_ret2
        exact ⟨ret_int2 (by rw [IntWalk.i64_in _ (by omega)]; exact HA.out.1.symm) HA.out.2.symm, by repeat (first | (with_reducible exact Gr.refl _) | (with_reducible assumption) | (with_reducible refine Gr.alloc ?_ _) | (with_reducible refine Gr.drewN ?_ _) | (with_reducible refine Gr.drew ?_) | (with_reducible refine Gr.grown ?_ _ _) | (with_reducible refine Gr.setCell ?_ (by first | omega | (simp; omega) | simp) _) | (with_reducible refine Gr.trans ?_ (by with_reducible assumption)))⟩
      · have HA := Lib.hid (Ck.apa_out (t := t) ca cb ht)
        have hb : decide (0 ≤ t ∧ t ≤ 1099511627776) = false := by simp; omega
        clear ht
        go_enter Try.func29, Try.ntmps29
        go_wp2_with (first | (go_at_call 19; refine (rcheck_any _ _ _).mono ?_; rintro e w' ⟨rfl, hn⟩; (first | have hg' := Gr.trans hg hn | have hg' := Gr.trans (Gr.alloc hg _) hn | have hg' := Gr.trans (Gr.drewN hg _) hn | have hg' := Gr.trans (Gr.alloc (Gr.alloc hg _) _) hn | have hg' := hn); (try clear hr hf hr2 hf2 hz); (try clear hg); have hg := hg'; clear hg'; have hr := hg.rules.1; have hf := hg.rules.2; have hr2 := hn.rules.1; have hf2 := hn.rules.2; have hz := hn.size; clear hn) | (go_at_call 32; refine (rtime_any _ _).mono ?_; rintro e w' ⟨rfl, rfl⟩))
        go_ret2
        exact ⟨ret_int2 HA.out.1.symm HA.out.2.symm, by repeat (first | (with_reducible exact Gr.refl _) | (with_reducible assumption) | (with_reducible refine Gr.alloc ?_ _) | (with_reducible refine Gr.drewN ?_ _) | (with_reducible refine Gr.drew ?_) | (with_reducible refine Gr.grown ?_ _ _) | (with_reducible refine Gr.setCell ?_ (by first | omega | (simp; omega) | simp) _) | (with_reducible refine Gr.trans ?_ (by with_reducible assumption)))⟩
    · have HA := Lib.hid (Ck.apa_bad (oa := oa) (da := da) (ob := ob) (db := db) (t := t) (fun h => by have := h.2; omega))
      go_enter Try.func29, Try.ntmps29
      go_wp2_with (first | (go_at_call 19; refine (rcheck_any _ _ _).mono ?_; rintro e w' ⟨rfl, hn⟩; (first | have hg' := Gr.trans hg hn | have hg' := Gr.trans (Gr.alloc hg _) hn | have hg' := Gr.trans (Gr.drewN hg _) hn | have hg' := Gr.trans (Gr.alloc (Gr.alloc hg _) _) hn | have hg' := hn); (try clear hr hf hr2 hf2 hz); (try clear hg); have hg := hg'; clear hg'; have hr := hg.rules.1; have hf := hg.rules.2; have hr2 := hn.rules.1; have hf2 := hn.rules.2; have hz := hn.size; clear hn))
      go_ret2
      exact ⟨ret_int2 HA.out.1.symm HA.out.2.symm, by repeat (first | (with_reducible exact Gr.refl _) | (with_reducible assumption) | (with_reducible refine Gr.alloc ?_ _) | (with_reducible refine Gr.drewN ?_ _) | (with_reducible refine Gr.drew ?_) | (with_reducible refine Gr.grown ?_ _ _) | (with_reducible refine Gr.setCell ?_ (by first | omega | (simp; omega) | simp) _) | (with_reducible refine Gr.trans ?_ (by with_reducible assumption)))⟩
  · have HA := Lib.hid (Ck.apa_bad (oa := oa) (da := da) (ob := ob) (db := db) (t := t) (fun h => by have := h.1; omega))
    go_enter Try.func29, Try.ntmps29
    go_wp2_with (first | (go_at_call 19; refine (rcheck_any _ _ _).mono ?_; rintro e w' ⟨rfl, hn⟩; (first | have hg' := Gr.trans hg hn | have hg' := Gr.trans (Gr.alloc hg _) hn | have hg' := Gr.trans (Gr.drewN hg _) hn | have hg' := Gr.trans (Gr.alloc (Gr.alloc hg _) _) hn | have hg' := hn); (try clear hr hf hr2 hf2 hz); (try clear hg); have hg := hg'; clear hg'; have hr := hg.rules.1; have hf := hg.rules.2; have hr2 := hn.rules.1; have hf2 := hn.rules.2; have hz := hn.size; clear hn))
    go_ret2
    exact ⟨ret_int2 HA.out.1.symm HA.out.2.symm, by repeat (first | (with_reducible exact Gr.refl _) | (with_reducible assumption) | (with_reducible refine Gr.alloc ?_ _) | (with_reducible refine Gr.drewN ?_ _) | (with_reducible refine Gr.drew ?_) | (with_reducible refine Gr.grown ?_ _ _) | (with_reducible refine Gr.setCell ?_ (by first | omega | (simp; omega) | simp) _) | (with_reducible refine Gr.trans ?_ (by with_reducible assumption)))⟩
end Go.Proofs.Ytipjcejhenlpoaa
