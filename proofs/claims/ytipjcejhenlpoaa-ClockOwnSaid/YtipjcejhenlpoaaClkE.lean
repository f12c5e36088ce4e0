/- The contracts of clock.Reach, clock.Begin and clock.Slot. -/
import Derived.Test.YtipjcejhenlpoaaClkB
namespace Go.Proofs.Ytipjcejhenlpoaa
open Go.RowKit Go.Sort

set_option maxHeartbeats 400000 in
theorem Reach_any (o d x : Int) (w : World) :
    Calls Try.prog 13 #[.agg #[.int .i64 o, .int .i64 d], .int .i64 x] w fun e w' => e = .returned (.tuple #[.int .i64 (Ck.rchN o d x), .int .i64 (Ck.rchE o d x)]) ∧ Gr w w' := by
  rcases Ck.chk_01 o d with ⟨hc, v⟩ | ⟨hc, v⟩
  · have hN : Hid (Ck.reachN o d x = Ck.rchN o d x) := by unfold Ck.rchN; rw [if_pos hc]; rfl
    have hE : Hid (Ck.reachE o d x = Ck.rchE o d x) := by unfold Ck.rchE; rw [if_pos hc]; rfl
    obtain ⟨o1, o2, d1, d2⟩ := v
    go_enter Try.func13, Try.ntmps13
    go_wp2_with (first | (go_at_call 18; refine (check_any _ _ _).mono ?_; rintro e w' ⟨rfl, hn⟩; (first | have hg' := Gr.trans hg hn | have hg' := Gr.trans (Gr.alloc hg _) hn | have hg' := Gr.trans (Gr.drewN hg _) hn | have hg' := Gr.trans (Gr.alloc (Gr.alloc hg _) _) hn | have hg' := hn); (try clear hr hf hr2 hf2 hz); (try clear hg); have hg := hg'; clear hg'; have hr := hg.rules.1; have hf := hg.rules.2; have hr2 := hn.rules.1; have hf2 := hn.rules.2; have hz := hn.size; clear hn) | (go_at_call 30; refine (of_any _ _ _).mono ?_; rintro e w' ⟨rfl, ⟨c0, c1⟩, hz, hg⟩) | (go_at_call 31; refine (reach_any o d x _ o1 o2 d1 d2 _ c0 c1 hz).mono ?_; rintro e w' ⟨rfl, hg2⟩))
    go_ret2
    exact ⟨ret_int2 hN.out hE.out, by repeat (first | (with_reducible exact Gr.refl _) | (with_reducible assumption) | (with_reducible refine Gr.alloc ?_ _) | (with_reducible refine Gr.drewN ?_ _) | (with_reducible refine Gr.drew ?_) | (with_reducible refine Gr.grown ?_ _ _) | (with_reducible refine Gr.setCell ?_ (by first | omega | (simp; omega) | simp) _) | (with_reducible refine Gr.trans ?_ (by with_reducible assumption)))⟩
  · have hN : Hid (0 = Ck.rchN o d x) := by unfold Ck.rchN; rw [if_neg (by rw [hc]; decide)]; rfl
    have hE : Hid (1 = Ck.rchE o d x) := by unfold Ck.rchE; rw [if_neg (by rw [hc]; decide)]; rfl
    go_enter Try.func13, Try.ntmps13
    go_wp2_with (first | (go_at_call 18; refine (check_any _ _ _).mono ?_; rintro e w' ⟨rfl, hn⟩; (first | have hg' := Gr.trans hg hn | have hg' := Gr.trans (Gr.alloc hg _) hn | have hg' := Gr.trans (Gr.drewN hg _) hn | have hg' := Gr.trans (Gr.alloc (Gr.alloc hg _) _) hn | have hg' := hn); (try clear hr hf hr2 hf2 hz); (try clear hg); have hg := hg'; clear hg'; have hr := hg.rules.1; have hf := hg.rules.2; have hr2 := hn.rules.1; have hf2 := hn.rules.2; have hz := hn.size; clear hn))
    go_ret2
    exact ⟨ret_int2 hN.out hE.out, by repeat (first | (with_reducible exact Gr.refl _) | (with_reducible assumption) | (with_reducible refine Gr.alloc ?_ _) | (with_reducible refine Gr.drewN ?_ _) | (with_reducible refine Gr.drew ?_) | (with_reducible refine Gr.grown ?_ _ _) | (with_reducible refine Gr.setCell ?_ (by first | omega | (simp; omega) | simp) _) | (with_reducible refine Gr.trans ?_ (by with_reducible assumption)))⟩

set_option maxHeartbeats 400000 in
theorem begin_any (o d s : Int) (w : World) :
    Calls Try.prog 20 #[.agg #[.int .i64 o, .int .i64 d], .int .i64 s] w fun e w' => e = .returned (.tuple #[.int .i64 (Ck.inN o d s 0), .int .i64 (Ck.inE o d s 0)]) ∧ Gr w w' := by
  by_cases hs : Ck.slotE o d s = 0
  · obtain ⟨v, s0, s1⟩ := slot_valid hs
    have hN : Hid (Ck.reachN o d (s * 10000) = Ck.inN o d s 0) := by unfold Ck.inN; rw [if_pos hs, Int.add_zero]; rfl
    have hE : Hid (Ck.reachE o d (s * 10000) = Ck.inE o d s 0) := by unfold Ck.inE; rw [if_pos hs, Int.add_zero]; rfl
    obtain ⟨o1, o2, d1, d2⟩ := v
    go_enter Try.func20, Try.ntmps20
    go_wp2_with (first | (go_at_call 34; refine (slot_any _ _ _ _).mono ?_; rintro e w' ⟨rfl, hn⟩; (first | have hg' := Gr.trans hg hn | have hg' := Gr.trans (Gr.alloc hg _) hn | have hg' := Gr.trans (Gr.drewN hg _) hn | have hg' := Gr.trans (Gr.alloc (Gr.alloc hg _) _) hn | have hg' := hn); (try clear hr hf hr2 hf2 hz); (try clear hg); have hg := hg'; clear hg'; have hr := hg.rules.1; have hf := hg.rules.2; have hr2 := hn.rules.1; have hf2 := hn.rules.2; have hz := hn.size; clear hn) | (go_at_call 30; refine (of_any _ _ _).mono ?_; rintro e w' ⟨rfl, ⟨c0, c1⟩, hz, hg⟩) | (go_at_call 31; refine (reach_any o d _ _ o1 o2 d1 d2 _ c0 c1 hz).mono ?_; rintro e w' ⟨rfl, hg2⟩))
    go_ret2
    exact ⟨ret_int2 hN.out hE.out, by repeat (first | (with_reducible exact Gr.refl _) | (with_reducible assumption) | (with_reducible refine Gr.alloc ?_ _) | (with_reducible refine Gr.drewN ?_ _) | (with_reducible refine Gr.drew ?_) | (with_reducible refine Gr.grown ?_ _ _) | (with_reducible refine Gr.setCell ?_ (by first | omega | (simp; omega) | simp) _) | (with_reducible refine Gr.trans ?_ (by with_reducible assumption)))⟩
  · have hN : Hid (0 = Ck.inN o d s 0) := by unfold Ck.inN; rw [if_neg hs]; rfl
    have hE : Hid (Ck.slotE o d s = Ck.inE o d s 0) := by unfold Ck.inE; rw [if_neg hs]; rfl
    have hb : (Ck.slotE o d s != 0) = true := by simpa using hs
    clear hs
    go_enter Try.func20, Try.ntmps20
    go_wp2_with (first | (go_at_call 34; refine (slot_any _ _ _ _).mono ?_; rintro e w' ⟨rfl, hn⟩; (first | have hg' := Gr.trans hg hn | have hg' := Gr.trans (Gr.alloc hg _) hn | have hg' := Gr.trans (Gr.drewN hg _) hn | have hg' := Gr.trans (Gr.alloc (Gr.alloc hg _) _) hn | have hg' := hn); (try clear hr hf hr2 hf2 hz); (try clear hg); have hg := hg'; clear hg'; have hr := hg.rules.1; have hf := hg.rules.2; have hr2 := hn.rules.1; have hf2 := hn.rules.2; have hz := hn.size; clear hn))
    go_ret2
    exact ⟨ret_int2 hN.out hE.out, by repeat (first | (with_reducible exact Gr.refl _) | (with_reducible assumption) | (with_reducible refine Gr.alloc ?_ _) | (with_reducible refine Gr.drewN ?_ _) | (with_reducible refine Gr.drew ?_) | (with_reducible refine Gr.grown ?_ _ _) | (with_reducible refine Gr.setCell ?_ (by first | omega | (simp; omega) | simp) _) | (with_reducible refine Gr.trans ?_ (by with_reducible assumption)))⟩

theorem showN_bd (o d t : Int) : -1099621578939 ≤ Ck.showN o d t ∧ Ck.showN o d t ≤ 2199133206715 := by
  rcases Ck.show_ways o d t with ⟨va, h0, h1, na, ea, ca⟩ | ⟨va, h0, na, ea, ca⟩ | ⟨va, na, ea, ca⟩
  · rw [na]; exact Ck.sh_bd o d t va h0 h1
  · omega
  · omega

set_option maxHeartbeats 400000 in
theorem tslot_any (o d t : Int) (w : World) :
    Calls Try.prog 16 #[.agg #[.int .i64 o, .int .i64 d], .int .i64 t] w fun e w' => e = .returned (.tuple #[.int .i64 (Ck.sloN o d t), .int .i64 (Ck.sloE o d t)]) ∧ Gr w w' := by
  obtain ⟨sb1, sb2⟩ := showN_bd o d t
  by_cases he : Ck.showE o d t = 0
  · by_cases hn : 0 ≤ Ck.showN o d t
    · have hN : Hid (Ck.showN o d t / 10000 = Ck.sloN o d t) := by unfold Ck.sloN; rw [if_pos ⟨he, hn⟩]; rfl
      have hE : Hid (0 = Ck.sloE o d t) := by unfold Ck.sloE; rw [if_pos he, if_pos hn]; rfl
      go_enter Try.func16, Try.ntmps16
      go_wp2_with (first | (go_at_call 12; refine (show_any _ _ _ _).mono ?_; rintro e w' ⟨rfl, hn⟩; (first | have hg' := Gr.trans hg hn | have hg' := Gr.trans (Gr.alloc hg _) hn | have hg' := Gr.trans (Gr.drewN hg _) hn | have hg' := Gr.trans (Gr.alloc (Gr.alloc hg _) _) hn | have hg' := hn); (try clear hr hf hr2 hf2 hz); (try clear hg); have hg := hg'; clear hg'; have hr := hg.rules.1; have hf := hg.rules.2; have hr2 := hn.rules.1; have hf2 := hn.rules.2; have hz := hn.size; clear hn))
      go_ret2
      exact ⟨ret_int2 hN.out hE.out, by repeat (first | (with_reducible exact Gr.refl _) | (with_reducible assumption) | (with_reducible refine Gr.alloc ?_ _) | (with_reducible refine Gr.drewN ?_ _) | (with_reducible refine Gr.drew ?_) | (with_reducible refine Gr.grown ?_ _ _) | (with_reducible refine Gr.setCell ?_ (by first | omega | (simp; omega) | simp) _) | (with_reducible refine Gr.trans ?_ (by with_reducible assumption)))⟩
    · have hN : Hid (0 = Ck.sloN o d t) := by unfold Ck.sloN; rw [if_neg (fun h => hn h.2)]; rfl
      have hE : Hid (14 = Ck.sloE o d t) := by unfold Ck.sloE; rw [if_pos he, if_neg hn]; rfl
      go_enter Try.func16, Try.ntmps16
      go_wp2_with (first | (go_at_call 12; refine (show_any _ _ _ _).mono ?_; rintro e w' ⟨rfl, hn⟩; (first | have hg' := Gr.trans hg hn | have hg' := Gr.trans (Gr.alloc hg _) hn | have hg' := Gr.trans (Gr.drewN hg _) hn | have hg' := Gr.trans (Gr.alloc (Gr.alloc hg _) _) hn | have hg' := hn); (try clear hr hf hr2 hf2 hz); (try clear hg); have hg := hg'; clear hg'; have hr := hg.rules.1; have hf := hg.rules.2; have hr2 := hn.rules.1; have hf2 := hn.rules.2; have hz := hn.size; clear hn))
      go_ret2
      exact ⟨ret_int2 hN.out hE.out, by repeat (first | (with_reducible exact Gr.refl _) | (with_reducible assumption) | (with_reducible refine Gr.alloc ?_ _) | (with_reducible refine Gr.drewN ?_ _) | (with_reducible refine Gr.drew ?_) | (with_reducible refine Gr.grown ?_ _ _) | (with_reducible refine Gr.setCell ?_ (by first | omega | (simp; omega) | simp) _) | (with_reducible refine Gr.trans ?_ (by with_reducible assumption)))⟩
  · have hN : Hid (0 = Ck.sloN o d t) := by unfold Ck.sloN; rw [if_neg (fun h => he h.1)]; rfl
    have hE : Hid (Ck.showE o d t = Ck.sloE o d t) := by unfold Ck.sloE; rw [if_neg he]; rfl
    have hb : (Ck.showE o d t != 0) = true := by simpa using he
    clear he
    go_enter Try.func16, Try.ntmps16
    go_wp2_with (first | (go_at_call 12; refine (show_any _ _ _ _).mono ?_; rintro e w' ⟨rfl, hn⟩; (first | have hg' := Gr.trans hg hn | have hg' := Gr.trans (Gr.alloc hg _) hn | have hg' := Gr.trans (Gr.drewN hg _) hn | have hg' := Gr.trans (Gr.alloc (Gr.alloc hg _) _) hn | have hg' := hn); (try clear hr hf hr2 hf2 hz); (try clear hg); have hg := hg'; clear hg'; have hr := hg.rules.1; have hf := hg.rules.2; have hr2 := hn.rules.1; have hf2 := hn.rules.2; have hz := hn.size; clear hn))
    go_ret2
    exact ⟨ret_int2 hN.out hE.out, by repeat (first | (with_reducible exact Gr.refl _) | (with_reducible assumption) | (with_reducible refine Gr.alloc ?_ _) | (with_reducible refine Gr.drewN ?_ _) | (with_reducible refine Gr.drew ?_) | (with_reducible refine Gr.grown ?_ _ _) | (with_reducible refine Gr.setCell ?_ (by first | omega | (simp; omega) | simp) _) | (with_reducible refine Gr.trans ?_ (by with_reducible assumption)))⟩
end Go.Proofs.Ytipjcejhenlpoaa
