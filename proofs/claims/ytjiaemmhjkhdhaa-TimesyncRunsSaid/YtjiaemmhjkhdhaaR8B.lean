/- The contracts of the reference of package clock: Reach, in, Send. -/
import Derived.Test.YtjiaemmhjkhdhaaR8A
import Derived.Test.YtjiaemmhjkhdhaaClkB
namespace Go.Proofs.Ytjiaemmhjkhdhaa
open Go.RowKit Go.Sort

set_option maxHeartbeats 1000000 in
theorem rreach_any (o d x : Int) (w : World) :
    Calls Try.prog 73 #[.agg #[.int .i64 o, .int .i64 d], .int .i64 x] w fun e w' => e = .returned (.tuple #[.int .i64 (Ck.rchN o d x), .int .i64 (Ck.rchE o d x)]) ∧ Gr w w' := by
  rcases Ck.chk_01 o d with ⟨hc, v⟩ | ⟨hc, v⟩
  · by_cases hx : x ≤ Ck.sh o d 1099511627776
    · have hN : Hid (Ck.rc o d x = Ck.rchN o d x) := by unfold Ck.rchN Ck.reachN; rw [if_pos hc, if_pos hx]; rfl
      have hE : Hid (0 = Ck.rchE o d x) := by unfold Ck.rchE Ck.reachE; rw [if_pos hc, if_pos hx]; rfl
      have hL := Ck.rc_least o d x v.d1 v.d2 hx
      have HL : Hid (∀ t, 0 ≤ t → (Ck.rc o d x ≤ t ↔ x ≤ Ck.sh o d t)) := fun t ht => hL.iff v.d1 v.d2 t ht
      obtain ⟨r0, r1, -, -⟩ := hL
      generalize Ck.rc o d x = r at *
      go_enter Try.func73, Try.ntmps73
      go_wp2_with (first | (go_at_call 44; refine (rcheck_any _ _ _).mono ?_; rintro e w' ⟨rfl, hn⟩; (first | have hg' := Gr.trans hg hn | have hg' := Gr.trans (Gr.alloc hg _) hn | have hg' := Gr.trans (Gr.drewN hg _) hn | have hg' := Gr.trans (Gr.alloc (Gr.alloc hg _) _) hn | have hg' := hn); (try clear hr hf hr2 hf2 hz hz2); (try clear hg); have hg := hg'; clear hg'; have hr := hg.rules.1; have hf := hg.rules.2; have hr2 := hn.rules.1; have hf2 := hn.rules.2; have hz := hg.size; (try simp only [World.size_alloc] at hz); have hz2 := hn.size; (try simp only [World.size_alloc] at hz2); (try clear hy1); (try clear hy2); (try clear hy3); (try have hy1 : w.heap.size < w'.heap.size := by omega); (try have hy2 : w.heap.size + 1 < w'.heap.size := by omega); (try have hy3 : w.heap.size + 1 + 1 < w'.heap.size := by omega); clear hn) | (go_at_call 47; refine (rat_any _ _ _ (by omega) (by omega) v _).mono ?_; rintro e w' ⟨rfl, hn⟩; (first | have hg' := Gr.trans hg hn | have hg' := Gr.trans (Gr.alloc hg _) hn | have hg' := Gr.trans (Gr.drewN hg _) hn | have hg' := Gr.trans (Gr.alloc (Gr.alloc hg _) _) hn | have hg' := hn); (try clear hr hf hr2 hf2 hz hz2); (try clear hg); have hg := hg'; clear hg'; have hr := hg.rules.1; have hf := hg.rules.2; have hr2 := hn.rules.1; have hf2 := hn.rules.2; have hz := hg.size; (try simp only [World.size_alloc] at hz); have hz2 := hn.size; (try simp only [World.size_alloc] at hz2); (try clear hy1); (try clear hy2); (try clear hy3); (try have hy1 : w.heap.size < w'.heap.size := by omega); (try have hy2 : w.heap.size + 1 < w'.heap.size := by omega); (try have hy3 : w.heap.size + 1 + 1 < w'.heap.size := by omega); clear hn))
      have hG := hg
      clear hr hf hr2 hf2 hz hg
      go_loopw [6, 7] (fun v6 v7 wr => ∃ lo hi : Int, v6 = .int .i64 lo ∧ v7 = .int .i64 hi ∧ 0 ≤ lo ∧ lo ≤ r ∧ r ≤ hi ∧ hi ≤ 1099511627776 ∧ Gr (w.alloc (Obj.cells #[Value.int IntKind.i64 o, Value.int IntKind.i64 d] 23)) wr) (fun v6 v7 _ => (intOf v7 - intOf v6).toNat)
      case atStart => exact ⟨0, 1099511627776, rfl, rfl, by omega, r0, r1, by omega, hG⟩
      case round =>
        obtain ⟨lo, hi, rfl, rfl, l0, lr, rh, h1, hg⟩ := hrel
        clear hG
        have hr := hg.rules.1
        have hf := hg.rules.2
        by_cases hlt : lo < hi
        · by_cases hm : x ≤ Ck.sh o d ((lo + hi) / 2)
          · have hmr := (HL.out ((lo + hi) / 2) (by omega)).2 hm
            go_wp2_with (first | (go_at_call 47; refine (rat_any _ _ _ (by omega) (by omega) v _).mono ?_; rintro e w' ⟨rfl, hn⟩; (first | have hg' := Gr.trans hg hn | have hg' := Gr.trans (Gr.alloc hg _) hn | have hg' := Gr.trans (Gr.drewN hg _) hn | have hg' := Gr.trans (Gr.alloc (Gr.alloc hg _) _) hn | have hg' := hn); (try clear hr hf hr2 hf2 hz hz2); (try clear hg); have hg := hg'; clear hg'; have hr := hg.rules.1; have hf := hg.rules.2; have hr2 := hn.rules.1; have hf2 := hn.rules.2; have hz := hg.size; (try simp only [World.size_alloc] at hz); have hz2 := hn.size; (try simp only [World.size_alloc] at hz2); (try clear hy1); (try clear hy2); (try clear hy3); (try have hy1 : w.heap.size < w'.heap.size := by omega); (try have hy2 : w.heap.size + 1 < w'.heap.size := by omega); (try have hy3 : w.heap.size + 1 + 1 < w'.heap.size := by omega); clear hn))
            go_roundw
            case rel => exact ⟨lo, (lo + hi) / 2, rfl, rfl, l0, lr, hmr, by omega, hg⟩
            case measure => simp [intOf]; omega
          · have hmr : (lo + hi) / 2 < r := by
              by_cases c : (lo + hi) / 2 < r
              · exact c
              · exact absurd ((HL.out ((lo + hi) / 2) (by omega)).1 (by omega)) hm
            go_wp2_with (first | (go_at_call 47; refine (rat_any _ _ _ (by omega) (by omega) v _).mono ?_; rintro e w' ⟨rfl, hn⟩; (first | have hg' := Gr.trans hg hn | have hg' := Gr.trans (Gr.alloc hg _) hn | have hg' := Gr.trans (Gr.drewN hg _) hn | have hg' := Gr.trans (Gr.alloc (Gr.alloc hg _) _) hn | have hg' := hn); (try clear hr hf hr2 hf2 hz hz2); (try clear hg); have hg := hg'; clear hg'; have hr := hg.rules.1; have hf := hg.rules.2; have hr2 := hn.rules.1; have hf2 := hn.rules.2; have hz := hg.size; (try simp only [World.size_alloc] at hz); have hz2 := hn.size; (try simp only [World.size_alloc] at hz2); (try clear hy1); (try clear hy2); (try clear hy3); (try have hy1 : w.heap.size < w'.heap.size := by omega); (try have hy2 : w.heap.size + 1 < w'.heap.size := by omega); (try have hy3 : w.heap.size + 1 + 1 < w'.heap.size := by omega); clear hn))
            go_roundw
            case rel => exact ⟨(lo + hi) / 2 + 1, hi, rfl, rfl, by omega, by omega, rh, h1, hg⟩
            case measure => simp [intOf]; omega
        · have e1 : Hid (lo = r) := by show lo = r; omega
          clear HL
          go_wp2
          go_ret2
          exact ⟨ret_int2 (by rw [e1.out]; exact hN.out) hE.out, by repeat (first | (with_reducible exact Gr.refl _) | (with_reducible assumption) | (with_reducible refine Gr.alloc ?_ _) | (with_reducible refine Gr.drewN ?_ _) | (with_reducible refine Gr.drew ?_) | (with_reducible refine Gr.grown ?_ _ _) | (with_reducible refine Gr.regrown ?_ _ _) | (with_reducible refine Gr.setCell ?_ (by first | omega | (simp; omega) | simp) _) | (with_reducible refine Gr.trans ?_ (by with_reducible assumption)))⟩
    · have hN : Hid (0 = Ck.rchN o d x) := by unfold Ck.rchN Ck.reachN; rw [if_pos hc, if_neg hx]; rfl
      have hE : Hid (15 = Ck.rchE o d x) := by unfold Ck.rchE Ck.reachE; rw [if_pos hc, if_neg hx]; rfl
      go_enter Try.func73, Try.ntmps73
      go_wp2_with (first | (go_at_call 44; refine (rcheck_any _ _ _).mono ?_; rintro e w' ⟨rfl, hn⟩; (first | have hg' := Gr.trans hg hn | have hg' := Gr.trans (Gr.alloc hg _) hn | have hg' := Gr.trans (Gr.drewN hg _) hn | have hg' := Gr.trans (Gr.alloc (Gr.alloc hg _) _) hn | have hg' := hn); (try clear hr hf hr2 hf2 hz hz2); (try clear hg); have hg := hg'; clear hg'; have hr := hg.rules.1; have hf := hg.rules.2; have hr2 := hn.rules.1; have hf2 := hn.rules.2; have hz := hg.size; (try simp only [World.size_alloc] at hz); have hz2 := hn.size; (try simp only [World.size_alloc] at hz2); (try clear hy1); (try clear hy2); (try clear hy3); (try have hy1 : w.heap.size < w'.heap.size := by omega); (try have hy2 : w.heap.size + 1 < w'.heap.size := by omega); (try have hy3 : w.heap.size + 1 + 1 < w'.heap.size := by omega); clear hn) | (go_at_call 47; refine (rat_any _ _ _ (by omega) (by omega) v _).mono ?_; rintro e w' ⟨rfl, hn⟩; (first | have hg' := Gr.trans hg hn | have hg' := Gr.trans (Gr.alloc hg _) hn | have hg' := Gr.trans (Gr.drewN hg _) hn | have hg' := Gr.trans (Gr.alloc (Gr.alloc hg _) _) hn | have hg' := hn); (try clear hr hf hr2 hf2 hz hz2); (try clear hg); have hg := hg'; clear hg'; have hr := hg.rules.1; have hf := hg.rules.2; have hr2 := hn.rules.1; have hf2 := hn.rules.2; have hz := hg.size; (try simp only [World.size_alloc] at hz); have hz2 := hn.size; (try simp only [World.size_alloc] at hz2); (try clear hy1); (try clear hy2); (try clear hy3); (try have hy1 : w.heap.size < w'.heap.size := by omega); (try have hy2 : w.heap.size + 1 < w'.heap.size := by omega); (try have hy3 : w.heap.size + 1 + 1 < w'.heap.size := by omega); clear hn))
      go_ret2
      exact ⟨ret_int2 hN.out hE.out, by repeat (first | (with_reducible exact Gr.refl _) | (with_reducible assumption) | (with_reducible refine Gr.alloc ?_ _) | (with_reducible refine Gr.drewN ?_ _) | (with_reducible refine Gr.drew ?_) | (with_reducible refine Gr.grown ?_ _ _) | (with_reducible refine Gr.regrown ?_ _ _) | (with_reducible refine Gr.setCell ?_ (by first | omega | (simp; omega) | simp) _) | (with_reducible refine Gr.trans ?_ (by with_reducible assumption)))⟩
  · have hN : Hid (0 = Ck.rchN o d x) := by unfold Ck.rchN; rw [if_neg (by rw [hc]; decide)]; rfl
    have hE : Hid (1 = Ck.rchE o d x) := by unfold Ck.rchE; rw [if_neg (by rw [hc]; decide)]; rfl
    go_enter Try.func73, Try.ntmps73
    go_wp2_with (first | (go_at_call 44; refine (rcheck_any _ _ _).mono ?_; rintro e w' ⟨rfl, hn⟩; (first | have hg' := Gr.trans hg hn | have hg' := Gr.trans (Gr.alloc hg _) hn | have hg' := Gr.trans (Gr.drewN hg _) hn | have hg' := Gr.trans (Gr.alloc (Gr.alloc hg _) _) hn | have hg' := hn); (try clear hr hf hr2 hf2 hz hz2); (try clear hg); have hg := hg'; clear hg'; have hr := hg.rules.1; have hf := hg.rules.2; have hr2 := hn.rules.1; have hf2 := hn.rules.2; have hz := hg.size; (try simp only [World.size_alloc] at hz); have hz2 := hn.size; (try simp only [World.size_alloc] at hz2); (try clear hy1); (try clear hy2); (try clear hy3); (try have hy1 : w.heap.size < w'.heap.size := by omega); (try have hy2 : w.heap.size + 1 < w'.heap.size := by omega); (try have hy3 : w.heap.size + 1 + 1 < w'.heap.size := by omega); clear hn))
    go_ret2
    exact ⟨ret_int2 hN.out hE.out, by repeat (first | (with_reducible exact Gr.refl _) | (with_reducible assumption) | (with_reducible refine Gr.alloc ?_ _) | (with_reducible refine Gr.drewN ?_ _) | (with_reducible refine Gr.drew ?_) | (with_reducible refine Gr.grown ?_ _ _) | (with_reducible refine Gr.regrown ?_ _ _) | (with_reducible refine Gr.setCell ?_ (by first | omega | (simp; omega) | simp) _) | (with_reducible refine Gr.trans ?_ (by with_reducible assumption)))⟩

theorem rch_of {o d x : Int} (hc : Ck.chk o d = 0) : Ck.rchN o d x = Ck.reachN o d x ∧ Ck.rchE o d x = Ck.reachE o d x := by
  unfold Ck.rchN Ck.rchE
  exact ⟨if_pos hc, if_pos hc⟩

set_option maxHeartbeats 400000 in
theorem rin_any (o d s x : Int) (x0 : -10000 ≤ x) (x1 : x ≤ 10000) (w : World) :
    Calls Try.prog 72 #[.agg #[.int .i64 o, .int .i64 d], .int .i64 s, .int .i64 x] w fun e w' => e = .returned (.tuple #[.int .i64 (Ck.inN o d s x), .int .i64 (Ck.inE o d s x)]) ∧ Gr w w' := by
  rcases Ck.chk_01 o d with ⟨hc, v⟩ | ⟨hc, v⟩
  · by_cases hs : 0 ≤ s ∧ s ≤ 109951162
    · have hz : Ck.slotE o d s = 0 := by unfold Ck.slotE; rw [if_pos hc, if_pos hs]
      have hN : Hid (Ck.rchN o d (s * 10000 + x) = Ck.inN o d s x) := by unfold Ck.inN; rw [if_pos hz, (rch_of hc).1]; rfl
      have hE : Hid (Ck.rchE o d (s * 10000 + x) = Ck.inE o d s x) := by unfold Ck.inE; rw [if_pos hz, (rch_of hc).2]; rfl
      clear hz
      obtain ⟨s0, s1⟩ := hs
      go_enter Try.func72, Try.ntmps72
      go_wp2_with (first | (go_at_call 44; refine (rcheck_any _ _ _).mono ?_; rintro e w' ⟨rfl, hn⟩; (first | have hg' := Gr.trans hg hn | have hg' := Gr.trans (Gr.alloc hg _) hn | have hg' := Gr.trans (Gr.drewN hg _) hn | have hg' := Gr.trans (Gr.alloc (Gr.alloc hg _) _) hn | have hg' := hn); (try clear hr hf hr2 hf2 hz hz2); (try clear hg); have hg := hg'; clear hg'; have hr := hg.rules.1; have hf := hg.rules.2; have hr2 := hn.rules.1; have hf2 := hn.rules.2; have hz := hg.size; (try simp only [World.size_alloc] at hz); have hz2 := hn.size; (try simp only [World.size_alloc] at hz2); (try clear hy1); (try clear hy2); (try clear hy3); (try have hy1 : w.heap.size < w'.heap.size := by omega); (try have hy2 : w.heap.size + 1 < w'.heap.size := by omega); (try have hy3 : w.heap.size + 1 + 1 < w'.heap.size := by omega); clear hn) | (go_at_call 73; refine (rreach_any _ _ _ _).mono ?_; rintro e w' ⟨rfl, hn⟩; (first | have hg' := Gr.trans hg hn | have hg' := Gr.trans (Gr.alloc hg _) hn | have hg' := Gr.trans (Gr.drewN hg _) hn | have hg' := Gr.trans (Gr.alloc (Gr.alloc hg _) _) hn | have hg' := hn); (try clear hr hf hr2 hf2 hz hz2); (try clear hg); have hg := hg'; clear hg'; have hr := hg.rules.1; have hf := hg.rules.2; have hr2 := hn.rules.1; have hf2 := hn.rules.2; have hz := hg.size; (try simp only [World.size_alloc] at hz); have hz2 := hn.size; (try simp only [World.size_alloc] at hz2); (try clear hy1); (try clear hy2); (try clear hy3); (try have hy1 : w.heap.size < w'.heap.size := by omega); (try have hy2 : w.heap.size + 1 < w'.heap.size := by omega); (try have hy3 : w.heap.size + 1 + 1 < w'.heap.size := by omega); clear hn))
      go_ret2
      exact ⟨ret_int2 hN.out hE.out, by repeat (first | (with_reducible exact Gr.refl _) | (with_reducible assumption) | (with_reducible refine Gr.alloc ?_ _) | (with_reducible refine Gr.drewN ?_ _) | (with_reducible refine Gr.drew ?_) | (with_reducible refine Gr.grown ?_ _ _) | (with_reducible refine Gr.regrown ?_ _ _) | (with_reducible refine Gr.setCell ?_ (by first | omega | (simp; omega) | simp) _) | (with_reducible refine Gr.trans ?_ (by with_reducible assumption)))⟩
    · have hz : Ck.slotE o d s = 2 := by unfold Ck.slotE; rw [if_pos hc, if_neg hs]
      have hN : Hid (0 = Ck.inN o d s x) := by unfold Ck.inN; rw [hz]; rfl
      have hE : Hid (2 = Ck.inE o d s x) := by unfold Ck.inE; rw [hz]; rfl
      clear hz
      have hb : s < 0 ∨ 109951162 < s := by omega
      clear hs
      rcases hb with hb | hb
      all_goals
        go_enter Try.func72, Try.ntmps72
        go_wp2_with (first | (go_at_call 44; refine (rcheck_any _ _ _).mono ?_; rintro e w' ⟨rfl, hn⟩; (first | have hg' := Gr.trans hg hn | have hg' := Gr.trans (Gr.alloc hg _) hn | have hg' := Gr.trans (Gr.drewN hg _) hn | have hg' := Gr.trans (Gr.alloc (Gr.alloc hg _) _) hn | have hg' := hn); (try clear hr hf hr2 hf2 hz hz2); (try clear hg); have hg := hg'; clear hg'; have hr := hg.rules.1; have hf := hg.rules.2; have hr2 := hn.rules.1; have hf2 := hn.rules.2; have hz := hg.size; (try simp only [World.size_alloc] at hz); have hz2 := hn.size; (try simp only [World.size_alloc] at hz2); (try clear hy1); (try clear hy2); (try clear hy3); (try have hy1 : w.heap.size < w'.heap.size := by omega); (try have hy2 : w.heap.size + 1 < w'.heap.size := by omega); (try have hy3 : w.heap.size + 1 + 1 < w'.heap.size := by omega); clear hn))
        go_ret2
        exact ⟨ret_int2 hN.out hE.out, by repeat (first | (with_reducible exact Gr.refl _) | (with_reducible assumption) | (with_reducible refine Gr.alloc ?_ _) | (with_reducible refine Gr.drewN ?_ _) | (with_reducible refine Gr.drew ?_) | (with_reducible refine Gr.grown ?_ _ _) | (with_reducible refine Gr.regrown ?_ _ _) | (with_reducible refine Gr.setCell ?_ (by first | omega | (simp; omega) | simp) _) | (with_reducible refine Gr.trans ?_ (by with_reducible assumption)))⟩
  · have hz : Ck.slotE o d s = 1 := by unfold Ck.slotE; rw [if_neg (by rw [hc]; decide)]
    have hN : Hid (0 = Ck.inN o d s x) := by unfold Ck.inN; rw [hz]; rfl
    have hE : Hid (1 = Ck.inE o d s x) := by unfold Ck.inE; rw [hz]; rfl
    clear hz
    go_enter Try.func72, Try.ntmps72
    go_wp2_with (first | (go_at_call 44; refine (rcheck_any _ _ _).mono ?_; rintro e w' ⟨rfl, hn⟩; (first | have hg' := Gr.trans hg hn | have hg' := Gr.trans (Gr.alloc hg _) hn | have hg' := Gr.trans (Gr.drewN hg _) hn | have hg' := Gr.trans (Gr.alloc (Gr.alloc hg _) _) hn | have hg' := hn); (try clear hr hf hr2 hf2 hz hz2); (try clear hg); have hg := hg'; clear hg'; have hr := hg.rules.1; have hf := hg.rules.2; have hr2 := hn.rules.1; have hf2 := hn.rules.2; have hz := hg.size; (try simp only [World.size_alloc] at hz); have hz2 := hn.size; (try simp only [World.size_alloc] at hz2); (try clear hy1); (try clear hy2); (try clear hy3); (try have hy1 : w.heap.size < w'.heap.size := by omega); (try have hy2 : w.heap.size + 1 < w'.heap.size := by omega); (try have hy3 : w.heap.size + 1 + 1 < w'.heap.size := by omega); clear hn))
    go_ret2
    exact ⟨ret_int2 hN.out hE.out, by repeat (first | (with_reducible exact Gr.refl _) | (with_reducible assumption) | (with_reducible refine Gr.alloc ?_ _) | (with_reducible refine Gr.drewN ?_ _) | (with_reducible refine Gr.drew ?_) | (with_reducible refine Gr.grown ?_ _ _) | (with_reducible refine Gr.regrown ?_ _ _) | (with_reducible refine Gr.setCell ?_ (by first | omega | (simp; omega) | simp) _) | (with_reducible refine Gr.trans ?_ (by with_reducible assumption)))⟩

set_option maxHeartbeats 400000 in
theorem rsend_any (o d s : Int) (w : World) :
    Calls Try.prog 71 #[.agg #[.int .i64 o, .int .i64 d], .int .i64 s] w fun e w' => e = .returned (.tuple #[.int .i64 (Ck.inN o d s 2120), .int .i64 (Ck.inE o d s 2120)]) ∧ Gr w w' := by
  go_enter Try.func71, Try.ntmps71
  go_wp2_with (first | (go_at_call 72; refine (rin_any _ _ _ _ (by omega) (by omega) _).mono ?_; rintro e w' ⟨rfl, hn⟩; (first | have hg' := Gr.trans hg hn | have hg' := Gr.trans (Gr.alloc hg _) hn | have hg' := Gr.trans (Gr.drewN hg _) hn | have hg' := Gr.trans (Gr.alloc (Gr.alloc hg _) _) hn | have hg' := hn); (try clear hr hf hr2 hf2 hz hz2); (try clear hg); have hg := hg'; clear hg'; have hr := hg.rules.1; have hf := hg.rules.2; have hr2 := hn.rules.1; have hf2 := hn.rules.2; have hz := hg.size; (try simp only [World.size_alloc] at hz); have hz2 := hn.size; (try simp only [World.size_alloc] at hz2); (try clear hy1); (try clear hy2); (try clear hy3); (try have hy1 : w.heap.size < w'.heap.size := by omega); (try have hy2 : w.heap.size + 1 < w'.heap.size := by omega); (try have hy3 : w.heap.size + 1 + 1 < w'.heap.size := by omega); clear hn))
  go_ret2
  exact ⟨rfl, by repeat (first | (with_reducible exact Gr.refl _) | (with_reducible assumption) | (with_reducible refine Gr.alloc ?_ _) | (with_reducible refine Gr.drewN ?_ _) | (with_reducible refine Gr.drew ?_) | (with_reducible refine Gr.grown ?_ _ _) | (with_reducible refine Gr.regrown ?_ _ _) | (with_reducible refine Gr.setCell ?_ (by first | omega | (simp; omega) | simp) _) | (with_reducible refine Gr.trans ?_ (by with_reducible assumption)))⟩
end Go.Proofs.Ytjiaemmhjkhdhaa
