/- The contracts of package clock's functions that reach, adjust and compare. -/
import Derived.Test.YtjiaemmhjkhdhaaClkA
import Derived.Test.YtjiaemmhjkhdhaaSearch
namespace Go.Proofs.Ytjiaemmhjkhdhaa
open Go.RowKit Go.Sort

theorem ret_int3 {k l m : IntKind} {a b c d e f : Int} (h : a = b) (h' : c = d) (h'' : e = f) : Ending.returned (.tuple #[.int k a, .int l c, .int m e]) = .returned (.tuple #[.int k b, .int l d, .int m f]) := by rw [h, h', h'']

set_option maxHeartbeats 400000 in
theorem least_any (o d t x : Int) (B b1 b2 : Nat) (h0 : 0 ≤ t) (h1 : t ≤ 1099511627776) (o1 : -1099511627776 ≤ o) (o2 : o ≤ 1099511627776) (d1 : -100000 ≤ d) (d2 : d ≤ 100000) (w : World)
    (c0 : w.cell? ⟨B, 0, none⟩ = some (.int .i64 o)) (c1 : w.cell? ⟨B, 1, none⟩ = some (.int .i64 d)) (c2 : w.cell? ⟨b1, 0, none⟩ = some (.func (.func 66) #[] #[.pointer (some ⟨B, 0, none⟩)])) (c3 : w.cell? ⟨b2, 0, none⟩ = some (.int .i64 x)) :
    Calls Try.prog 69 #[.int .i64 t, .pointer (some ⟨b1, 0, none⟩), .pointer (some ⟨b2, 0, none⟩)] w fun e w' => e = .returned (.bool (decide (x ≤ Ck.sh o d t))) ∧ ∃ n, w' = w.drewN n := by
  go_enter Try.func69, Try.ntmps69
  go_wp2_with fail
  go_quiet ((go_at_call 66; exact Calls.quiet_of (dial_any o d t B h0 h1 o1 o2 d1 d2 _ (by go_simp) (by go_simp))))
  go_wp2
  go_ret
  exact ⟨rfl, _, rfl⟩

set_option maxHeartbeats 400000 in
theorem reach_any (o d x : Int) (B : Nat) (o1 : -1099511627776 ≤ o) (o2 : o ≤ 1099511627776) (d1 : -100000 ≤ d) (d2 : d ≤ 100000) (w : World)
    (c0 : w.cell? ⟨B, 0, none⟩ = some (.int .i64 o)) (c1 : w.cell? ⟨B, 1, none⟩ = some (.int .i64 d)) (hB : B < w.heap.size) :
    Calls Try.prog 52 #[.agg #[.func (.func 66) #[] #[.pointer (some ⟨B, 0, none⟩)]], .int .i64 x] w fun e w' => e = .returned (.tuple #[.int .i64 (Ck.reachN o d x), .int .i64 (Ck.reachE o d x)]) ∧ Gr w w' := by
  by_cases hx : x ≤ Ck.sh o d 1099511627776
  · have hN : Hid (Ck.rc o d x = Ck.reachN o d x) := by unfold Ck.reachN; rw [if_pos hx]; rfl
    have hE : Hid (0 = Ck.reachE o d x) := by unfold Ck.reachE; rw [if_pos hx]; rfl
    have hL : Hid (Ck.Least o d x (Ck.rc o d x)) := Ck.rc_least o d x d1 d2 hx
    have hs : ∀ (W : World), Gr ((w.alloc (Obj.cells #[Value.func (Fn.func 66) #[] #[Value.pointer (some { block := B, off := 0 })]] 71)).alloc (Obj.cells #[Value.int IntKind.i64 x] 3)) W →
        Calls Try.prog 68 #[.int .i64 1099511627776, .func (.func 69) #[] #[.pointer (some ⟨w.heap.size, 0, none⟩), .pointer (some ⟨w.heap.size + 1, 0, none⟩)]] W fun e w' => e = .returned (.int .i64 (Ck.rc o d x)) ∧ Gr W w' := fun W hg => by
      have h := search_at 69 #[.pointer (some ⟨w.heap.size, 0, none⟩), .pointer (some ⟨w.heap.size + 1, 0, none⟩)] 1099511627776 (fun i => decide (x ≤ Ck.sh o d i)) (Ck.rc o d x).toNat W (enters_of Try.func69 (by kernel_rfl) rfl) (by omega)
        (fun W2 i hg2 hi => (least_any o d i x B w.heap.size (w.heap.size + 1) (by omega) (by omega) o1 o2 d1 d2 W2
          (by have h := (hg.trans hg2).cell (p := ⟨B, 0, none⟩) (by simp; omega); rw [h]; go_simp)
          (by have h := (hg.trans hg2).cell (p := ⟨B, 1, none⟩) (by simp; omega); rw [h]; go_simp)
          (by have h := (hg.trans hg2).cell (p := ⟨w.heap.size, 0, none⟩) (by simp; omega); rw [h]; go_simp)
          (by have h := (hg.trans hg2).cell (p := ⟨w.heap.size + 1, 0, none⟩) (by simp); rw [h]; go_simp)).mono fun e w' ⟨he, n, hw⟩ => ⟨he, by rw [hw]; exact (Gr.refl _).drewN _⟩)
        (by have := hL.out.r0; have := hL.out.r1; omega)
        (fun t ht => by have := hL.out.before t (by omega) (by have := hL.out.r0; omega); simp; omega)
        (fun t ht htn => by have := (hL.out.iff d1 d2 t (by omega)).1 (by have := hL.out.r0; omega); simpa using this)
      rw [show (((Ck.rc o d x).toNat : Nat) : Int) = Ck.rc o d x from Int.toNat_of_nonneg hL.out.r0] at h
      exact h
    have HS : Aside _ := hs
    clear hs
    go_enter Try.func52, Try.ntmps52
    go_wp2_with fail
    go_quiet ((go_at_call 66; exact Calls.quiet_of (dial_any o d _ B (by omega) (by omega) o1 o2 d1 d2 _ (by go_simp) (by go_simp))))
    go_wp2_with (go_at_call 68; refine (HS.out _ ?_).mono ?_; exact (Gr.refl _).drewN _; rintro e w' ⟨rfl, hg⟩)
    go_ret2
    exact ⟨ret_int2 hN.out hE.out, by repeat (first | (with_reducible exact Gr.refl _) | (with_reducible assumption) | (with_reducible refine Gr.alloc ?_ _) | (with_reducible refine Gr.drewN ?_ _) | (with_reducible refine Gr.drew ?_) | (with_reducible refine Gr.grown ?_ _ _) | (with_reducible refine Gr.regrown ?_ _ _) | (with_reducible refine Gr.setCell ?_ (by first | omega | (simp; omega) | simp) _) | (with_reducible refine Gr.trans ?_ (by with_reducible assumption)))⟩
  · have hN : Hid (0 = Ck.reachN o d x) := by unfold Ck.reachN; rw [if_neg hx]; rfl
    have hE : Hid (15 = Ck.reachE o d x) := by unfold Ck.reachE; rw [if_neg hx]; rfl
    go_enter Try.func52, Try.ntmps52
    go_wp2_with fail
    go_quiet ((go_at_call 66; exact Calls.quiet_of (dial_any o d _ B (by omega) (by omega) o1 o2 d1 d2 _ (by go_simp) (by go_simp))))
    go_wp2
    go_ret2
    exact ⟨ret_int2 hN.out hE.out, by repeat (first | (with_reducible exact Gr.refl _) | (with_reducible assumption) | (with_reducible refine Gr.alloc ?_ _) | (with_reducible refine Gr.drewN ?_ _) | (with_reducible refine Gr.drew ?_) | (with_reducible refine Gr.grown ?_ _ _) | (with_reducible refine Gr.regrown ?_ _ _) | (with_reducible refine Gr.setCell ?_ (by first | omega | (simp; omega) | simp) _) | (with_reducible refine Gr.trans ?_ (by with_reducible assumption)))⟩

set_option maxHeartbeats 400000 in
theorem slot_any (o d s : Int) (w : World) :
    Calls Try.prog 50 #[.agg #[.int .i64 o, .int .i64 d], .int .i64 s] w fun e w' => e = .returned (.int .i64 (Ck.slotE o d s)) ∧ Gr w w' := by
  rcases Ck.chk_01 o d with ⟨hc, v⟩ | ⟨hc, v⟩
  · go_enter Try.func50, Try.ntmps50
    go_wp2_with (first | (go_at_call 41; refine (check_any _ _ _).mono ?_; rintro e w' ⟨rfl, hn⟩; (first | have hg' := Gr.trans hg hn | have hg' := Gr.trans (Gr.alloc hg _) hn | have hg' := Gr.trans (Gr.drewN hg _) hn | have hg' := Gr.trans (Gr.alloc (Gr.alloc hg _) _) hn | have hg' := hn); (try clear hr hf hr2 hf2 hz hz2); (try clear hg); have hg := hg'; clear hg'; have hr := hg.rules.1; have hf := hg.rules.2; have hr2 := hn.rules.1; have hf2 := hn.rules.2; have hz := hg.size; (try simp only [World.size_alloc] at hz); have hz2 := hn.size; (try simp only [World.size_alloc] at hz2); (try clear hy1); (try clear hy2); (try clear hy3); (try have hy1 : w.heap.size < w'.heap.size := by omega); (try have hy2 : w.heap.size + 1 < w'.heap.size := by omega); (try have hy3 : w.heap.size + 1 + 1 < w'.heap.size := by omega); clear hn))
    all_goals
      go_ret
      exact ⟨ret_int (by unfold Ck.slotE; rw [if_pos hc]; split <;> omega), by repeat (first | (with_reducible exact Gr.refl _) | (with_reducible assumption) | (with_reducible refine Gr.alloc ?_ _) | (with_reducible refine Gr.drewN ?_ _) | (with_reducible refine Gr.drew ?_) | (with_reducible refine Gr.grown ?_ _ _) | (with_reducible refine Gr.regrown ?_ _ _) | (with_reducible refine Gr.setCell ?_ (by first | omega | (simp; omega) | simp) _) | (with_reducible refine Gr.trans ?_ (by with_reducible assumption)))⟩
  · have hE : Hid (1 = Ck.slotE o d s) := by unfold Ck.slotE; rw [if_neg (by rw [hc]; decide)]; rfl
    go_enter Try.func50, Try.ntmps50
    go_wp2_with (first | (go_at_call 41; refine (check_any _ _ _).mono ?_; rintro e w' ⟨rfl, hn⟩; (first | have hg' := Gr.trans hg hn | have hg' := Gr.trans (Gr.alloc hg _) hn | have hg' := Gr.trans (Gr.drewN hg _) hn | have hg' := Gr.trans (Gr.alloc (Gr.alloc hg _) _) hn | have hg' := hn); (try clear hr hf hr2 hf2 hz hz2); (try clear hg); have hg := hg'; clear hg'; have hr := hg.rules.1; have hf := hg.rules.2; have hr2 := hn.rules.1; have hf2 := hn.rules.2; have hz := hg.size; (try simp only [World.size_alloc] at hz); have hz2 := hn.size; (try simp only [World.size_alloc] at hz2); (try clear hy1); (try clear hy2); (try clear hy3); (try have hy1 : w.heap.size < w'.heap.size := by omega); (try have hy2 : w.heap.size + 1 < w'.heap.size := by omega); (try have hy3 : w.heap.size + 1 + 1 < w'.heap.size := by omega); clear hn))
    go_ret
    exact ⟨ret_int hE.out, by repeat (first | (with_reducible exact Gr.refl _) | (with_reducible assumption) | (with_reducible refine Gr.alloc ?_ _) | (with_reducible refine Gr.drewN ?_ _) | (with_reducible refine Gr.drew ?_) | (with_reducible refine Gr.grown ?_ _ _) | (with_reducible refine Gr.regrown ?_ _ _) | (with_reducible refine Gr.setCell ?_ (by first | omega | (simp; omega) | simp) _) | (with_reducible refine Gr.trans ?_ (by with_reducible assumption)))⟩

theorem slot_valid {o d s : Int} (h : Ck.slotE o d s = 0) : Ck.Valid o d ∧ 0 ≤ s ∧ s ≤ 109951162 := by
  rcases Ck.chk_01 o d with ⟨hc, v⟩ | ⟨hc, v⟩
  · unfold Ck.slotE at h
    rw [if_pos hc] at h
    split at h
    · exact ⟨v, by omega, by omega⟩
    · exact absurd h (by decide)
  · unfold Ck.slotE at h
    rw [if_neg (by rw [hc]; decide)] at h
    exact absurd h (by decide)

set_option maxHeartbeats 400000 in
theorem send_any (o d s : Int) (w : World) :
    Calls Try.prog 23 #[.agg #[.int .i64 o, .int .i64 d], .int .i64 s] w fun e w' => e = .returned (.tuple #[.int .i64 (Ck.inN o d s 2120), .int .i64 (Ck.inE o d s 2120)]) ∧ Gr w w' := by
  by_cases hs : Ck.slotE o d s = 0
  · obtain ⟨v, s0, s1⟩ := slot_valid hs
    have hN : Hid (Ck.reachN o d (s * 10000 + 2120) = Ck.inN o d s 2120) := by unfold Ck.inN; rw [if_pos hs]; rfl
    have hE : Hid (Ck.reachE o d (s * 10000 + 2120) = Ck.inE o d s 2120) := by unfold Ck.inE; rw [if_pos hs]; rfl
    obtain ⟨o1, o2, d1, d2⟩ := v
    go_enter Try.func23, Try.ntmps23
    go_wp2_with (first | (go_at_call 50; refine (slot_any _ _ _ _).mono ?_; rintro e w' ⟨rfl, hn⟩; (first | have hg' := Gr.trans hg hn | have hg' := Gr.trans (Gr.alloc hg _) hn | have hg' := Gr.trans (Gr.drewN hg _) hn | have hg' := Gr.trans (Gr.alloc (Gr.alloc hg _) _) hn | have hg' := hn); (try clear hr hf hr2 hf2 hz hz2); (try clear hg); have hg := hg'; clear hg'; have hr := hg.rules.1; have hf := hg.rules.2; have hr2 := hn.rules.1; have hf2 := hn.rules.2; have hz := hg.size; (try simp only [World.size_alloc] at hz); have hz2 := hn.size; (try simp only [World.size_alloc] at hz2); (try clear hy1); (try clear hy2); (try clear hy3); (try have hy1 : w.heap.size < w'.heap.size := by omega); (try have hy2 : w.heap.size + 1 < w'.heap.size := by omega); (try have hy3 : w.heap.size + 1 + 1 < w'.heap.size := by omega); clear hn) | (go_at_call 51; refine (of_any _ _ _).mono ?_; rintro e w' ⟨rfl, ⟨c0, c1⟩, hz, hg⟩) | (go_at_call 52; refine (reach_any o d _ _ o1 o2 d1 d2 _ c0 c1 hz).mono ?_; rintro e w' ⟨rfl, hg2⟩))
    go_ret2
    exact ⟨ret_int2 hN.out hE.out, by repeat (first | (with_reducible exact Gr.refl _) | (with_reducible assumption) | (with_reducible refine Gr.alloc ?_ _) | (with_reducible refine Gr.drewN ?_ _) | (with_reducible refine Gr.drew ?_) | (with_reducible refine Gr.grown ?_ _ _) | (with_reducible refine Gr.regrown ?_ _ _) | (with_reducible refine Gr.setCell ?_ (by first | omega | (simp; omega) | simp) _) | (with_reducible refine Gr.trans ?_ (by with_reducible assumption)))⟩
  · have hN : Hid (0 = Ck.inN o d s 2120) := by unfold Ck.inN; rw [if_neg hs]; rfl
    have hE : Hid (Ck.slotE o d s = Ck.inE o d s 2120) := by unfold Ck.inE; rw [if_neg hs]; rfl
    have hb : (Ck.slotE o d s != 0) = true := by simpa using hs
    clear hs
    go_enter Try.func23, Try.ntmps23
    go_wp2_with (first | (go_at_call 50; refine (slot_any _ _ _ _).mono ?_; rintro e w' ⟨rfl, hn⟩; (first | have hg' := Gr.trans hg hn | have hg' := Gr.trans (Gr.alloc hg _) hn | have hg' := Gr.trans (Gr.drewN hg _) hn | have hg' := Gr.trans (Gr.alloc (Gr.alloc hg _) _) hn | have hg' := hn); (try clear hr hf hr2 hf2 hz hz2); (try clear hg); have hg := hg'; clear hg'; have hr := hg.rules.1; have hf := hg.rules.2; have hr2 := hn.rules.1; have hf2 := hn.rules.2; have hz := hg.size; (try simp only [World.size_alloc] at hz); have hz2 := hn.size; (try simp only [World.size_alloc] at hz2); (try clear hy1); (try clear hy2); (try clear hy3); (try have hy1 : w.heap.size < w'.heap.size := by omega); (try have hy2 : w.heap.size + 1 < w'.heap.size := by omega); (try have hy3 : w.heap.size + 1 + 1 < w'.heap.size := by omega); clear hn))
    go_ret2
    exact ⟨ret_int2 hN.out hE.out, by repeat (first | (with_reducible exact Gr.refl _) | (with_reducible assumption) | (with_reducible refine Gr.alloc ?_ _) | (with_reducible refine Gr.drewN ?_ _) | (with_reducible refine Gr.drew ?_) | (with_reducible refine Gr.grown ?_ _ _) | (with_reducible refine Gr.regrown ?_ _ _) | (with_reducible refine Gr.setCell ?_ (by first | omega | (simp; omega) | simp) _) | (with_reducible refine Gr.trans ?_ (by with_reducible assumption)))⟩

/-- what is known of the boxes of a clock that came in and of a clock that goes out, behind a call -/
theorem adj_cells {w w1 : World} {o d : Int} {t : Nat} (hg : Gr ((w.alloc (Obj.cells #[Value.int IntKind.i64 o, Value.int IntKind.i64 d] t)).alloc (Obj.cells #[Value.int IntKind.i64 0, Value.int IntKind.i64 0] t)) w1) :
    w1.cell? ⟨w.heap.size, 0, none⟩ = some (.int .i64 o) ∧ w1.cell? ⟨w.heap.size, 1, none⟩ = some (.int .i64 d) ∧ w1.cell? ⟨w.heap.size + 1, 0, none⟩ = some (.int .i64 0) ∧ w1.cell? ⟨w.heap.size + 1, 1, none⟩ = some (.int .i64 0) ∧
    w1.frozen? ⟨w.heap.size, 0, none⟩ = false ∧ w1.frozen? ⟨w.heap.size + 1, 0, none⟩ = false ∧ w1.frozen? ⟨w.heap.size + 1, 1, none⟩ = false ∧ w.heap.size + 1 < w1.heap.size ∧ Gr w w1 := by
  refine ⟨?_, ?_, ?_, ?_, ?_, ?_, ?_, ?_, (((Gr.refl _).alloc _).alloc _).trans hg⟩
  · rw [hg.cell (by simp; omega)]; go_simp
  · rw [hg.cell (by simp; omega)]; go_simp
  · rw [hg.cell (by simp)]; go_simp
  · rw [hg.cell (by simp)]; go_simp
  · rw [hg.frozen (by simp; omega)]; go_simp
  · rw [hg.frozen (by simp)]; go_simp
  · rw [hg.frozen (by simp)]; go_simp
  · have := hg.size; simp at this; omega

set_option maxHeartbeats 400000 in
theorem adjust_any (o d n : Int) (w : World) :
    Calls Try.prog 64 #[.agg #[.int .i64 o, .int .i64 d], .int .i64 n] w fun e w' => e = .returned (.tuple #[.agg #[.int .i64 (Ck.adjO o d n), .int .i64 (Ck.adjD o d n)], .int .i64 (Ck.adjE o d n)]) ∧ Gr w w' := by
  rcases Ck.chk_01 o d with ⟨hc, v⟩ | ⟨hc, v⟩
  · by_cases hn : -2199023255552 ≤ n ∧ n ≤ 2199023255552
    · obtain ⟨n1, n2⟩ := hn
      obtain ⟨o1, o2, d1, d2⟩ := v
      rcases Ck.chk_01 (o + n) d with ⟨hc2, v2⟩ | ⟨hc2, v2⟩
      all_goals
        go_enter Try.func64, Try.ntmps64
        go_wp2_with fail
        refine (check_any _ _ _).mono ?_
        rintro e w1 ⟨rfl, hg⟩
        obtain ⟨c0, c1, c2, c3, f0, f2, f3, hz, hG⟩ := adj_cells hg
        clear hg
        go_wp2_with fail
        refine (check_any _ _ _).mono ?_
        rintro e w2 ⟨rfl, hg2⟩
        have k0 : w2.cell? ⟨w.heap.size, 0, none⟩ = some (.int .i64 (o + n)) := by rw [hg2.cell (by simp; omega)]; go_simp
        have k1 : w2.cell? ⟨w.heap.size, 1, none⟩ = some (.int .i64 d) := by rw [hg2.cell (by simp; omega)]; go_simp
        have k2 : w2.cell? ⟨w.heap.size + 1, 0, none⟩ = some (.int .i64 0) := by rw [hg2.cell (by simp; omega)]; go_simp
        have k3 : w2.cell? ⟨w.heap.size + 1, 1, none⟩ = some (.int .i64 0) := by rw [hg2.cell (by simp; omega)]; go_simp
        have k4 : w2.frozen? ⟨w.heap.size + 1, 0, none⟩ = false := by rw [hg2.frozen (by simp; omega)]; go_simp
        have k5 : w2.frozen? ⟨w.heap.size + 1, 1, none⟩ = false := by rw [hg2.frozen (by simp; omega)]; go_simp
        have hG2 : Gr w w2 := (hG.setCell (Nat.le_refl _) _).trans hg2
        clear c0 c1 c2 c3 f0 f2 f3 hz hG hg2
        go_wp2
        refine bodyPost_ret (v := .tuple #[.agg #[.int .i64 (Ck.adjO o d n), .int .i64 (Ck.adjD o d n)], .int .i64 (Ck.adjE o d n)]) ?_ rfl ⟨rfl, by repeat (first | (with_reducible exact Gr.refl _) | (with_reducible assumption) | (with_reducible refine Gr.alloc ?_ _) | (with_reducible refine Gr.drewN ?_ _) | (with_reducible refine Gr.drew ?_) | (with_reducible refine Gr.grown ?_ _ _) | (with_reducible refine Gr.regrown ?_ _ _) | (with_reducible refine Gr.setCell ?_ (by first | omega | (simp; omega) | simp) _) | (with_reducible refine Gr.trans ?_ (by with_reducible assumption)))⟩
        first
          | (rw [(Ck.adj_ok hc n1 n2 hc2).1, (Ck.adj_ok hc n1 n2 hc2).2.1, (Ck.adj_ok hc n1 n2 hc2).2.2]; simp [results, Try.results64, go_sem, k2, k3])
          | (rw [(Ck.adj_no2 hc2).1, (Ck.adj_no2 hc2).2.1, (Ck.adj_no2 hc2).2.2]; simp [results, Try.results64, go_sem, k2, k3])
    · have hb : n < -2199023255552 ∨ 2199023255552 < n := by omega
      have hno := Ck.adj_no3 (o := o) (d := d) (n := n) hn
      have HN := Lib.hid hno
      clear hno hn
      rcases hb with hb | hb
      all_goals
        go_enter Try.func64, Try.ntmps64
        go_wp2_with fail
        refine (check_any _ _ _).mono ?_
        rintro e w1 ⟨rfl, hg⟩
        obtain ⟨c0, c1, c2, c3, f0, f2, f3, hz, hG⟩ := adj_cells hg
        clear hg
        go_wp2
        refine bodyPost_ret (v := .tuple #[.agg #[.int .i64 (Ck.adjO o d n), .int .i64 (Ck.adjD o d n)], .int .i64 (Ck.adjE o d n)]) ?_ rfl ⟨rfl, by repeat (first | (with_reducible exact Gr.refl _) | (with_reducible assumption) | (with_reducible refine Gr.alloc ?_ _) | (with_reducible refine Gr.drewN ?_ _) | (with_reducible refine Gr.drew ?_) | (with_reducible refine Gr.grown ?_ _ _) | (with_reducible refine Gr.regrown ?_ _ _) | (with_reducible refine Gr.setCell ?_ (by first | omega | (simp; omega) | simp) _) | (with_reducible refine Gr.trans ?_ (by with_reducible assumption)))⟩
        rw [HN.out.1, HN.out.2.1, HN.out.2.2]
        simp [results, Try.results64, go_sem, c2, c3]
  · have hno := Ck.adj_no1 (o := o) (d := d) (n := n) hc
    have HN := Lib.hid hno
    clear hno
    go_enter Try.func64, Try.ntmps64
    go_wp2_with fail
    refine (check_any _ _ _).mono ?_
    rintro e w1 ⟨rfl, hg⟩
    obtain ⟨c0, c1, c2, c3, f0, f2, f3, hz, hG⟩ := adj_cells hg
    clear hg
    go_wp2
    refine bodyPost_ret (v := .tuple #[.agg #[.int .i64 (Ck.adjO o d n), .int .i64 (Ck.adjD o d n)], .int .i64 (Ck.adjE o d n)]) ?_ rfl ⟨rfl, by repeat (first | (with_reducible exact Gr.refl _) | (with_reducible assumption) | (with_reducible refine Gr.alloc ?_ _) | (with_reducible refine Gr.drewN ?_ _) | (with_reducible refine Gr.drew ?_) | (with_reducible refine Gr.grown ?_ _ _) | (with_reducible refine Gr.regrown ?_ _ _) | (with_reducible refine Gr.setCell ?_ (by first | omega | (simp; omega) | simp) _) | (with_reducible refine Gr.trans ?_ (by with_reducible assumption)))⟩
    rw [HN.out.1, HN.out.2.1, HN.out.2.2]
    simp [results, Try.results64, go_sem, c2, c3]

end Go.Proofs.Ytjiaemmhjkhdhaa
