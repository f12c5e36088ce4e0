/- The contract of package loop's carries. -/
import Derived.Test.YtckkjiaoaeaaoaaLopE
namespace Go.Proofs.Ytckkjiaoaeaaoaa
open Go.RowKit Go.Sort Go.Maps
set_option linter.unusedVariables false

/-- what the loop of carries has found so far: of the entries that are no longer to come -/
def CR (f : Fl) (ds : List Dv) (t : Int) (left : Lit → Bool) (best : Int) : Prop :=
  (best = -1 ∨ (0 ≤ best ∧ Lp.bef f ds t best)) ∧ (∀ m : Int, Lp.bef f ds t m → left (.int .i64 m) = false → m ≤ best) ∧ (∀ m : Int, left (.int .i64 m) = true → (Lp.arr f ds m).isSome = true)
theorem CR.start {f : Fl} {ds : List Dv} {D : DataW Unit} (t : Int) (h : Reads D (Lp.arr f ds)) : CR f ds t (Maps.has D) (-1) := by
  refine ⟨.inl rfl, fun m ⟨s, hs, _⟩ hl => ?_, fun m hm => ?_⟩
  · rw [(h.2 m).1, hs] at hl; cases hl
  · rw [(h.2 m).1] at hm; exact hm
theorem CR.done {f : Fl} {ds : List Dv} {t : Int} {left : Lit → Bool} {best : Int} (h : CR f ds t left best) (hl : ∀ kl, left kl = false) : best = Lp.car f ds t :=
  Lp.car_eq ⟨h.1, fun m hm => h.2.1 m hm (hl _)⟩
theorem CR.le {f : Fl} {ds : List Dv} {t : Int} {left : Lit → Bool} {best : Int} (h : CR f ds t left best) : -1 ≤ best ∧ best ≤ 1073741824 := by
  rcases h.1 with h | ⟨h, s, hs, _⟩
  · omega
  · have := (Lp.arr_bd hs).1; omega
theorem strike_ne {left : Lit → Bool} {x m : Int} (h : m ≠ x) : (left (.int .i64 m) && !(Lit.int .i64 m).sameKey (.int .i64 x)) = left (.int .i64 m) := by
  rw [Maps.sameKey_ne (by intro q; cases q; exact h rfl)]; simp
theorem CR.hit {f : Fl} {ds : List Dv} {t x c : Int} {left : Lit → Bool} {best : Int} (h : CR f ds t left best) (hx : Lp.arr f ds x = some c) (hc : c < t) : CR f ds t (fun z => left z && !z.sameKey (.int .i64 x)) (max best x) := by
  have x0 := (Lp.arr_bd hx).1
  refine ⟨?_, fun m hm hl => ?_, fun m hm => ?_⟩
  · by_cases q : x ≤ best
    · rw [show max best x = best by omega]; exact h.1
    · rw [show max best x = x by omega]; exact .inr ⟨x0.1, c, hx, hc⟩
  · by_cases e : m = x
    · omega
    · simp only [strike_ne e] at hl
      have := h.2.1 m hm hl
      omega
  · simp only [Bool.and_eq_true] at hm
    exact h.2.2 m hm.1
theorem CR.miss {f : Fl} {ds : List Dv} {t x c : Int} {left : Lit → Bool} {best : Int} (h : CR f ds t left best) (hx : Lp.arr f ds x = some c) (hc : ¬ c < t) : CR f ds t (fun z => left z && !z.sameKey (.int .i64 x)) best := by
  refine ⟨h.1, fun m hm hl => ?_, fun m hm => ?_⟩
  · by_cases e : m = x
    · subst e
      obtain ⟨s, hs, hst⟩ := hm
      rw [hx] at hs
      cases hs
      exact absurd hst hc
    · simp only [strike_ne e] at hl
      exact h.2.1 m hm hl
  · simp only [Bool.and_eq_true] at hm
    exact h.2.2 m hm.1
theorem reads_at {f : Fl} {ds : List Dv} {D : DataW Unit} {x c : Int} (h : Reads D (Lp.arr f ds)) (hs : (Lp.arr f ds x).isSome = true) (ha : ∀ zd, D.atKey (.int .i64 x) zd = .lit (.int .i64 c)) : Lp.arr f ds x = some c := by
  obtain ⟨t, ht⟩ := Option.isSome_iff_exists.1 hs
  have := (h.2 x).2 t (.lit (.int .i64 0)) ht
  rw [ha] at this
  simp only [DataW.lit.injEq, Lit.int.injEq, true_and] at this
  rw [ht, this]
theorem ranges_gr {w w' : World} {b r n cnt : Nat} {D : DataW Unit} {left : Lit → Bool} (h : w.ranges Try.prog 3 (plainElem (H := Unit) Try.prog 3) b r n D left cnt) (g : Gr w w') : w'.ranges Try.prog 3 (plainElem (H := Unit) Try.prog 3) b r n D left cnt := by
  obtain ⟨es, clock, since, seen, c0, h1, h2, h3, h4, h5, h6⟩ := h
  have hb : ∀ {k : Nat} {o : Obj}, w.heap[k]? = some o → k < w.heap.size := fun {k o} hk => by
    by_cases q : k < w.heap.size
    · exact q
    · rw [Array.getElem?_eq_none (by omega)] at hk; cases hk
  exact ⟨es, clock, since, seen, c0, (g.block _ (hb h1)).trans h1, h2, h3, h4, (g.block _ (hb h5)).trans h5, h6⟩

set_option maxHeartbeats 4000000 in
theorem carries_any (f : Fl) (ds : List Dv) (t : Int) (b : Nat) (w : World) (h : MapAt w b (Lp.arr f ds)) :
    Calls Try.prog 50 #[.map (some b), .int .i64 t] w fun e w' => e = .returned (.int .i64 (Lp.car f ds t)) ∧ Gr w w' := by
  obtain ⟨n, D, hn, hown, hR⟩ := h
  have HR := Lib.hid hR
  have hbw := hown.lt
  clear hR hn
  go_enter Try.func50, Try.ntmps50
  go_wp2_with (at_range; refine wpList_range_own _ rfl _ 77 rfl 3 3 lawI Try.underlying77 _ b n D rfl hown ?_; intro w0 hrg0 hg0 hs0; have RG0 := Lib.hid hrg0; have G0 := Lib.hid hg0; clear hrg0 hg0 hs0)
  go_frame
  go_loopg [5, 6, 7] (Maps.size D) (fun gg s5 _ _ wr => ∃ (left : Lit → Bool) (cnt : Nat) (best : Int), cnt ≤ gg ∧ s5 = .int .i64 best ∧ Aside (wr.ranges Try.prog 3 (plainElem (H := Unit) Try.prog 3) b w.heap.size n D left cnt) ∧ Aside (Gr w wr) ∧ Aside (CR f ds t left best))
  case atStart => exact ⟨Maps.has D, Maps.size D, -1, Nat.le_refl _, rfl, RG0.out, (show Gr _ _ from Gr.append (Gr.refl _) G0.out (fun k hk => by cases hk)), CR.start t HR.out⟩
  case round =>
    obtain ⟨left, cnt, best, hcg, rfl, RG, G, C⟩ := hrel
    have bl := C.out.le
    obtain ⟨bl0, bl1⟩ := bl
    go_wp2_with (at_next; refine wpList_next_ranges_ii _ rfl _ rfl 3 3 .i64 .i64 lawI Try.underlying3 Try.underlying3 b w.heap.size n _ _ _ rfl RG.out ?_ ?_)
    · intro _ hl0
      have E := Lib.hid (C.out.done hl0)
      clear hl0
      go_wp2_with fail
      go_ret
      exact ⟨ret_int E.out, G.out⟩
    · intro x c w1 cnt1 hwx hwc hlx hat hrg1 hlt hg1 hs1 hen
      have AX := reads_at HR.out (C.out.2.2 x hlx) hat
      have xb := (Lp.arr_bd AX).1
      obtain ⟨x0, x1⟩ := xb
      have HAX := Lib.hid AX
      have RG1 := Lib.hid hrg1
      have G1 : Aside (Gr w w1) := Gr.append G.out hg1 (fun k hk => by cases hk; exact Nat.le_refl _)
      clear hat hrg1 hg1 hs1 hlx AX hwx hwc
      by_cases hc : c < t
      · have CH := Lib.hid (C.out.hit HAX.out hc)
        go_wp2_with fail
        go_roundg cnt1
        case measure => omega
        case rel => exact ⟨_, cnt1, _, Nat.le_refl _, rfl, RG1.out, G1.out, CH.out⟩
      · have CM := Lib.hid (C.out.miss HAX.out hc)
        go_wp2_with fail
        go_roundg cnt1
        case measure => omega
        case rel => exact ⟨_, cnt1, _, Nat.le_refl _, rfl, RG1.out, G1.out, CM.out⟩
end Go.Proofs.Ytckkjiaoaeaaoaa
