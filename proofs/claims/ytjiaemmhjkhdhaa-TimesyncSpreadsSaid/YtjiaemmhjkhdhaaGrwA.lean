/- The contracts of guard.Growth, slices.IsSortedFunc at []int, and of the law's comparison. -/
import Derived.Test.YtjiaemmhjkhdhaaRows
import Derived.Test.YtjiaemmhjkhdhaaGr
import Derived.Test.YtjiaemmhjkhdhaaRet
import Derived.Test.YtjiaemmhjkhdhaaRow
import Derived.Test.YtjiaemmhjkhdhaaGrdPlain
import Derived.WalkLawsBesides
import Derived.Laws.EntriesVeiled
import Derived.Handy
import Derived.Deep.LoopGhost
import Derived.Shelf.Abstract
namespace Go.Proofs.Ytjiaemmhjkhdhaa
open Go.RowKit Go.Sort
set_option linter.unusedVariables false

set_option maxHeartbeats 400000 in
theorem gin_any (n m : Int) (w : World) :
    Calls Try.prog 61 #[.int .i64 n, .int .i64 m] w fun e w' => e = .returned (.bool (decide (0 ≤ n ∧ n ≤ m))) ∧ w' = w := by
  go_enter Try.func61, Try.ntmps61
  go_wp2
  all_goals
    go_ret
    exact ⟨ret_bool (by simp <;> omega), rfl⟩

set_option maxHeartbeats 400000 in
theorem gright_any (a b dr : Int) (w : World) :
    Calls Try.prog 60 #[.agg #[.int .i64 a, .int .i64 b, .int .i64 dr]] w fun e w' => e = .returned (.bool (Gd.rgt a b dr)) ∧ Gr w w' := by
  go_enter Try.func60, Try.ntmps60
  go_wp2_with (first | (go_at_call 61; refine (gin_any _ _ _).mono ?_; rintro e w' ⟨rfl, rfl⟩))
  all_goals
    go_ret
    exact ⟨ret_bool (by unfold Gd.rgt; rw [Bool.eq_iff_iff]; simp; omega), by repeat (first | (with_reducible exact Gr.refl _) | (with_reducible assumption) | (with_reducible refine Gr.alloc ?_ _) | (with_reducible refine Gr.drewN ?_ _) | (with_reducible refine Gr.drew ?_) | (with_reducible refine Gr.grown ?_ _ _) | (with_reducible refine Gr.regrown ?_ _ _) | (with_reducible refine Gr.setCell ?_ (by first | omega | (simp; omega) | simp) _) | (with_reducible refine Gr.trans ?_ (by with_reducible assumption)))⟩

set_option maxHeartbeats 400000 in
theorem ggrowth_any (a b dr t : Int) (t0 : 0 ≤ t) (t1 : t ≤ 1099511627776) (d0 : 0 ≤ dr) (hd : dr ≤ 100000) (w : World) :
    Calls Try.prog 62 #[.agg #[.int .i64 a, .int .i64 b, .int .i64 dr], .int .i64 t] w fun e w' => e = .returned (.int .i64 (Gd.gr t dr)) ∧ Gr w w' := by
  obtain ⟨p1, p2⟩ := Gd.pr_bd t dr t0 t1 d0 hd
  go_enter Try.func62, Try.ntmps62
  go_wp2
  go_ret
  exact ⟨rfl, by repeat (first | (with_reducible exact Gr.refl _) | (with_reducible assumption) | (with_reducible refine Gr.alloc ?_ _) | (with_reducible refine Gr.drewN ?_ _) | (with_reducible refine Gr.drew ?_) | (with_reducible refine Gr.grown ?_ _ _) | (with_reducible refine Gr.regrown ?_ _ _) | (with_reducible refine Gr.setCell ?_ (by first | omega | (simp; omega) | simp) _) | (with_reducible refine Gr.trans ?_ (by with_reducible assumption)))⟩

set_option maxHeartbeats 1000000 in
theorem growthE_any (t : Int) (w : World) (t0 : 0 ≤ t) (t1 : t ≤ 1099511627776) :
    Calls Try.prog 40 #[.int .i64 t, .int .i64 100000] w fun e w' => e = .returned (.tuple #[.int .i64 (Gd.gr t 100000), .int .i64 0]) ∧ Gr w w' := by
  have R : Gd.rgt 0 0 100000 = true := by decide
  have C1 := fun W => gright_any 0 0 100000 W
  rw [R] at C1
  have C2 := fun W => ggrowth_any 0 0 100000 t t0 t1 (by decide) (by decide) W
  have C3 := fun W => gin_any t 1099511627776 W
  rw [bt (show 0 ≤ t ∧ t ≤ 1099511627776 from ⟨t0, t1⟩)] at C3
  generalize Gd.gr t 100000 = g at C2 ⊢
  clear R
  go_enter Try.func40, Try.ntmps40
  go_wp2_with fail
  refine (C1 _).mono ?_
  rintro e w1 ⟨rfl, g1⟩
  have c0 := (g1.cell (p := ⟨w.heap.size, 0, none⟩) (by simp)).trans (show _ = some (.int .i64 0) by go_simp)
  have c1 := (g1.cell (p := ⟨w.heap.size, 1, none⟩) (by simp)).trans (show _ = some (.int .i64 0) by go_simp)
  have c2 := (g1.cell (p := ⟨w.heap.size, 2, none⟩) (by simp)).trans (show _ = some (.int .i64 100000) by go_simp)
  have hz := block_lt_of_cell c0
  have G1 : Aside (Gr w w1) := (Gr.alloc (Gr.refl _) _).trans g1
  clear g1 C1
  go_wp2_with fail
  refine (C3 _).mono ?_
  rintro e w2 ⟨rfl, e2⟩
  rw [e2]
  clear e2 C3
  go_wp2_with fail
  refine (C2 _).mono ?_
  rintro e w3 ⟨rfl, g3⟩
  have G3 : Aside (Gr w w3) := G1.out.trans g3
  clear g3 C2 c0 c1 c2 hz
  go_wp2_with fail
  go_ret2
  exact ⟨rfl, G3.out⟩

set_option maxHeartbeats 400000 in
theorem cmp_any (a b : Int) (w : World) (a0 : 0 ≤ a) (a1 : a ≤ 1000) (b0 : 0 ≤ b) (b1 : b ≤ 1000) :
    Calls Try.prog 39 #[.int .i64 a, .int .i64 b] w fun e w' => e = .returned (.int .i64 (a - b)) ∧ Gr w w' := by
  go_enter Try.func39, Try.ntmps39
  go_wp2_with fail
  go_ret
  exact ⟨rfl, Gr.refl _⟩

/-- sorted, or not said -/
def SoPost (L : List Int) (w : World) (e : Ending) (w' : World) : Prop := ∃ b : Bool, e = .returned (.bool b) ∧ (b = true → ∀ i x y, L[i]? = some x → L[i + 1]? = some y → x ≤ y) ∧ Gr w w'

set_option maxHeartbeats 4000000 in
set_option maxRecDepth 100000 in
theorem sorted_any (v : Value) (L : List Int) (w : World) (h : Rows 1 encI w v L) (h0 : 1 ≤ L.length) (h1 : L.length ≤ 1000) (hL : ∀ x ∈ L, 0 ≤ x ∧ x ≤ 1000) :
    Calls Try.prog 38 #[v, .func (.func 39) #[] #[]] w (SoPost L w) := by
  rcases h with ⟨rfl, _⟩ | ⟨b, off, c, hb, rfl, hc⟩
  · simp at h0
  obtain ⟨n, hn⟩ : ∃ n, L.length = n := ⟨_, rfl⟩
  have HN := Lib.hid hn
  have CC : Aside (∀ (i : Nat) x, L[i]? = some x → w.cell? ⟨b, off + i, none⟩ = some (.int .i64 x)) := fun i x hi => by
    have := hc i x hi 0 _ rfl
    rwa [Nat.mul_one, Nat.add_zero] at this
  have HL := Lib.hid hL
  have HB := Lib.hid hb
  rw [hn] at h0 h1 ⊢
  have eg := enters_of Try.func39 (by kernel_rfl) rfl
  have e0 : (n : Int) - 1 = ((n - 1 : Nat) : Int) := by omega
  clear hc hn hL hb
  go_enter Try.func38, Try.ntmps38
  go_wp2_with fail
  clear e0
  go_loopg [4, 5] n (fun gg _ s5 wr => ∃ kk : Nat, kk < n ∧ kk ≤ gg ∧ s5 = .int .i64 (kk : Int) ∧ Aside (Gr w wr) ∧ Aside (∀ i x y, kk ≤ i → L[i]? = some x → L[i + 1]? = some y → x ≤ y))
  case atStart => exact ⟨n - 1, by omega, by omega, by first | rfl | go_num | (congr 1; omega), Gr.refl _, fun i x y hi _ hy => by have := (List.getElem?_eq_some_iff.1 hy).1; rw [HN.out] at this; omega⟩
  case round =>
    obtain ⟨kk, hkk, hgg, rfl, G, AL⟩ := hrel
    by_cases hlt : 0 < kk
    · have hltz : (0 : Int) < (kk : Int) := by omega
      obtain ⟨x, hx⟩ : ∃ x, L[kk]? = some x := ⟨_, List.getElem?_eq_getElem (by rw [HN.out]; exact hkk)⟩
      obtain ⟨y, hy⟩ : ∃ y, L[kk - 1]? = some y := ⟨_, List.getElem?_eq_getElem (by rw [HN.out]; omega)⟩
      obtain ⟨x0, x1⟩ := HL.out x (List.mem_of_getElem? hx)
      obtain ⟨y0, y1⟩ := HL.out y (List.mem_of_getElem? hy)
      have CMP := fun W => cmp_any x y W x0 x1 y0 y1
      have k1 : IntKind.i64.wrap ((kk : Int) - 1) = ((kk - 1 : Nat) : Int) := by rw [IntWalk.i64_in _ (by omega)]; omega
      have k2 : ((kk - 1 : Nat) : Int) < (n : Int) := by omega
      have k3 : (kk : Int) < (n : Int) := by omega
      have k4 : (kk : Int) - 1 = ((kk - 1 : Nat) : Int) := by omega
      have c0 := fun d os => cell_regrown ((G.out.cell (p := ⟨b, off + kk, none⟩) HB.out).trans (CC.out kk x hx)) d os
      have c1 := fun d os => cell_regrown ((G.out.cell (p := ⟨b, off + (kk - 1), none⟩) HB.out).trans (CC.out (kk - 1) y hy)) d os
      have HX := Lib.hid hx
      have HY := Lib.hid hy
      have mixed : Try.prog.follows .mixedOrders = true := by kernel_rfl
      clear hx hy
      by_cases q : x < y
      · have q1 : decide (x - y < 0) = true := bt (by omega)
        clear k4
        go_wp2_with fail
        refine wp_region_quiet_below (by assumption) (by kernel_rfl) ?_; (repeat (first | go_big_quiet_skip | quiet_step ((first | (go_at_call 39; with_reducible exact Gr.meet (CMP _)))))); refine wpQuiet_nil ?_; intro _ hw'; obtain ⟨⟨nq, osq⟩, hw''⟩ := hw'; subst hw''
        go_wp2_with fail
        go_ret
        exact ⟨false, rfl, fun h => (by cases h), G.out.regrown _ _⟩
      · have q1 : decide (x - y < 0) = false := bf (by omega)
        have AL2 : Hid (∀ i x y, kk - 1 ≤ i → L[i]? = some x → L[i + 1]? = some y → x ≤ y) := (show ∀ i x y, _ → _ → _ → _ from fun i x' y' hi hx' hy' => by
          by_cases e : kk ≤ i
          · exact AL.out i x' y' e hx' hy'
          · have ei : i = kk - 1 := by omega
            subst ei
            rw [HY.out] at hx'
            rw [show kk - 1 + 1 = kk by omega, HX.out] at hy'
            cases hx'
            cases hy'
            omega)
        have K4 := Lib.hid k4
        clear k4
        go_wp2_with fail
        refine wp_region_quiet_below (by assumption) (by kernel_rfl) ?_; (repeat (first | go_big_quiet_skip | quiet_step ((first | (go_at_call 39; with_reducible exact Gr.meet (CMP _)))))); refine wpQuiet_nil ?_; intro _ hw'; obtain ⟨⟨nq, osq⟩, hw''⟩ := hw'; subst hw''
        go_wp2_with fail
        go_roundg (kk - 1)
        case measure => omega
        case rel => exact ⟨kk - 1, by omega, Nat.le_refl _, (by first | (rw [K4.out]; done) | (congr 1; exact K4.out) | go_num), G.out.regrown _ _, AL2.out⟩
    · have hltz : ¬ (0 : Int) < (kk : Int) := by omega
      have h00 : kk = 0 := by omega
      subst h00
      go_wp2_with fail
      go_ret
      exact ⟨true, rfl, fun _ i x y hx hy => AL.out i x y (Nat.zero_le _) hx hy, G.out⟩
end Go.Proofs.Ytjiaemmhjkhdhaa
