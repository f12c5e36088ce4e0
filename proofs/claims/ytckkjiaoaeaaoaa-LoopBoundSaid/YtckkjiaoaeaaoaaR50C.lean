/- The contracts of the reference's usable, counts, carries. -/
import Derived.Test.YtckkjiaoaeaaoaaR50B
import Derived.Test.YtckkjiaoaeaaoaaLopCnt
import Derived.Test.YtckkjiaoaeaaoaaLopE
namespace Go.Proofs.Ytckkjiaoaeaaoaa
open Go.RowKit Go.Sort
set_option linter.unusedVariables false

set_option maxHeartbeats 2000000 in
set_option maxRecDepth 100000 in
theorem rusable_any (f : Fl) (d : Dv) (w : World) (hf : Fw.chk 32 f = 0) :
    Calls Try.prog 59 #[.agg #[.int .i64 f.id, .int .i64 f.fr, .int .i64 f.to, .int .i64 f.pe, .int .i64 f.ph, .int .i64 f.de], .agg #[.int .i64 d.f, .int .i64 d.r, .int .i64 d.t]] w fun e w' => e = .returned (.bool (decide (Lp.use f d))) ∧ Gr w w' := by
  by_cases q1 : d.f = f.id
  · have b1 : (d.f == f.id) = true := by simpa using q1
    by_cases q2 : 0 ≤ d.r
    · have b2 : decide (0 ≤ d.r) = true := bt q2
      by_cases q3 : d.r ≤ 1073741824
      · have b3 : decide (d.r ≤ 1073741824) = true := bt q3
        by_cases q4 : 0 ≤ d.t
        · have b4 : decide (0 ≤ d.t) = true := bt q4
          by_cases q5 : d.t ≤ 1073741824
          · have b5 : decide (d.t ≤ 1073741824) = true := bt q5
            obtain ⟨⟨p0, p1⟩, ⟨p2, p3⟩, ⟨p4, p5⟩⟩ := Lp.rl_bd hf q2 q3
            have D : Hid (decide (f.ph + d.r * f.pe ≤ d.t) = decide (Lp.use f d)) := (show _ = _ by unfold Lp.use Lp.rl; simp only [q1, q2, q3, q4, q5, true_and])
            clear q1 hf
            go_enter Try.func59, Try.ntmps59
            go_wp2_with fail
            go_ret
            exact ⟨ret_bool D.out, by repeat (first | (with_reducible exact Gr.refl _) | (with_reducible assumption) | (with_reducible refine Gr.alloc ?_ _) | (with_reducible refine Gr.drewN ?_ _) | (with_reducible refine Gr.drew ?_) | (with_reducible refine Gr.grown ?_ _ _) | (with_reducible refine Gr.regrown ?_ _ _) | (with_reducible refine Gr.setCell ?_ (by first | omega | (simp; omega) | simp) _) | (with_reducible refine Gr.trans ?_ (by with_reducible assumption)))⟩
          · have b5 : decide (d.t ≤ 1073741824) = false := bf q5
            have D : Hid (false = decide (Lp.use f d)) := (show _ = _ from (bf (fun k => q5 k.2.2.1.2)).symm)
            clear q1 q5 hf
            go_enter Try.func59, Try.ntmps59
            go_wp2_with fail
            go_ret
            exact ⟨ret_bool D.out, by repeat (first | (with_reducible exact Gr.refl _) | (with_reducible assumption) | (with_reducible refine Gr.alloc ?_ _) | (with_reducible refine Gr.drewN ?_ _) | (with_reducible refine Gr.drew ?_) | (with_reducible refine Gr.grown ?_ _ _) | (with_reducible refine Gr.regrown ?_ _ _) | (with_reducible refine Gr.setCell ?_ (by first | omega | (simp; omega) | simp) _) | (with_reducible refine Gr.trans ?_ (by with_reducible assumption)))⟩
        · have b4 : decide (0 ≤ d.t) = false := bf q4
          have D : Hid (false = decide (Lp.use f d)) := (show _ = _ from (bf (fun k => q4 k.2.2.1.1)).symm)
          clear q1 q4 hf
          go_enter Try.func59, Try.ntmps59
          go_wp2_with fail
          go_ret
          exact ⟨ret_bool D.out, by repeat (first | (with_reducible exact Gr.refl _) | (with_reducible assumption) | (with_reducible refine Gr.alloc ?_ _) | (with_reducible refine Gr.drewN ?_ _) | (with_reducible refine Gr.drew ?_) | (with_reducible refine Gr.grown ?_ _ _) | (with_reducible refine Gr.regrown ?_ _ _) | (with_reducible refine Gr.setCell ?_ (by first | omega | (simp; omega) | simp) _) | (with_reducible refine Gr.trans ?_ (by with_reducible assumption)))⟩
      · have b3 : decide (d.r ≤ 1073741824) = false := bf q3
        have D : Hid (false = decide (Lp.use f d)) := (show _ = _ from (bf (fun k => q3 k.2.1.2)).symm)
        clear q1 q3 hf
        go_enter Try.func59, Try.ntmps59
        go_wp2_with fail
        go_ret
        exact ⟨ret_bool D.out, by repeat (first | (with_reducible exact Gr.refl _) | (with_reducible assumption) | (with_reducible refine Gr.alloc ?_ _) | (with_reducible refine Gr.drewN ?_ _) | (with_reducible refine Gr.drew ?_) | (with_reducible refine Gr.grown ?_ _ _) | (with_reducible refine Gr.regrown ?_ _ _) | (with_reducible refine Gr.setCell ?_ (by first | omega | (simp; omega) | simp) _) | (with_reducible refine Gr.trans ?_ (by with_reducible assumption)))⟩
    · have b2 : decide (0 ≤ d.r) = false := bf q2
      have D : Hid (false = decide (Lp.use f d)) := (show _ = _ from (bf (fun k => q2 k.2.1.1)).symm)
      clear q1 q2 hf
      go_enter Try.func59, Try.ntmps59
      go_wp2_with fail
      go_ret
      exact ⟨ret_bool D.out, by repeat (first | (with_reducible exact Gr.refl _) | (with_reducible assumption) | (with_reducible refine Gr.alloc ?_ _) | (with_reducible refine Gr.drewN ?_ _) | (with_reducible refine Gr.drew ?_) | (with_reducible refine Gr.grown ?_ _ _) | (with_reducible refine Gr.regrown ?_ _ _) | (with_reducible refine Gr.setCell ?_ (by first | omega | (simp; omega) | simp) _) | (with_reducible refine Gr.trans ?_ (by with_reducible assumption)))⟩
  · have b1 : (d.f == f.id) = false := by simpa using q1
    have D : Hid (false = decide (Lp.use f d)) := (show _ = _ from (bf (fun k => q1 k.1)).symm)
    clear q1 hf
    go_enter Try.func59, Try.ntmps59
    go_wp2_with fail
    go_ret
    exact ⟨ret_bool D.out, by repeat (first | (with_reducible exact Gr.refl _) | (with_reducible assumption) | (with_reducible refine Gr.alloc ?_ _) | (with_reducible refine Gr.drewN ?_ _) | (with_reducible refine Gr.drew ?_) | (with_reducible refine Gr.grown ?_ _ _) | (with_reducible refine Gr.regrown ?_ _ _) | (with_reducible refine Gr.setCell ?_ (by first | omega | (simp; omega) | simp) _) | (with_reducible refine Gr.trans ?_ (by with_reducible assumption)))⟩

set_option maxHeartbeats 4000000 in
set_option maxRecDepth 100000 in
theorem rcounts_any (f : Fl) (v : Value) (ds : List Dv) (i : Nat) (x : Dv) (w : World) (hf : Fw.chk 32 f = 0) (h : Rows 3 encD w v ds) (hx : ds[i]? = some x) (hl : ds.length ≤ 1048575) :
    Calls Try.prog 54 #[.agg #[.int .i64 f.id, .int .i64 f.fr, .int .i64 f.to, .int .i64 f.pe, .int .i64 f.ph, .int .i64 f.de], v, .int .i64 (i : Int)] w fun e w' => e = .returned (.bool (decide (Lp.cnt f ds i x))) ∧ Gr w w' := by
  have hi := (List.getElem?_eq_some_iff.1 hx).1
  rcases h with ⟨rfl, _⟩ | ⟨b, off, c, hb, rfl, hc⟩
  · simp at hx
  obtain ⟨n, hn⟩ : ∃ n, ds.length = n := ⟨_, rfl⟩
  have DS : Aside (∀ (i : Nat) x, ds[i]? = some x → At encD w b (off + i * 3) x) := fun i x hi j u hj => hc i x hi j u hj
  have USE := fun d W => rusable_any f d W hf
  have HN := Lib.hid hn
  have HX := Lib.hid hx
  rw [hn] at hl hi ⊢
  have hin : (i : Int) < (n : Int) := by omega
  have mixed : Try.prog.follows .mixedOrders = true := by kernel_rfl
  clear hc hn hf hx
  go_enter Try.func54, Try.ntmps54
  go_wp2_with fail
  have BX : Aside (At encF (w.alloc (Obj.cells (encF f).toArray 47)) w.heap.size 0 f) := At.new encF w f _
  have G0 : Aside (Gr w (w.alloc (Obj.cells (encF f).toArray 47))) := Gr.alloc (Gr.refl _) _
  generalize w.alloc (Obj.cells (encF f).toArray 47) = w0 at BX G0 ⊢
  go_loopg [6, 7] i (fun gg _ s7 wr => ∃ kk : Nat, kk ≤ i ∧ i - kk ≤ gg ∧ s7 = .int .i64 (kk : Int) ∧ Aside (Gr w0 wr) ∧ Aside (Lp.arr f (ds.take kk) x.r = none))
  case atStart => exact ⟨0, Nat.zero_le _, by omega, rfl, Gr.refl _, rfl⟩
  case round =>
    obtain ⟨kk, hkk, hgg, rfl, G, NO⟩ := hrel
    have GW : Aside (Gr w wr) := G0.out.trans G.out
    have XR : Aside (At encD wr b (off + i * 3) x) := (DS.out i x HX.out).gr GW.out
    have FR : Aside (At encF wr w.heap.size 0 f) := BX.out.gr G.out
    by_cases hlt : kk < i
    · have hltz : (kk : Int) < (i : Int) := by omega
      have hkn : (kk : Int) < (n : Int) := by omega
      obtain ⟨y, hy⟩ : ∃ y, ds[kk]? = some y := ⟨_, List.getElem?_eq_getElem (by rw [HN.out]; omega)⟩
      have YR : Aside (At encD wr b (off + kk * 3) y) := (DS.out kk y hy).gr GW.out
      have TK := Lib.hid (take_snoc' hy)
      have HY := Lib.hid hy
      have U := fun W => USE y W
      clear hy
      go_wp2_with fail
      have x0 := fun dq oq => cell_regrown ((XR.out) 0 _ rfl) dq oq; have x1 := fun dq oq => cell_regrown ((XR.out) 1 _ rfl) dq oq; have x2 := fun dq oq => cell_regrown ((XR.out) 2 _ rfl) dq oq; (try simp only [Nat.add_zero] at x0); (try simp only [Nat.zero_add] at x0 x1 x2)
      have y0 := fun dq oq => cell_regrown ((YR.out) 0 _ rfl) dq oq; have y1 := fun dq oq => cell_regrown ((YR.out) 1 _ rfl) dq oq; have y2 := fun dq oq => cell_regrown ((YR.out) 2 _ rfl) dq oq; (try simp only [Nat.add_zero] at y0); (try simp only [Nat.zero_add] at y0 y1 y2)
      have z0 := fun dq oq => cell_regrown ((FR.out) 0 _ rfl) dq oq; have z1 := fun dq oq => cell_regrown ((FR.out) 1 _ rfl) dq oq; have z2 := fun dq oq => cell_regrown ((FR.out) 2 _ rfl) dq oq; have z3 := fun dq oq => cell_regrown ((FR.out) 3 _ rfl) dq oq; have z4 := fun dq oq => cell_regrown ((FR.out) 4 _ rfl) dq oq; have z5 := fun dq oq => cell_regrown ((FR.out) 5 _ rfl) dq oq; (try simp only [Nat.add_zero] at z0); (try simp only [Nat.zero_add] at z0 z1 z2 z3 z4 z5)
      by_cases hu : Lp.use f y
      · rw [bt hu] at U
        have HU := Lib.hid hu
        clear hu
        by_cases hr : y.r = x.r
        · have hr2 : (y.r == x.r) = true := by simpa using hr
          have D : Hid (false = decide (Lp.cnt f ds i x)) := (show _ = _ from (bf (fun k => by
            have h1 := Lp.arr_none.1 k.2 y (List.mem_of_getElem? (i := kk) (by rw [List.getElem?_take, if_pos hlt]; exact HY.out))
            exact h1 ⟨HU.out, hr⟩)).symm)
          clear hr
          refine wp_region_quiet_below (by assumption) (by kernel_rfl) ?_; (repeat (first | go_big_quiet_skip | quiet_step ((first | (go_at_call 59; with_reducible exact Gr.meet (U _)))))); refine wpQuiet_nil ?_; intro _ hw'; obtain ⟨⟨nq, osq⟩, hw''⟩ := hw'; subst hw''
          go_wp2_with fail
          go_ret
          exact ⟨ret_bool D.out, (show Gr _ _ from GW.out.regrown _ _)⟩
        · have hr2 : (y.r == x.r) = false := by simpa using hr
          have NX : Hid (Lp.arr f (ds.take (kk + 1)) x.r = none) := (show _ = _ by rw [TK.out, Lp.arr_snoc, NO.out]; simp only; rw [if_neg (fun q => hr q.2)])
          clear hr
          refine wp_region_quiet_below (by assumption) (by kernel_rfl) ?_; (repeat (first | go_big_quiet_skip | quiet_step ((first | (go_at_call 59; with_reducible exact Gr.meet (U _)))))); refine wpQuiet_nil ?_; intro _ hw'; obtain ⟨⟨nq, osq⟩, hw''⟩ := hw'; subst hw''
          go_wp2_with fail
          go_roundg (i - (kk + 1))
          case measure => omega
          case rel => exact ⟨kk + 1, by omega, by omega, by go_num, (show Gr _ _ from G.out.regrown _ _), NX.out⟩
      · rw [bf hu] at U
        have NX : Hid (Lp.arr f (ds.take (kk + 1)) x.r = none) := (show _ = _ by rw [TK.out, Lp.arr_snoc, NO.out]; simp only; rw [if_neg (fun q => hu q.1)])
        clear hu
        refine wp_region_quiet_below (by assumption) (by kernel_rfl) ?_; (repeat (first | go_big_quiet_skip | quiet_step ((first | (go_at_call 59; with_reducible exact Gr.meet (U _)))))); refine wpQuiet_nil ?_; intro _ hw'; obtain ⟨⟨nq, osq⟩, hw''⟩ := hw'; subst hw''
        go_wp2_with fail
        go_roundg (i - (kk + 1))
        case measure => omega
        case rel => exact ⟨kk + 1, by omega, by omega, by go_num, (show Gr _ _ from G.out.regrown _ _), NX.out⟩
    · have hltz : ¬ (kk : Int) < (i : Int) := by omega
      have hki : kk = i := by omega
      have D : Hid (decide (Lp.use f x) = decide (Lp.cnt f ds i x)) := (show _ = _ by
        have := NO.out
        rw [hki] at this
        unfold Lp.cnt
        simp only [this, and_true])
      clear hki
      have U := fun W => USE x W
      go_wp2_with fail
      have x0 := fun dq oq => cell_regrown ((XR.out) 0 _ rfl) dq oq; have x1 := fun dq oq => cell_regrown ((XR.out) 1 _ rfl) dq oq; have x2 := fun dq oq => cell_regrown ((XR.out) 2 _ rfl) dq oq; (try simp only [Nat.add_zero] at x0); (try simp only [Nat.zero_add] at x0 x1 x2)
      have z0 := fun dq oq => cell_regrown ((FR.out) 0 _ rfl) dq oq; have z1 := fun dq oq => cell_regrown ((FR.out) 1 _ rfl) dq oq; have z2 := fun dq oq => cell_regrown ((FR.out) 2 _ rfl) dq oq; have z3 := fun dq oq => cell_regrown ((FR.out) 3 _ rfl) dq oq; have z4 := fun dq oq => cell_regrown ((FR.out) 4 _ rfl) dq oq; have z5 := fun dq oq => cell_regrown ((FR.out) 5 _ rfl) dq oq; (try simp only [Nat.add_zero] at z0); (try simp only [Nat.zero_add] at z0 z1 z2 z3 z4 z5)
      generalize decide (Lp.use f x) = ux at U D
      refine wp_region_quiet_below (by assumption) (by kernel_rfl) ?_; (repeat (first | go_big_quiet_skip | quiet_step ((first | (go_at_call 59; with_reducible exact Gr.meet (U _)))))); refine wpQuiet_nil ?_; intro _ hw'; obtain ⟨⟨nq, osq⟩, hw''⟩ := hw'; subst hw''
      go_wp2_with fail
      go_ret
      exact ⟨ret_bool D.out, (show Gr _ _ from GW.out.regrown _ _)⟩

set_option maxHeartbeats 4000000 in
set_option maxRecDepth 100000 in
theorem rcarries_any (fa fb : Fl) (v2 v : Value) (ds : List Dv) (k : Int) (w : World) (ha : Fw.chk 32 fa = 0) (hb : Fw.chk 32 fb = 0) (h2 : Rows 6 encF w v2 [fa, fb]) (h : Rows 3 encD w v ds) (hl : ds.length ≤ 1048575) (k0 : 0 ≤ k) (k1 : k ≤ 1073741824) :
    Calls Try.prog 53 #[v2, v, .int .i64 k] w fun e w' => e = .returned (.int .i64 (Lp.car fa ds (Lp.rl fb k))) ∧ Gr w w' := by
  rcases h2 with ⟨h, _⟩ | ⟨b2, off2, c2, hb2, rfl, hc2⟩
  · cases h
  have FA : Aside (At encF w b2 off2 fa) := fun j u hj => by have := hc2 0 fa rfl j u hj; rwa [Nat.zero_mul, Nat.add_zero] at this
  have FB : Aside (At encF w b2 (off2 + 6) fb) := fun j u hj => by have := hc2 1 fb rfl j u hj; rwa [Nat.one_mul] at this
  have DS : Aside (Sl 3 encD w v ds) := h.sl
  have RD : Aside (Rows 3 encD w v ds) := h
  obtain ⟨A, c, rfl⟩ := h.slice
  obtain ⟨n, hn⟩ : ∃ n, ds.length = n := ⟨_, rfl⟩
  have CNT := fun W i x h1 h2 => rcounts_any fa (.slice A n c) ds i x W ha h1 h2 hl
  obtain ⟨⟨p0, p1⟩, ⟨p2, p3⟩, ⟨p4, p5⟩⟩ := Lp.rl_bd hb k0 k1
  obtain ⟨t, ht⟩ : ∃ t, fb.ph + k * fb.pe = t := ⟨_, rfl⟩
  have HT : Hid (Lp.rl fb k = t) := (show _ = _ from ht)
  have HN := Lib.hid hn
  rw [hn] at hl ⊢
  have RD2 : Aside (Rows 3 encD w (.slice A n c) ds) := by rw [hn] at RD; exact RD
  have CN := Lib.hid CNT
  clear hc2 hn ha hb h RD CNT
  go_enter Try.func53, Try.ntmps53
  go_wp2_with fail
  have y0 := (FB.out) 0 _ rfl; have y1 := (FB.out) 1 _ rfl; have y2 := (FB.out) 2 _ rfl; have y3 := (FB.out) 3 _ rfl; have y4 := (FB.out) 4 _ rfl; have y5 := (FB.out) 5 _ rfl; (try simp only [Nat.add_zero] at y0); (try simp only [Nat.zero_add] at y0 y1 y2 y3 y4 y5)
  have mul : IntKind.i64.wrap (k * fb.pe) = k * fb.pe := IntWalk.i64_in _ (by omega)
  have add : IntKind.i64.wrap (fb.ph + k * fb.pe) = fb.ph + k * fb.pe := IntWalk.i64_in _ (by omega)
  go_quiet (fail)
  clear ht mul add y0 y1 y2 y3 y4 y5
  go_wp2_with fail
  go_loopg [8, 9] n (fun gg s8 s9 wr => ∃ (kk : Nat) (M : Int), kk ≤ n ∧ n - kk ≤ gg ∧ s9 = .int .i64 (kk : Int) ∧ s8 = .int .i64 M ∧ Aside (Gr w wr) ∧ Aside (Lp.IsTop (Lp.befK fa ds t kk) M))
  case atStart => exact ⟨0, -1, Nat.zero_le _, by omega, rfl, rfl, (show Gr _ _ from (Gr.refl w).drewN _), Lp.IsTop.none (Lp.befK_zero _ _ _)⟩
  case round =>
    obtain ⟨kk, M, hkk, hgg, rfl, rfl, G, T⟩ := hrel
    obtain ⟨mb0, mb1⟩ := Lp.befK_bd T.out
    by_cases hlt : kk < n
    · have hltz : (kk : Int) < (n : Int) := by omega
      obtain ⟨x, hx⟩ : ∃ x, ds[kk]? = some x := ⟨_, List.getElem?_eq_getElem (by rw [HN.out]; exact hlt)⟩
      rcases DS.out with h0 | ⟨b, off, ⟨c', hv⟩, hb, hU⟩
      · rw [HN.out] at h0; omega
      simp only [Value.slice.injEq] at hv
      obtain ⟨rfl, -, rfl⟩ := hv
      have XR : Aside (At encD wr b (off + kk * 3) x) := (hU kk x hx).gr G.out
      have YR : Aside (At encF wr b2 off2 fa) := FA.out.gr G.out
      have hbr := XR.out.lt rfl
      have hb2r := YR.out.lt rfl
      have C1 := CN.out wr kk x (RD2.out.gr G.out) hx
      have HX := Lib.hid hx
      have y0 := (YR.out) 0 _ rfl; have y1 := (YR.out) 1 _ rfl; have y2 := (YR.out) 2 _ rfl; have y3 := (YR.out) 3 _ rfl; have y4 := (YR.out) 4 _ rfl; have y5 := (YR.out) 5 _ rfl; (try simp only [Nat.add_zero] at y0); (try simp only [Nat.zero_add] at y0 y1 y2 y3 y4 y5)
      clear hU hb hx
      go_wp2_with fail
      refine C1.mono ?_
      rintro e w5 ⟨rfl, g5⟩
      have G5 : Aside (Gr w w5) := G.out.trans g5
      have X5 : Aside (At encD w5 b (off + kk * 3) x) := XR.out.gr g5
      have hb5 := X5.out.lt rfl
      clear g5 C1 y0 y1 y2 y3 y4 y5 hbr hb2r
      have l0 := (X5.out) 0 _ rfl; have l1 := (X5.out) 1 _ rfl; have l2 := (X5.out) 2 _ rfl; (try simp only [Nat.add_zero] at l0); (try simp only [Nat.zero_add] at l0 l1 l2)
      by_cases hc : Lp.cnt fa ds kk x
      · rw [bt hc]
        by_cases hs : x.t < t
        · have T2 := Lib.hid (T.out.step (c := x.r) (by have := hc.1.2.1.1; omega) (Lp.befK_hit HX.out hc hs))
          clear hc
          go_wp2_with fail
          go_roundg (n - (kk + 1))
          case measure => omega
          case rel => exact ⟨kk + 1, max M x.r, by omega, by omega, by go_num, rfl, G5.out, T2.out⟩
        · have T2 := Lib.hid (T.out.same (Lp.befK_miss HX.out (fun q => hs q.2)))
          clear hc
          go_wp2_with fail
          go_roundg (n - (kk + 1))
          case measure => omega
          case rel => exact ⟨kk + 1, M, by omega, by omega, by go_num, rfl, G5.out, T2.out⟩
      · rw [bf hc]
        have T2 := Lib.hid (T.out.same (Lp.befK_miss HX.out (fun q => hc q.1)))
        clear hc
        go_wp2_with fail
        go_roundg (n - (kk + 1))
        case measure => omega
        case rel => exact ⟨kk + 1, M, by omega, by omega, by go_num, rfl, G5.out, T2.out⟩
    · have hltz : ¬ (kk : Int) < (n : Int) := by omega
      have hkn : kk = n := by omega
      have R : Hid (M = Lp.car fa ds (Lp.rl fb k)) := (show _ = _ by rw [HT.out]; exact Lp.car_of (by rw [HN.out, ← hkn]; exact T.out))
      go_wp2_with fail
      go_ret
      exact ⟨ret_int R.out, G.out⟩
end Go.Proofs.Ytckkjiaoaeaaoaa
