/- The contract of the reference's Ages. -/
import Derived.Test.YtckkjiaoaeaaoaaR50D
import Derived.Test.YtckkjiaoaeaaoaaLopH
import Derived.Deep.OwnRows
namespace Go.Proofs.Ytckkjiaoaeaaoaa
open Go.RowKit Go.Sort
set_option linter.unusedVariables false

/-- a made row, read as a list -/
theorem rows_made {w : World} {g n : Nat} {F : Nat → Int} {l : List Int} (h : w.rowIs g 3 n (fun i => .int .i64 (F i))) (hl : l.length = n) (hF : ∀ i x, l[i]? = some x → F i = x) : Rows 1 encI w (.slice (some ⟨g, 0, none⟩) n n) l := by
  cases n with
  | zero => 
    obtain rfl := List.eq_nil_of_length_eq_zero hl
    exact Rows.nil _ _
  | succ n =>
    have hb : g < w.heap.size := h.lt
    refine Rows.take hb hl.symm fun i x hi j u hj => ?_
    have hin := (List.getElem?_eq_some_iff.1 hi).1
    match j, hj with
    | 0, hj =>
      simp only [encI, List.getElem?_cons_zero, Option.some.injEq] at hj
      subst hj
      have := h.cell (i := i) (by omega)
      rw [hF i x hi] at this
      rw [Nat.zero_add, Nat.mul_one, Nat.add_zero]
      exact this
    | j + 1, hj => simp at hj

set_option maxHeartbeats 8000000 in
set_option maxRecDepth 100000 in
theorem ragesE_any (l : Lo) (s : Sp) (v : Value) (ds : List Dv) (t : Int) (w : World) (h : Rows 3 encD w v ds) (hbig : ds.length ≤ 1048575) :
    Calls Try.prog 33 #[.agg #[.int .i64 l.id, .int .i64 l.se, .int .i64 l.co, .int .i64 l.ac, .int .i64 l.pe, .int .i64 l.ph, .int .i64 l.ag], .agg #[.int .i64 s.s, .int .i64 s.a], v, .int .i64 t] w (IePost (Lp.chkA l s ds.length t) (Lp.ageR l s ds t) w) := by
  have C1 := fun W => rright_any l s W
  have HD := Lib.hid h
  have DS : Aside (Sl 3 encD w v ds) := h.sl
  obtain ⟨A, c, rfl⟩ := h.slice
  obtain ⟨n, hn⟩ : ∃ n, ds.length = n := ⟨_, rfl⟩
  have HN := Lib.hid hn
  rw [hn] at DS hbig ⊢
  have HD2 : Aside (Rows 3 encD w (.slice A n c) ds) := by rw [hn] at h; exact h
  clear h hn HD
  rcases Lp.rgt_cases l s with hr | hr
  · by_cases ht : 0 ≤ t ∧ t ≤ 4096
    · by_cases hk : n ≤ 1024
      · have K := Lp.chkA_ok hr ht hk
        obtain ⟨t0, t1⟩ := ht
        obtain ⟨N, rfl⟩ : ∃ N : Nat, t = (N : Int) := ⟨t.toNat, by omega⟩
        have R : Hid (Lp.ageR l s ds (N : Int) = Lp.ageL (Lp.fa l s) (Lp.fb l s) ds N) := (show _ = _ by unfold Lp.ageR; rw [HN.out, if_pos K]; rfl)
        have C2 := fun W => rflows_any l s W hr
        have FA := Lib.hid (Lp.fa_ok hr)
        have FB := Lib.hid (Lp.fb_ok hr)
        have PE : Hid (l.ph = (Lp.fa l s).ph ∧ l.pe = (Lp.fa l s).pe) := (show _ ∧ _ from ⟨rfl, rfl⟩)
        rw [K]
        rw [hr] at C1
        have hz : decide ((1024 : Int) < (n : Int)) = false := bf (by omega)
        have N0 : (0 : Int) ≤ (N : Int) := by omega
        have hmk : ∀ W : World, (Instr.makeSlice 30 (.int .i64 (N : Int)) (.int .i64 (N : Int))).run Try.prog W = .ok (.slice (some ⟨W.heap.size, 0, none⟩) N N) (W.alloc (.cells (madeCells #[Value.int .i64 0] N) 3)) := fun W => by
          exact run_make_row' (P := Try.prog) 30 3 (.int .i64 0) 8 Try.underlying30 infoI rfl .i64 .i64 N (by omega) (by omega) W
        generalize Lp.fa l s = fa at R C2 FA PE
        generalize Lp.fb l s = fb at R C2 FB
        clear hr K hk
        go_enter Try.func33, Try.ntmps33
        go_wp2_with fail
        refine (C1 _).mono ?_
        rintro e w1 ⟨rfl, g1⟩
        obtain ⟨L1, S1⟩ := boxed2 (enc := encL) (enc2 := encP) (x := l) (y := s) g1
        have u0 := (L1) 0 _ rfl; have u1 := (L1) 1 _ rfl; have u2 := (L1) 2 _ rfl; have u3 := (L1) 3 _ rfl; have u4 := (L1) 4 _ rfl; have u5 := (L1) 5 _ rfl; have u6 := (L1) 6 _ rfl; (try simp only [Nat.add_zero] at u0); (try simp only [Nat.zero_add] at u0 u1 u2 u3 u4 u5 u6)
        have v0 := (S1) 0 _ rfl; have v1 := (S1) 1 _ rfl; (try simp only [Nat.add_zero] at v0); (try simp only [Nat.zero_add] at v0 v1)
        have hz1 := L1.lt rfl
        have hz2 := S1.lt rfl
        have G1 : Aside (Gr w w1) := (Gr.alloc (Gr.alloc (Gr.refl _) _) _).trans g1
        have LL := Lib.hid L1
        clear g1 L1 S1 C1
        go_wp2_with fail
        refine (C2 _).mono ?_
        rintro e w2 ⟨vr, rfl, rr, g2⟩
        have G2 : Aside (Gr w w2) := G1.out.trans g2
        have L2 := Lib.hid (LL.out.gr g2)
        have RR := Lib.hid rr
        rcases rr with ⟨h, _⟩ | ⟨b2, off2, c2, hb2, rfl, hc2⟩
        · cases h
        have FA2 : Aside (At encF w2 b2 off2 fa) := fun j u hj => by have := hc2 0 fa rfl j u hj; rwa [Nat.zero_mul, Nat.add_zero] at this
        have FB2 : Aside (At encF w2 b2 (off2 + 6) fb) := fun j u hj => by have := hc2 1 fb rfl j u hj; rwa [Nat.one_mul] at this
        clear g2 C2 u0 u1 u2 u3 u4 u5 u6 v0 v1 hz1 hz2 hb2 hc2 LL
        go_wp2_with fail
        have R3 := World.rowIs_made w2 (.int .i64 0) N 3
        have G23 : Aside (Gr w2 (w2.alloc (.cells (madeCells #[Value.int .i64 0] N) 3))) := Gr.alloc (Gr.refl _) _
        have GW : Aside (w.heap.size < w2.heap.size) := L2.out.lt rfl
        generalize hW3 : w2.alloc (.cells (madeCells #[Value.int .i64 0] N) 3) = w3 at R3 G23 ⊢
        generalize hg : w2.heap.size = g at R3 GW ⊢
        have HG := Lib.hid hg
        clear hW3 hg hmk
        have R3' := Lib.hid R3
        clear R3
        have CNT := Lib.hid (fun W i x h1 h2 => rcounts_any fb (.slice A n c) ds i x W FB.out h1 h2 (by rw [HN.out]; exact hbig))
        have CAR := Lib.hid (fun W k h2 h k0 k1 => rcarries_any fa fb (.slice (some ⟨b2, off2, none⟩) 2 c2) (.slice A n c) ds k W FA.out FB.out h2 h (by rw [HN.out]; exact hbig) k0 k1)
        go_loopg [13, 14, 15] N (fun gg s13 _ _ wr => ∃ (kk : Nat) (F : Nat → Int), kk ≤ N ∧ N - kk ≤ gg ∧ s13 = .int .i64 (kk : Int) ∧ Aside (Gr w2 wr) ∧ Aside (wr.rowIs g 3 N (fun i => .int .i64 (F i))) ∧ Aside (∀ i, i < kk → F i = Lp.age fa fb ds i))
        case atStart => exact ⟨0, fun _ => 0, Nat.zero_le _, by omega, rfl, G23.out, R3'.out, fun i hi => absurd hi (Nat.not_lt_zero _)⟩
        case round =>
          obtain ⟨kk, F, hkk, hgg, rfl, G, RW, FF⟩ := hrel
          have GO : Aside (Gr w wr) := G2.out.trans G.out
          by_cases hlt : kk < N
          · have hltz : (kk : Int) < (N : Int) := by omega
            obtain ⟨wx, rfl⟩ : ∃ wx, wx = wr := ⟨_, rfl⟩
            go_wp2_with fail
            go_loopg [14, 15] n (fun gg s14 s15 wr => ∃ (jj : Nat) (M : Int), jj ≤ n ∧ n - jj ≤ gg ∧ s15 = .int .i64 (jj : Int) ∧ s14 = .int .i64 M ∧ Aside (Gr wx wr) ∧ Aside (Lp.IsTop (Lp.inK fa fb ds kk jj) M))
            case atStart => exact ⟨0, -1, Nat.zero_le _, by omega, rfl, rfl, Gr.refl _, Lp.IsTop.none (Lp.inK_zero _ _ _ _)⟩
            case round =>
              obtain ⟨jj, M, hjj, hgg2, rfl, rfl, GX, T⟩ := hrel
              have G2R : Aside (Gr w2 wr) := G.out.trans GX.out
              have GR' : Aside (Gr w wr) := GO.out.trans GX.out
              obtain ⟨mb0, mb1⟩ := Lp.inK_bd T.out
              by_cases hlt2 : jj < n
              · have hltz2 : (jj : Int) < (n : Int) := by omega
                obtain ⟨x, hx⟩ : ∃ x, ds[jj]? = some x := ⟨_, List.getElem?_eq_getElem (by rw [HN.out]; exact hlt2)⟩
                rcases DS.out with h0 | ⟨b, off, ⟨c', hv⟩, hb, hU⟩
                · rw [HN.out] at h0; omega
                simp only [Value.slice.injEq] at hv
                obtain ⟨rfl, -, rfl⟩ := hv
                have XR : Aside (At encD wr b (off + jj * 3) x) := (hU jj x hx).gr GR'.out
                have YR : Aside (At encF wr b2 (off2 + 6) fb) := FB2.out.gr G2R.out
                have C1 := CNT.out wr jj x (HD2.out.gr GR'.out) hx
                have HX := Lib.hid hx
                have y0 := (YR.out) 0 _ rfl; have y1 := (YR.out) 1 _ rfl; have y2 := (YR.out) 2 _ rfl; have y3 := (YR.out) 3 _ rfl; have y4 := (YR.out) 4 _ rfl; have y5 := (YR.out) 5 _ rfl; (try simp only [Nat.add_zero] at y0); (try simp only [Nat.zero_add] at y0 y1 y2 y3 y4 y5)
                have hb2r := YR.out.lt rfl
                clear hU hb hx
                go_wp2_with fail
                refine C1.mono ?_
                rintro e w5 ⟨rfl, g5⟩
                have G5 : Aside (Gr wx w5) := GX.out.trans g5
                have G5w : Aside (Gr w w5) := GR'.out.trans g5
                have G52 : Aside (Gr w2 w5) := G2R.out.trans g5
                have X5 : Aside (At encD w5 b (off + jj * 3) x) := XR.out.gr g5
                have hb5 := X5.out.lt rfl
                clear g5 C1 y0 y1 y2 y3 y4 y5 hb2r
                have l0 := (X5.out) 0 _ rfl; have l1 := (X5.out) 1 _ rfl; have l2 := (X5.out) 2 _ rfl; (try simp only [Nat.add_zero] at l0); (try simp only [Nat.zero_add] at l0 l1 l2)
                by_cases hc : Lp.cnt fb ds jj x
                · rw [bt hc]
                  by_cases hs : x.t < (kk : Int)
                  · have T2 := Lib.hid (T.out.step (c := Lp.car fa ds (Lp.rl fb x.r)) (Lp.car_bd _ _ _).1 (Lp.inK_hit HX.out hc hs))
                    have C2 := CAR.out w5 x.r (RR.out.gr G52.out) (HD2.out.gr G5w.out) hc.1.2.1.1 hc.1.2.1.2
                    have cb := Lp.car_bd fa ds (Lp.rl fb x.r)
                    obtain ⟨cb0, cb1⟩ := cb
                    generalize Lp.car fa ds (Lp.rl fb x.r) = cv at C2 T2 cb0 cb1
                    clear hc
                    go_wp2_with fail
                    refine C2.mono ?_
                    rintro e w6 ⟨rfl, g6⟩
                    have G6 : Aside (Gr wx w6) := G5.out.trans g6
                    clear g6 C2 l0 l1 l2 hb5
                    go_wp2_with fail
                    go_roundg (n - (jj + 1))
                    case measure => omega
                    case rel => exact ⟨jj + 1, max M cv, by omega, by omega, by go_num, rfl, G6.out, T2.out⟩
                  · have T2 := Lib.hid (T.out.same (Lp.inK_miss HX.out (fun q => hs q.2)))
                    clear hc
                    go_wp2_with fail
                    go_roundg (n - (jj + 1))
                    case measure => omega
                    case rel => exact ⟨jj + 1, M, by omega, by omega, by go_num, rfl, G5.out, T2.out⟩
                · rw [bf hc]
                  have T2 := Lib.hid (T.out.same (Lp.inK_miss HX.out (fun q => hc q.1)))
                  clear hc
                  go_wp2_with fail
                  go_roundg (n - (jj + 1))
                  case measure => omega
                  case rel => exact ⟨jj + 1, M, by omega, by omega, by go_num, rfl, G5.out, T2.out⟩
              · have hltz2 : ¬ (jj : Int) < (n : Int) := by omega
                have hjn : jj = n := by omega
                have R : Hid (M = Lp.useN fa fb ds kk) := (show _ = _ from Lp.use_of (by rw [HN.out, ← hjn]; exact T.out))
                have RX : Aside (wr.rowIs g 3 N (fun i => .int .i64 (F i))) := RW.out.of_block (GX.out.block g RW.out.lt)
                have cg := RX.out.cell hlt
                have fz := RX.out.frozen kk
                have GWz := GW.out
                have LR : Aside (At encL wr w.heap.size 0 l) := L2.out.gr G2R.out
                have k0 := (LR.out) 0 _ rfl; have k1 := (LR.out) 1 _ rfl; have k2 := (LR.out) 2 _ rfl; have k3 := (LR.out) 3 _ rfl; have k4 := (LR.out) 4 _ rfl; have k5 := (LR.out) 5 _ rfl; have k6 := (LR.out) 6 _ rfl; (try simp only [Nat.add_zero] at k0); (try simp only [Nat.zero_add] at k0 k1 k2 k3 k4 k5 k6)
                have hzl := LR.out.lt rfl
                have hne : w.heap.size ≠ g := by omega
                have hgz := RX.out.lt
                clear hjn
                by_cases hM : 0 ≤ M
                · obtain ⟨⟨p0, p1⟩, ⟨p2, p3⟩, -⟩ := Lp.rl_bd FA.out hM mb1
                  obtain ⟨pe1, pe2⟩ := PE.out
                  rw [← pe2] at p0 p1
                  rw [← pe1] at p2 p3
                  have AE : Hid (Lp.age fa fb ds kk = (kk : Int) - (l.ph + M * l.pe)) := (show _ = _ by rw [Lp.age_is (by rw [← R.out]; omega), ← R.out]; unfold Lp.rl; rw [← pe1, ← pe2])
                  clear pe1 pe2
                  go_wp2_with fail
                  go_roundg (N - (kk + 1))
                  case measure => omega
                  case rel => exact ⟨kk + 1, fun j => if j = kk then (kk : Int) - (l.ph + M * l.pe) else F j, by omega, by omega, by go_num, (show Gr _ _ from Gr.setCell (Gr.setCell G2R.out (by rw [HG.out]; exact Nat.le_refl _) _) (by rw [HG.out]; exact Nat.le_refl _) _), (show World.rowIs _ _ _ _ _ from ((RX.out.set kk (.int .i64 (-1))).set kk (.int .i64 ((kk : Int) - (l.ph + M * l.pe)))).congr fun j hj => by by_cases e : j = kk <;> simp [e]), (show ∀ i, i < kk + 1 → _ from fun i hi => by
                    by_cases e : i = kk
                    · subst e; simp only [if_true]; exact AE.out.symm
                    · simp only [if_neg e]; exact FF.out i (by omega))⟩
                · have AE := Lib.hid (Lp.age_no (a := fa) (b := fb) (ds := ds) (k := kk) (by rw [← R.out]; omega))
                  go_wp2_with fail
                  go_roundg (N - (kk + 1))
                  case measure => omega
                  case rel => exact ⟨kk + 1, fun j => if j = kk then -1 else F j, by omega, by omega, by go_num, (show Gr _ _ from Gr.setCell G2R.out (by rw [HG.out]; exact Nat.le_refl _) _), (show World.rowIs _ _ _ _ _ from (RX.out.set kk (.int .i64 (-1))).congr fun j hj => by by_cases e : j = kk <;> simp [e]), (show ∀ i, i < kk + 1 → _ from fun i hi => by
                    by_cases e : i = kk
                    · subst e; simp only [if_true]; exact AE.out.symm
                    · simp only [if_neg e]; exact FF.out i (by omega))⟩
          · have hltz : ¬ (kk : Int) < (N : Int) := by omega
            have hkn : kk = N := by omega
            subst hkn
            go_wp2_with fail
            go_ret2
            exact ⟨.slice (some ⟨g, 0, none⟩) kk kk, ret_vi rfl rfl, by rw [R.out]; exact rows_made RW.out (Lp.ageL_len _ _ _ _) (fun i x hi => by
              have hl := (List.getElem?_eq_some_iff.1 hi).1
              rw [Lp.ageL_len] at hl
              rw [FF.out i hl]
              unfold Lp.ageL at hi
              rw [List.getElem?_map, List.getElem?_range hl] at hi
              exact Option.some.inj hi), GO.out⟩
      · have K := Lp.chkA_big hr ht hk
        have R : Hid (Lp.ageR l s ds t = []) := (show _ = _ by unfold Lp.ageR; rw [HN.out, K]; exact if_neg (by decide))
        rw [K]
        rw [hr] at C1
        obtain ⟨t0, t1⟩ := ht
        have hz : decide ((1024 : Int) < (n : Int)) = true := bt (by omega)
        clear hr K hk
        go_enter Try.func33, Try.ntmps33
        go_wp2_with fail
        refine (C1 _).mono ?_
        rintro e w1 ⟨rfl, g1⟩
        have G1 : Aside (Gr w w1) := (Gr.alloc (Gr.alloc (Gr.refl _) _) _).trans g1
        clear g1 C1
        go_wp2_with fail
        go_ret2
        exact ⟨.slice none 0 0, rfl, by rw [R.out]; exact Rows.nil _ _, G1.out⟩
    · have K := Lp.chkA_rng (n := n) hr ht
      have R : Hid (Lp.ageR l s ds t = []) := (show _ = _ by unfold Lp.ageR; rw [HN.out, K]; exact if_neg (by decide))
      rw [K]
      rw [hr] at C1
      clear hr K
      go_enter Try.func33, Try.ntmps33
      go_wp2_with fail
      refine (C1 _).mono ?_
      rintro e w1 ⟨rfl, g1⟩
      have G1 : Aside (Gr w w1) := (Gr.alloc (Gr.alloc (Gr.refl _) _) _).trans g1
      clear g1 C1
      go_wp2_with fail
      all_goals first | (go_ret2; exact ⟨.slice none 0 0, rfl, by rw [R.out]; exact Rows.nil _ _, G1.out⟩) | (exfalso; omega)
  · have K := Lp.chkA_rgt (n := n) (t := t) (show ¬ Lp.rgt l s = 0 by simpa using hr)
    have R : Hid (Lp.ageR l s ds t = []) := (show _ = _ by unfold Lp.ageR; rw [HN.out, K]; exact if_neg (by simpa using hr))
    rw [K]
    generalize Lp.rgt l s = E at *
    clear K
    go_enter Try.func33, Try.ntmps33
    go_wp2_with fail
    refine (C1 _).mono ?_
    rintro e w1 ⟨rfl, g1⟩
    have G1 : Aside (Gr w w1) := (Gr.alloc (Gr.alloc (Gr.refl _) _) _).trans g1
    clear g1 C1
    go_wp2_with fail
    go_ret2
    exact ⟨.slice none 0 0, rfl, by rw [R.out]; exact Rows.nil _ _, G1.out⟩
end Go.Proofs.Ytckkjiaoaeaaoaa
