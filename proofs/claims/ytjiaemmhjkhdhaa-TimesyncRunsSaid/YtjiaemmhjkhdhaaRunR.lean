/- The contract of the reference's Run. -/
import Derived.Test.YtjiaemmhjkhdhaaStepR
import Derived.Test.YtjiaemmhjkhdhaaRunC
import Derived.Test.YtjiaemmhjkhdhaaPut
import Derived.ChangeAlike
import Derived.RegionTactic
import Derived.BigRegion
namespace Go.Proofs.Ytjiaemmhjkhdhaa
open Go.RowKit Go.Sort
set_option linter.unusedVariables false

set_option maxHeartbeats 2000000 in
theorem rstep_out (A1 A2 : Option Addr) (n C1 m C2 : Nat) (y : Yn) (w : World) (h : y.n < 1 ∨ (n : Int) ≤ y.n) :
    Calls Try.prog 58 #[.slice A1 n C1, .slice A2 m C2, .agg #[.int .i64 y.n, .int .i64 y.t, .bool y.a]] w
      fun e w' => e = .returned (.tuple #[.agg #[.int .i64 0, .int .i64 0, .int .i64 0, .int .i64 0], .int .i64 7]) ∧ Gr w w' := by
  rcases h with h | h
  · go_enter Try.func58, Try.ntmps58
    go_wp2_with fail
    go_returns
    exact ⟨rfl, by repeat (first | (with_reducible exact Gr.refl _) | (with_reducible assumption) | (with_reducible refine Gr.alloc ?_ _) | (with_reducible refine Gr.drewN ?_ _) | (with_reducible refine Gr.drew ?_) | (with_reducible refine Gr.grown ?_ _ _) | (with_reducible refine Gr.regrown ?_ _ _) | (with_reducible refine Gr.setCell ?_ (by first | omega | (simp; omega) | simp) _) | (with_reducible refine Gr.trans ?_ (by with_reducible assumption)))⟩
  · by_cases h1 : y.n < 1
    · go_enter Try.func58, Try.ntmps58
      go_wp2_with fail
      go_returns
      exact ⟨rfl, by repeat (first | (with_reducible exact Gr.refl _) | (with_reducible assumption) | (with_reducible refine Gr.alloc ?_ _) | (with_reducible refine Gr.drewN ?_ _) | (with_reducible refine Gr.drew ?_) | (with_reducible refine Gr.grown ?_ _ _) | (with_reducible refine Gr.regrown ?_ _ _) | (with_reducible refine Gr.setCell ?_ (by first | omega | (simp; omega) | simp) _) | (with_reducible refine Gr.trans ?_ (by with_reducible assumption)))⟩
    · go_enter Try.func58, Try.ntmps58
      go_wp2_with fail
      go_returns
      exact ⟨rfl, by repeat (first | (with_reducible exact Gr.refl _) | (with_reducible assumption) | (with_reducible refine Gr.alloc ?_ _) | (with_reducible refine Gr.drewN ?_ _) | (with_reducible refine Gr.drew ?_) | (with_reducible refine Gr.grown ?_ _ _) | (with_reducible refine Gr.regrown ?_ _ _) | (with_reducible refine Gr.setCell ?_ (by first | omega | (simp; omega) | simp) _) | (with_reducible refine Gr.trans ?_ (by with_reducible assumption)))⟩

theorem chkS_01 (x : Sy) : (Ts.chkS x.o x.d x.s x.c = 0 ∧ Ru.okS x) ∨ ((Ts.chkS x.o x.d x.s x.c != 0) = true ∧ ¬ Ru.okS x) := by
  by_cases h : Ru.okS x
  · exact .inl ⟨Ts.chkS_ok h, h⟩
  · exact .inr ⟨by rw [Ts.chkS_no h]; rfl, h⟩

set_option maxHeartbeats 8000000 in
set_option maxRecDepth 100000 in
theorem rrun_any (v0 v1 v2 : Value) (S : List Sy) (p : List Int) (Y : List Yn) (w : World) (h0 : Rows 4 encS w v0 S) (h1 : Rows 1 encI w v1 p) (h2 : Rows 3 encY w v2 Y) (b0 : S.length ≤ 1048576) (b1 : p.length ≤ 1048576) (b2 : Y.length ≤ 1048576) :
    Calls Try.prog 33 #[v0, v1, v2] w (RunPost (Ru.run p S Y) w) := by
  obtain ⟨i0, hi, hz0, hz1, hz2⟩ := info_parts infoCloneS
  obtain ⟨A0, C0, rfl⟩ := h0.slice
  obtain ⟨A1, C1, rfl⟩ := h1.slice
  obtain ⟨A2, C2, rfl⟩ := h2.slice
  have H0 := Lib.hid h0
  have H1 := Lib.hid h1
  have H2 := Lib.hid h2
  clear h0 h1 h2
  have DEP := fun W g => rdepths_any (.slice A1 p.length C1) p W (H1.out.gr (w := W) g) (by omega)
  obtain ⟨n0, e0⟩ : ∃ n, S.length = n := ⟨_, rfl⟩
  obtain ⟨n1, e1⟩ : ∃ n, p.length = n := ⟨_, rfl⟩
  obtain ⟨n2, e2⟩ : ∃ n, Y.length = n := ⟨_, rfl⟩
  have E0 := Lib.hid e0
  have E1 := Lib.hid e1
  have E2 := Lib.hid e2
  rw [e0] at b0 ⊢
  rw [e1] at DEP b1 ⊢
  rw [e2] at b2 ⊢
  clear e0 e1 e2
  have NO : Hid (¬ Ru.okR p S Y → Ru.run p S Y = ([], -1, 1)) := fun h => if_neg h
  have YES : Hid (Ru.okR p S Y → Ru.run p S Y = Ru.runs p S Y 0) := fun h => if_pos h
  by_cases hD : Dp.okD p
  · have d1 := (Dp.d_ok hD).1
    rw [d1] at DEP
    have DEP' := Lib.hid DEP
    clear DEP d1
    by_cases hl : n0 = n1
    · by_cases hy : n2 ≤ 1024
      · have HD := Lib.hid hD
        have q1 : ((n0 : Int) != (n1 : Int)) = false := by rw [bne_eq_false_iff_eq]; omega
        have q2 : ¬ (1024 : Int) < (n2 : Int) := by omega
        have hN1 : 1 ≤ n1 := by have := hD.1.1; rw [E1.out] at this; exact this
        have hN2 : n1 ≤ 32 := by have := hD.1.2.1; rw [E1.out] at this; exact this
        subst hl
        have PAR : Aside (∀ i, i + 1 < n0 → ∃ a, a < n0 ∧ Dp.par p (i + 1) = (a : Int)) := fun i hi => by
          obtain ⟨q1, q2, q3⟩ := Dp.d_parent hD (i := i) (by rw [E1.out]; exact hi)
          rw [E1.out] at q2
          exact ⟨(Dp.par p (i + 1)).toNat, by omega, by omega⟩
        have PC : Aside (∃ b off, A1 = some ⟨b, off, none⟩ ∧ b < w.heap.size ∧ ∀ i, i < n0 → w.cell? ⟨b, off + i, none⟩ = some (.int .i64 (Dp.par p i))) := by
          rcases H1.out with ⟨hp, _⟩ | ⟨b, off, c', hb, hv, hc⟩
          · have := E1.out; rw [hp] at this; simp at this; omega
          · simp only [Value.slice.injEq] at hv
            refine ⟨b, off, hv.1, hb, fun i hi => ?_⟩
            have := Rows.int_cell hc i (by rw [E1.out]; exact hi)
            rwa [par_get] at this
        obtain ⟨b, off, hA1, hb, PCC⟩ := PC.out
        have SC : Aside (∃ b off, A0 = some ⟨b, off, none⟩ ∧ b < w.heap.size ∧ ∀ i x, S[i]? = some x → ∀ j u, (encS x)[j]? = some u → w.cell? ⟨b, off + i * 4 + j, none⟩ = some u) := by
          rcases H0.out with ⟨hp, _⟩ | ⟨b, off, c', hb, hv, hc⟩
          · have := E0.out; rw [hp] at this; simp at this; omega
          · simp only [Value.slice.injEq] at hv
            exact ⟨b, off, hv.1, hb, hc⟩
        obtain ⟨b0', off0, hA0, hb0, SCC⟩ := SC.out
        have YC : Aside (n2 = 0 ∨ ∃ b off, A2 = some ⟨b, off, none⟩ ∧ b < w.heap.size ∧ ∀ i x, Y[i]? = some x → ∀ j u, (encY x)[j]? = some u → w.cell? ⟨b, off + i * 3 + j, none⟩ = some u) := by
          rcases H2.out with ⟨hp, _⟩ | ⟨b, off, c', hb, hv, hc⟩
          · left; have := E2.out; rw [hp] at this; simp at this; omega
          · simp only [Value.slice.injEq] at hv
            exact .inr ⟨b, off, hv.1, hb, hc⟩
        have PCX := Lib.hid PCC
        have HB := Lib.hid hb
        have SCX := Lib.hid SCC
        have HB0 := Lib.hid hb0
        clear hD PC PCC hb SC SCC hb0
        subst hA1 hA0
        go_enter Try.func33, Try.ntmps33
        go_wp2_with fail
        refine (DEP'.out _ (Gr.refl w)).mono ?_
        rintro e w1 ⟨vd, rfl, Rd, g1⟩
        have G1 : Aside (Gr w w1) := g1
        clear g1 Rd
        go_wp2_with fail
        go_loopg [6, 7, 8, 11] n0 (fun gg _ _ _ s11 wr => ∃ kk : Nat, kk ≤ n0 ∧ n0 - kk ≤ gg ∧ s11 = .int .i64 (kk : Int) ∧ Aside (Gr w wr) ∧ Aside (∀ i, i < kk → Ru.okS (Ru.gt S i)))
        case atStart => exact ⟨0, Nat.zero_le _, by omega, rfl, G1.out, fun i hi => absurd hi (Nat.not_lt_zero _)⟩
        case round =>
          obtain ⟨kk, hkk, hgg, rfl, G, AL⟩ := hrel
          by_cases hlt : kk < n0
          · have hltz : (kk : Int) < (n0 : Int) := by omega
            have hx := Ru.gt_get (l := S) (i := kk) (by rw [E0.out]; exact hlt)
            have HM := Lib.hid (Ru.gt_mem (l := S) (i := kk) (by rw [E0.out]; exact hlt))
            generalize hxx : Ru.gt S kk = x at hx HM
            have l0 := (G.out.cell (p := ⟨b0', off0 + kk * 4 + 0, none⟩) HB0.out).trans (SCX.out kk x hx 0 _ rfl)
            have l1 := (G.out.cell (p := ⟨b0', off0 + kk * 4 + 1, none⟩) HB0.out).trans (SCX.out kk x hx 1 _ rfl)
            have l2 := (G.out.cell (p := ⟨b0', off0 + kk * 4 + 2, none⟩) HB0.out).trans (SCX.out kk x hx 2 _ rfl)
            have l3 := (G.out.cell (p := ⟨b0', off0 + kk * 4 + 3, none⟩) HB0.out).trans (SCX.out kk x hx 3 _ rfl)
            simp only [Nat.add_zero] at l0
            have HXX := Lib.hid hxx
            have C1 := fun W => rtcheck_any x.o x.d x.s x.c W
            clear hx hxx
            rcases chkS_01 x with ⟨hc, hok⟩ | ⟨hc, hok⟩
            · rw [hc] at C1
              have HOK := Lib.hid hok
              clear hc hok
              go_wp2_with fail
              refine (C1 _).mono ?_
              rintro e w5 ⟨rfl, g5⟩
              have G5 : Aside (Gr w w5) := G.out.trans g5
              clear g5 C1 l0 l1 l2 l3
              go_wp2_with fail
              go_roundg (n0 - (kk + 1))
              case measure => omega
              case rel => exact ⟨kk + 1, by omega, by omega, by go_num, G5.out, (show ∀ i, i < kk + 1 → Ru.okS (Ru.gt S i) from fun i hi => by
                by_cases e : i = kk
                · rw [e, HXX.out]; exact HOK.out
                · exact AL.out i (by omega))⟩
            · have R := Lib.hid (NO.out (fun h => hok (h.2.2.2 x HM.out)))
              generalize Ts.chkS x.o x.d x.s x.c = E at hc C1
              go_wp2_with fail
              refine (C1 _).mono ?_
              rintro e w5 ⟨rfl, g5⟩
              have G5 : Aside (Gr w w5) := G.out.trans g5
              clear g5 C1 l0 l1 l2 l3
              go_wp2_with fail
              go_ret3
              exact ⟨.slice none 0 0, ret_vii rfl (by rw [R.out]) (by rw [R.out]), by rw [R.out]; exact Rows.nil _ _, G5.out⟩
          · have hltz : ¬ (kk : Int) < (n0 : Int) := by omega
            have OKL : Hid (Ru.okL S) := (show Ru.okL S from fun x hx => by
              obtain ⟨i, hi, rfl⟩ := List.getElem_of_mem hx
              have := AL.out i (by rw [E0.out] at hi; omega)
              have e := Ru.gt_get (l := S) (i := i) hi
              rw [List.getElem?_eq_getElem hi] at e
              rw [Option.some.inj e]; exact this)
            have R := Lib.hid (YES.out ⟨HD.out, by rw [E0.out, E1.out], by rw [E2.out]; exact hy, OKL.out⟩)
            have hq1 : 0 + S.length ≤ maxLen := by rw [E0.out]; unfold maxLen; omega
            have hq2 : (0 + S.length) * 32 ≤ 140737488355328 := by rw [E0.out]; omega
            have G2 := Gr.alloc G.out (Obj.cells #[] 25)
            have H0' : Hid (Rows 4 encS w (.slice (some ⟨b0', off0, none⟩) n0 C0) S) := (show Rows _ _ _ _ _ by have := H0.out; rw [E0.out] at this; exact this)
            go_wp2_with (at_builtin; refine wpList_append_rows rfl _ _ 45 rfl wr.heap.size 25 i0 (.agg #[.int .i64 0, .int .i64 0, .int .i64 0, .int .i64 0]) 32 Try.underlying45 hi hz0 hz1 hz2 rfl (by decide) encS_len (by simp [encS, Value.oneCell']) _ 0 [] rfl (World.ownsRow_lit wr #[] 0 (Nat.le_refl _) (by simp [maxLen]) rfl) S _ rfl (H0'.out.gr G2) hq1 hq2 (by simp) ?_)
            intro v' w3 hown' hgrow _
            have O3 : Hid (w3.ownsRow wr.heap.size 25 4 v' n0 ((S.map encS).flatten)) := (show World.ownsRow _ _ _ _ _ _ _ by have := hown'; rw [E0.out] at this; simpa using this)
            have G3 : Aside (Gr w w3) := G2.append hgrow (fun k hk => by simp [Value.ownBlock] at hk; have := G.out.size; omega)
            have GB : Hid (w.heap.size ≤ wr.heap.size) := G.out.size
            clear hown' hgrow G2 hq1 hq2 AL
            rcases O3.out.2 with ⟨_, hz⟩ | ⟨g, cap, cur, rfl, hgb, _⟩
            · omega
            have HGW : Hid (w.heap.size ≤ g) := Nat.le_trans GB.out hgb
            clear hgb
            rcases YC.out with h0 | ⟨b2', o2, hA2, hb2, YCC⟩
            · subst h0
              have hY : Y = [] := List.eq_nil_of_length_eq_zero E2.out
              have RY : Hid (Ru.run p S Y = (S, -1, 0)) := (show _ = _ by rw [R.out, hY]; rfl)
              clear hY
              go_wp2_with fail
              go_loopg [6, 7, 8, 13, 14, 15] 0 (fun _ _ _ _ s13 _ _ wr => s13 = .int .i64 0 ∧ wr = w3)
              case atStart => exact ⟨rfl, rfl⟩
              case round =>
                obtain ⟨rfl, rfl⟩ := hrel
                go_wp2_with fail
                go_ret3
                exact ⟨.slice (some ⟨g, 0, none⟩) n0 cap, ret_vii rfl (by rw [RY.out]) (by rw [RY.out]), by rw [RY.out]; exact rows_S O3.out E0.out, G3.out⟩
            · subst hA2
              have YX := Lib.hid YCC
              have HB2 := Lib.hid hb2
              clear YCC hb2 YC H0 H1 H2
              go_wp2_with fail
              obtain ⟨base, hbase⟩ : ∃ base, wr.heap.size = base := ⟨_, rfl⟩
              have O3b := O3.out
              rw [hbase] at O3b
              have O3c := Lib.hid O3b
              clear O3b O3 hbase GB
              go_loopg [6, 7, 8, 13, 14, 15] n2 (fun gg _ _ _ s13 _ _ wr => ∃ kk : Nat, ∃ L : List Sy, kk ≤ n2 ∧ n2 - kk ≤ gg ∧ s13 = .int .i64 (kk : Int) ∧ Aside (Gr w wr) ∧ Aside (wr.ownsRow base 25 4 (.slice (some ⟨g, 0, none⟩) n0 cap) n0 ((L.map encS).flatten)) ∧ Aside (L.length = n0) ∧ Aside (Ru.okL L) ∧ Aside (Ru.runs p S Y 0 = Ru.runs p L (Y.drop kk) (kk : Int)))
              case atStart => exact ⟨0, S, Nat.zero_le _, by omega, rfl, G3.out, O3c.out, E0.out, OKL.out, (show Ru.runs p S Y 0 = Ru.runs p S (Y.drop 0) 0 by rw [List.drop_zero])⟩
              case round =>
                obtain ⟨kk, L, hkk, hgg, rfl, G, O, EL, OL, RR⟩ := hrel
                by_cases hlt : kk < n2
                · have hltz : (kk : Int) < (n2 : Int) := by omega
                  obtain ⟨y, hy⟩ : ∃ y, Y[kk]? = some y := ⟨_, List.getElem?_eq_getElem (by rw [E2.out]; exact hlt)⟩
                  have HYC : Aside (∀ W, Gr w W → W.cell? ⟨b2', o2 + kk * 3, none⟩ = some (.int .i64 y.n)) := fun W gW => by
                    have := (gW.cell (p := ⟨b2', o2 + kk * 3 + 0, none⟩) HB2.out).trans (YX.out kk y hy 0 _ rfl)
                    simpa using this
                  have l0 := HYC.out _ G.out
                  have l1 := (G.out.cell (p := ⟨b2', o2 + kk * 3 + 1, none⟩) HB2.out).trans (YX.out kk y hy 1 _ rfl)
                  have l2 := (G.out.cell (p := ⟨b2', o2 + kk * 3 + 2, none⟩) HB2.out).trans (YX.out kk y hy 2 _ rfl)
                  have RD : Hid (Ru.run p S Y = Ru.runs p L (y :: Y.drop (kk + 1)) (kk : Int)) := by
                    show _ = _
                    rw [R.out, RR.out]
                    congr 1
                    rw [List.drop_eq_getElem_cons (by rw [E2.out]; exact hlt)]
                    congr 1
                    rw [List.getElem?_eq_getElem (by rw [E2.out]; exact hlt)] at hy
                    exact Option.some.inj hy
                  clear hy
                  by_cases hbad : y.n < 1 ∨ (n0 : Int) ≤ y.n
                  · have RB : Hid (Ru.run p S Y = ([], (kk : Int), 7)) := RD.out.trans (Ru.runs_bad (by rw [EL.out]; exact hbad))
                    have ST := fun W => rstep_out (some ⟨g, 0, none⟩) (some ⟨b, off, none⟩) n0 cap n0 C1 y W hbad
                    clear hbad
                    go_wp2_with fail
                    refine (ST _).mono ?_
                    rintro e w5 ⟨rfl, g5⟩
                    have G5 : Aside (Gr w w5) := G.out.trans g5
                    clear g5 l0 l1 l2 ST
                    go_wp2_with fail
                    go_ret3
                    exact ⟨.slice none 0 0, ret_vii rfl (by rw [RB.out]) (by rw [RB.out]), by rw [RB.out]; exact Rows.nil _ _, G5.out.alloc _⟩
                  · have HBAD := Lib.hid hbad
                    obtain ⟨a, ha⟩ : ∃ a : Nat, y.n = (a : Int) := ⟨y.n.toNat, by omega⟩
                    have a1 : 1 ≤ a := by omega
                    have a2 : a < n0 := by omega
                    have hya : Hid (y.n.toNat = a) := by show _ = _; omega
                    rw [ha] at l0
                    have HYA : Aside (∀ W, Gr w W → W.cell? ⟨b2', o2 + kk * 3, none⟩ = some (.int .i64 (a : Int))) := fun W gW => by rw [← ha]; exact HYC.out W gW
                    obtain ⟨q, q1', q2'⟩ := PAR.out (a - 1) (by omega)
                    rw [show a - 1 + 1 = a by omega] at q2'
                    have CQ : Hid (Ru.cor1 p L y = Ru.stp (Ru.gt L a) (Ru.gt L q).o (Ru.gt L q).d y.t y.a) := by
                      show Ru.stp _ _ _ _ _ = _
                      rw [hya.out, q2']; rfl
                    have ST := rstep_in L n0 cap C1 n0 g 0 b off a q y.t y.a wr (fun i x hx j u hj => by have := owns_cell encS_len O.out hx hj; rw [Nat.zero_add]; exact this) a2 q1' EL.out a1 (by omega) rfl ((G.out.cell (p := ⟨b, off + a, none⟩) HB.out).trans (by have := PCX.out a a2; rw [q2'] at this; exact this)) (OL.out _ (Ru.gt_mem (by rw [EL.out]; exact q1')))
                    have OKQ : Hid ((Ru.stp (Ru.gt L a) (Ru.gt L q).o (Ru.gt L q).d y.t y.a).e = 0 → Ru.okS (Ru.sy (Ru.stp (Ru.gt L a) (Ru.gt L q).o (Ru.gt L q).d y.t y.a))) := fun he => Ru.stp_okS he
                    generalize Ru.stp (Ru.gt L a) (Ru.gt L q).o (Ru.gt L q).d y.t y.a = qq at CQ ST OKQ
                    have HA := Lib.hid ha
                    have i1 : (a : Int) < (n0 : Int) := by omega
                    clear hbad HYC q2' ha
                    go_wp2_with fail
                    refine ST.mono ?_
                    rintro e w5 ⟨rfl, g5⟩
                    have G5 : Aside (Gr w w5) := G.out.trans g5
                    have O5 := Lib.hid (owns_gr O.out g5)
                    clear g5 l0 l1 l2 ST
                    have l0 := HYA.out _ G5.out
                    have hbz := block_lt_of_cell l0
                    have gx := Ru.gt_get (l := L) (i := a) (by rw [EL.out]; exact a2)
                    have u0 := owns_cell encS_len O5.out gx (j := 0) rfl
                    have u1 := owns_cell encS_len O5.out gx (j := 1) rfl
                    have u2 := owns_cell encS_len O5.out gx (j := 2) rfl
                    have u3 := owns_cell encS_len O5.out gx (j := 3) rfl
                    simp only [Nat.add_zero] at u0
                    have fz := fun j => O5.out.frozenAt j
                    have hgz := block_lt_of_cell u0
                    clear gx
                    by_cases he : qq.e = 0
                    · have RG : Hid (Ru.run p S Y = Ru.runs p (L.set a (Ru.sy qq)) (Y.drop (kk + 1)) ((kk + 1 : Nat) : Int)) := by
                        show _ = _
                        rw [RD.out, Ru.runs_go (by rw [EL.out]; exact HBAD.out) (by rw [CQ.out]; exact he), CQ.out, hya.out]
                        rfl
                      have hb0 : (qq.e != 0) = false := by simpa using he
                      have HOQ := Lib.hid (OKQ.out he)
                      clear he
                      go_wp2_with fail
                      go_region
                      go_wp2_with fail
                      go_roundg (n2 - (kk + 1))
                      case measure => omega
                      case rel => exact ⟨kk + 1, L.set a (Ru.sy qq), by omega, by omega, by go_num, (show Gr _ _ by refine Gr.drew ?_; refine Gr.alloc ?_ _; (repeat (first | (with_reducible exact (G5).out) | (with_reducible refine Gr.alloc ?_ _) | ((with_reducible refine Gr.setCell ?_ ?_ _); rotate_left; exact HGW.out)))), (show World.ownsRow _ _ _ _ _ _ _ from owns_gr (owns_store O5.out EL.out a a2 (Ru.sy qq)) (Gr.drew (Gr.alloc (Gr.refl _) _))), (show (L.set a (Ru.sy qq)).length = n0 by rw [List.length_set]; exact EL.out), (show Ru.okL _ from Ru.okL_set OL.out HOQ.out), (show _ = _ by rw [← R.out]; exact RG.out)⟩
                    · have hb : (qq.e != 0) = true := by simpa using he
                      have RB : Hid (Ru.run p S Y = ([], (kk : Int), qq.e)) := by
                        show _ = _
                        rw [RD.out, Ru.runs_no (by rw [EL.out]; exact HBAD.out) (by rw [CQ.out]; exact he), CQ.out]
                      clear he
                      go_wp2_with fail
                      go_ret3
                      exact ⟨.slice none 0 0, ret_vii rfl (by rw [RB.out]) (by rw [RB.out]), by rw [RB.out]; exact Rows.nil _ _, G5.out.alloc _⟩
                · have hge : ¬ (kk : Int) < (n2 : Int) := by omega
                  have hdrop : Y.drop kk = [] := List.drop_eq_nil_of_le (by rw [E2.out]; omega)
                  have RF : Hid (Ru.run p S Y = Ru.runs p L [] (kk : Int)) := by
                    show _ = _
                    rw [R.out, RR.out, hdrop]
                  clear hdrop
                  go_wp2_with fail
                  go_ret3
                  exact ⟨.slice (some ⟨g, 0, none⟩) n0 cap, ret_vii rfl (by rw [RF.out]; rfl) (by rw [RF.out]; rfl), by rw [RF.out]; exact rows_S O.out EL.out, G.out⟩
      · have q1 : ((n0 : Int) != (n1 : Int)) = false := by rw [bne_eq_false_iff_eq]; omega
        have q2 : (1024 : Int) < (n2 : Int) := by omega
        have R := Lib.hid (NO.out (fun h => hy (by rw [← E2.out]; exact h.2.2.1)))
        clear hD
        go_enter Try.func33, Try.ntmps33
        go_wp2_with fail
        refine (DEP'.out _ (Gr.refl w)).mono ?_
        rintro e w1 ⟨vd, rfl, Rd, g1⟩
        go_wp2_with fail
        go_ret3
        exact ⟨.slice none 0 0, ret_vii rfl (by rw [R.out]) (by rw [R.out]), by rw [R.out]; exact Rows.nil _ _, g1⟩
    · have q1 : ((n0 : Int) != (n1 : Int)) = true := by simp; omega
      have R := Lib.hid (NO.out (fun h => hl (by rw [← E0.out, ← E1.out]; exact h.2.1)))
      clear hD
      go_enter Try.func33, Try.ntmps33
      go_wp2_with fail
      refine (DEP'.out _ (Gr.refl w)).mono ?_
      rintro e w1 ⟨vd, rfl, Rd, g1⟩
      go_wp2_with fail
      go_ret3
      exact ⟨.slice none 0 0, ret_vii rfl (by rw [R.out]) (by rw [R.out]), by rw [R.out]; exact Rows.nil _ _, g1⟩
  · have d1 := (Dp.d_no hD).1
    rw [d1] at DEP
    have R := Lib.hid (NO.out (fun h => hD h.1))
    have DEP' := Lib.hid DEP
    clear DEP d1
    go_enter Try.func33, Try.ntmps33
    go_wp2_with fail
    refine (DEP'.out _ (Gr.refl w)).mono ?_
    rintro e w1 ⟨vd, rfl, Rd, g1⟩
    go_wp2_with fail
    go_ret3
    exact ⟨.slice none 0 0, ret_vii rfl (by rw [R.out]) (by rw [R.out]), by rw [R.out]; exact Rows.nil _ _, g1⟩
end Go.Proofs.Ytjiaemmhjkhdhaa
