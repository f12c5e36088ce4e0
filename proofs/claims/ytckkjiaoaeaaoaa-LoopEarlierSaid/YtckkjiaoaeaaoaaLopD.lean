/- The contracts of package loop's Splits and Check. -/
import Derived.Test.YtckkjiaoaeaaoaaLopB
import Derived.Deep.LoopGhost
import Derived.Laws.AppendOwn
namespace Go.Proofs.Ytckkjiaoaeaaoaa
open Go.RowKit Go.Sort
set_option linter.unusedVariables false

theorem infoP : (Try.prog.info? 25).map (fun i => (i.zero, i.size, i.bytes)) = some (some (.agg #[.int .i64 0, .int .i64 0]), 2, 16) := by kernel_rfl
/-- splits and an error come back -/
def SpPost (E : Int) (L : List Sp) (w : World) (e : Ending) (w' : World) : Prop := ∃ v, e = .returned (.tuple #[v, .int .i64 E]) ∧ Rows 2 encP w' v L ∧ Gr w w'

theorem snoc_flat {α : Type} {enc : α → List Value} (l : List α) (x : α) : ((l ++ [x]).map enc).flatten = (l.map enc).flatten ++ enc x := by simp

set_option maxHeartbeats 2000000 in
theorem splits_any (l : Lo) (w : World) :
    Calls Try.prog 17 #[.agg #[.int .i64 l.id, .int .i64 l.se, .int .i64 l.co, .int .i64 l.ac, .int .i64 l.pe, .int .i64 l.ph, .int .i64 l.ag]] w (SpPost (Lp.flt 32 l) (Lp.spl l) w) := by
  obtain ⟨i0, hi, hz0, hz1, hz2⟩ := info_parts infoP
  have C1 := fun W => fault_any 32 l W
  rcases Lp.flt_cases 32 l with h | h
  · have R := Lib.hid (Lp.spl_ok h)
    obtain ⟨⟨-, ⟨p1, p2⟩, -, ⟨g1, g2⟩⟩, -⟩ := Lp.flt_inv h
    obtain ⟨sm, hsm⟩ : ∃ sm, Lp.sum l = sm := ⟨_, rfl⟩
    obtain ⟨n, hn⟩ : ∃ n, Lp.spN l = n := ⟨_, rfl⟩
    have e1 : min l.pe (l.ag - l.pe + 1) = sm := hsm
    have e2 : max (sm - 1) 0 = (n : Int) := by unfold Lp.spN at hn; rw [hsm] at hn; omega
    have s1 : sm ≤ 512 := by omega
    have s2 : -512 ≤ sm := by omega
    have s3 : (n : Int) ≤ 512 := by omega
    have s4 : sm - 1 ≤ (n : Int) := by omega
    have s5 : 0 < (n : Int) → (n : Int) = sm - 1 := by omega
    have HSM := Lib.hid hsm
    have HN := Lib.hid hn
    rw [h] at C1 ⊢
    clear h hsm hn
    have HS5 := Lib.hid s5
    clear s5
    go_enter Try.func17, Try.ntmps17
    go_wp2_with fail
    refine (C1 _).mono ?_
    rintro e w1 ⟨rfl, g1'⟩
    have L1 := boxed (enc := encL) (x := l) g1'
    have u0 := (L1) 0 _ rfl; have u1 := (L1) 1 _ rfl; have u2 := (L1) 2 _ rfl; have u3 := (L1) 3 _ rfl; have u4 := (L1) 4 _ rfl; have u5 := (L1) 5 _ rfl; have u6 := (L1) 6 _ rfl; (try simp only [Nat.add_zero] at u0); (try simp only [Nat.zero_add] at u0 u1 u2 u3 u4 u5 u6)
    have hz := L1.lt rfl
    have G1 : Aside (Gr w w1) := (Gr.alloc (Gr.refl _) _).trans g1'
    clear g1' L1 C1
    go_wp2_with fail
    have E1 := Lib.hid e1
    have E2 := Lib.hid e2
    clear e1 e2
    go_loopg [6, 7, 25] n (fun gg s6 _ s25 wr => ∃ kk : Nat, kk ≤ n ∧ n - kk ≤ gg ∧ s25 = .int .i64 (kk : Int) ∧ Aside (Gr w wr) ∧ Aside (wr.ownsRow w.heap.size 25 2 s6 kk ((((List.range kk).map (Lp.spA l)).map encP).flatten)))
    case atStart => exact ⟨0, Nat.zero_le _, by omega, rfl, G1.out, World.ownsRow_nil _ _ _ _⟩
    case round =>
      obtain ⟨kk, hkk, hgg, rfl, G, O⟩ := hrel
      by_cases hlt : kk < n
      · have hltz : (kk : Int) < (n : Int) := by omega
        have SN : Hid ((((List.range (kk + 1)).map (Lp.spA l)).map encP).flatten = (((List.range kk).map (Lp.spA l)).map encP).flatten ++ [.int .i64 ((kk : Int) + 1), .int .i64 (sm - 1 - (kk : Int))]) := by
          show _ = _
          rw [Lp.spl_snoc, snoc_flat, ← HSM.out]
          rfl
        obtain ⟨XS, hXS⟩ : ∃ XS, (((List.range kk).map (Lp.spA l)).map encP).flatten = XS := ⟨_, rfl⟩
        rw [hXS] at O SN
        have SN' := Lib.hid SN.out
        clear SN hXS
        go_wp2_with (at_builtin; refine wpList_append_own _ rfl _ _ 38 rfl w.heap.size 25 i0 (.agg #[.int .i64 0, .int .i64 0]) 2 16 Try.underlying38 hi hz0 hz1 hz2 rfl (by decide) _ _ _ rfl (O.out.alloc _) ⟨wr.heap.size, 0, none⟩ 1 1 [.int .i64 ((kk : Int) + 1), .int .i64 (sm - 1 - (kk : Int))] rfl rfl ?qa1 ?qa2 ?qa3 ?qa4 ?qa5 ?_)
        case qa1 => intro j u hj; rw [Addr.add_lit, Nat.zero_add, World.cell?_alloc_new]; simpa using hj
        case qa2 => simp [Value.oneCell']
        case qa3 => unfold maxLen; omega
        case qa4 => omega
        case qa5 => have := G.out.size; simp; omega
        intro v' w' hown' hgrow _
        have HO := Lib.hid hown'
        clear hown'
        go_wp2_with fail
        go_roundg (n - (kk + 1))
        case measure => omega
        case rel => exact ⟨kk + 1, by omega, by omega, by go_num, (G.out.alloc _).append hgrow (fun k hk => (O.out.lt k hk).1), (show World.ownsRow _ _ _ _ _ _ _ by rw [SN'.out]; exact HO.out)⟩
      · have hltz : ¬ (kk : Int) < (n : Int) := by omega
        have hkn : kk = n := by omega
        subst hkn
        go_wp2_with fail
        go_ret2
        exact ⟨u6, ret_vi rfl rfl, by rw [R.out, HN.out]; exact owns_rows encP_len O.out (by simp), G.out⟩
  · have R := Lib.hid (Lp.spl_no (l := l) (by simpa using h))
    generalize Lp.flt 32 l = E at *
    go_enter Try.func17, Try.ntmps17
    go_wp2_with fail
    refine (C1 _).mono ?_
    rintro e w1 ⟨rfl, g1⟩
    have G1 : Aside (Gr w w1) := (Gr.alloc (Gr.refl _) _).trans g1
    clear g1 C1
    go_wp2_with fail
    go_ret2
    exact ⟨.slice none 0 0, ret_vi rfl rfl, by rw [R.out]; exact Rows.nil _ _, G1.out⟩

set_option maxHeartbeats 4000000 in
set_option maxRecDepth 100000 in
theorem lcheck_any (nn : Int) (v : Value) (l : List Lo) (w : World) (h : Rows 7 encL w v l) (hbig : (l.length : Int) ≤ 4611686018427387904) :
    Calls Try.prog 26 #[.int .i64 nn, v] w fun e w' => e = .returned (.tuple #[.int .i64 (Lp.chkL nn l).1, .int .i64 (Lp.chkL nn l).2]) ∧ Gr w w' := by
  obtain ⟨A, c, rfl⟩ := h.slice
  by_cases hn : 2 ≤ nn ∧ nn ≤ 32
  · by_cases hl : l.length ≤ 8
    · have US : Aside (Sl 7 encL w (.slice A l.length c) l) := h.sl
      have R := Lib.hid (Lp.chkL_go hn hl)
      obtain ⟨n, hnn⟩ : ∃ n, l.length = n := ⟨_, rfl⟩
      have HN := Lib.hid hnn
      obtain ⟨n1, n2⟩ := hn
      rw [hnn] at hbig hl ⊢
      have hz8 : decide ((8 : Int) < (n : Int)) = false := bf (by omega)
      clear h hnn
      go_enter Try.func26, Try.ntmps26
      go_wp2_with fail
      go_loopg [4, 5, 6, 7, 8, 22] n (fun gg _ _ _ _ _ s22 wr => ∃ kk : Nat, kk ≤ n ∧ n - kk ≤ gg ∧ s22 = .int .i64 (kk : Int) ∧ Aside (Gr w wr) ∧ Aside (Lp.scan nn l n 0 = Lp.scan nn l (n - kk) kk))
      case atStart => exact ⟨0, Nat.zero_le _, by omega, rfl, Gr.refl _, rfl⟩
      case round =>
        obtain ⟨kk, hkk, hgg, rfl, G, SC⟩ := hrel
        by_cases hlt : kk < n
        · have hltz : (kk : Int) < (n : Int) := by omega
          obtain ⟨x, hx⟩ : ∃ x, l[kk]? = some x := ⟨_, List.getElem?_eq_getElem (by rw [HN.out]; exact hlt)⟩
          rcases US.out with h0 | ⟨b, off, ⟨c', hv⟩, hb, hU⟩
          · rw [HN.out] at h0; omega
          simp only [Value.slice.injEq] at hv
          obtain ⟨rfl, -, rfl⟩ := hv
          have UU : Aside (∀ (i : Nat) x, l[i]? = some x → At encL w b (off + i * 7) x) := hU
          have HB := Lib.hid hb
          have l0 := ((hU kk x hx).gr G.out) 0 _ rfl; have l1 := ((hU kk x hx).gr G.out) 1 _ rfl; have l2 := ((hU kk x hx).gr G.out) 2 _ rfl; have l3 := ((hU kk x hx).gr G.out) 3 _ rfl; have l4 := ((hU kk x hx).gr G.out) 4 _ rfl; have l5 := ((hU kk x hx).gr G.out) 5 _ rfl; have l6 := ((hU kk x hx).gr G.out) 6 _ rfl; (try simp only [Nat.add_zero] at l0); (try simp only [Nat.zero_add] at l0 l1 l2 l3 l4 l5 l6)
          have hbr := block_lt_of_cell l0
          have C1 := fun W => fault_any nn x W
          have HX := Lib.hid hx
          have RS : Hid (Lp.chkL nn l = Lp.scan nn l ((n - (kk + 1)) + 1) kk) := (show _ = _ by rw [R.out, HN.out, SC.out]; congr 1; omega)
          clear hU hb hx
          go_wp2_with fail
          rcases Lp.flt_cases nn x with hf | hf
          · rw [hf] at C1
            have HF := Lib.hid hf
            have G4 : Aside (Gr w (wr.alloc (Obj.cells (encL x).toArray 23))) := Gr.alloc G.out _
            refine (C1 _).mono ?_
            rintro e w5 ⟨rfl, g5⟩
            have X5 := boxed (enc := encL) (x := x) g5
            have G5 : Aside (Gr w w5) := G4.out.trans g5
            have x0 := X5 0 _ rfl
            have hz5 := X5.lt rfl
            clear g5 C1 l0 l1 l2 l3 l4 l5 l6 hbr hf X5
            go_wp2_with fail
            rcases Nat.eq_zero_or_pos kk with e0 | e0
            · subst e0
              have BN := Lib.hid (Lp.scan_go (k := n - (0 + 1)) (Lp.bad_no HX.out HF.out (fun y h0 => absurd h0 (Nat.lt_irrefl 0))))
              go_quiet (fail)
              go_wp2_with fail
              go_roundg (n - (0 + 1))
              case measure => omega
              case rel => exact ⟨0 + 1, by omega, by omega, by go_num, by have hgg := G5.out; show Gr _ _; repeat (first | (with_reducible exact Gr.refl _) | (with_reducible assumption) | (with_reducible refine Gr.alloc ?_ _) | (with_reducible refine Gr.drewN ?_ _) | (with_reducible refine Gr.drew ?_) | (with_reducible refine Gr.grown ?_ _ _) | (with_reducible refine Gr.regrown ?_ _ _) | (with_reducible refine Gr.setCell ?_ (by first | omega | (simp; omega) | simp) _) | (with_reducible refine Gr.trans ?_ (by with_reducible assumption))), (show _ = _ by have := RS.out; rw [R.out, HN.out] at this; rw [this, BN.out])⟩
            · obtain ⟨z, hz⟩ : ∃ z, l[kk - 1]? = some z := ⟨_, List.getElem?_eq_getElem (by rw [HN.out]; omega)⟩
              have z0 := ((UU.out (kk - 1) z hz).gr G5.out) 0 _ rfl
              simp only [Nat.add_zero] at z0
              have HZ := Lib.hid hz
              have ez : (0 : Int) < (kk : Int) := by omega
              have es : IntKind.i64.wrap ((kk : Int) - 1) = ((kk - 1 : Nat) : Int) := by rw [IntWalk.i64_in _ (by omega)]; omega
              have em : ((kk - 1 : Nat) : Int) < (n : Int) := by omega
              clear hz
              by_cases hq : x.id ≤ z.id
              · have BO := Lp.bad_ord HX.out HF.out e0 HZ.out hq
                have RB : Hid (Lp.chkL nn l = ((kk : Int), 5)) := (show _ = _ by rw [RS.out, Lp.scan_bad (by rw [BO]; decide), BO])
                clear BO
                go_quiet (fail)
                go_wp2_with fail
                go_ret2
                exact ⟨ret_int2 (by rw [RB.out]) (by rw [RB.out]), by have hgg := G5.out; repeat (first | (with_reducible exact Gr.refl _) | (with_reducible assumption) | (with_reducible refine Gr.alloc ?_ _) | (with_reducible refine Gr.drewN ?_ _) | (with_reducible refine Gr.drew ?_) | (with_reducible refine Gr.grown ?_ _ _) | (with_reducible refine Gr.regrown ?_ _ _) | (with_reducible refine Gr.setCell ?_ (by first | omega | (simp; omega) | simp) _) | (with_reducible refine Gr.trans ?_ (by with_reducible assumption)))⟩
              · have BN := Lib.hid (Lp.scan_go (k := n - (kk + 1)) (Lp.bad_no HX.out HF.out (fun y _ hy => by rw [HZ.out] at hy; cases hy; exact hq)))
                have hq' : z.id < x.id := by omega
                clear hq
                go_quiet (fail)
                go_wp2_with fail
                go_roundg (n - (kk + 1))
                case measure => omega
                case rel => exact ⟨kk + 1, by omega, by omega, by go_num, by have hgg := G5.out; show Gr _ _; repeat (first | (with_reducible exact Gr.refl _) | (with_reducible assumption) | (with_reducible refine Gr.alloc ?_ _) | (with_reducible refine Gr.drewN ?_ _) | (with_reducible refine Gr.drew ?_) | (with_reducible refine Gr.grown ?_ _ _) | (with_reducible refine Gr.regrown ?_ _ _) | (with_reducible refine Gr.setCell ?_ (by first | omega | (simp; omega) | simp) _) | (with_reducible refine Gr.trans ?_ (by with_reducible assumption))), (show _ = _ by have := RS.out; rw [R.out, HN.out] at this; rw [this, BN.out])⟩
          · have BF := Lp.bad_flt (n := nn) HX.out (by simpa using hf)
            have RB : Hid (Lp.chkL nn l = ((kk : Int), Lp.flt nn x)) := (show _ = _ by rw [RS.out, Lp.scan_bad (by rw [BF]; simpa using hf), BF])
            clear BF
            generalize Lp.flt nn x = E at *
            have G4 : Aside (Gr w (wr.alloc (Obj.cells (encL x).toArray 23))) := Gr.alloc G.out _
            refine (C1 _).mono ?_
            rintro e w5 ⟨rfl, g5⟩
            have G5 : Aside (Gr w w5) := G4.out.trans g5
            clear g5 C1 l0 l1 l2 l3 l4 l5 l6 hbr
            go_wp2_with fail
            go_ret2
            exact ⟨ret_int2 (by rw [RB.out]) (by rw [RB.out]), G5.out⟩
        · have hltz : ¬ (kk : Int) < (n : Int) := by omega
          have RF : Hid (Lp.chkL nn l = (-1, 0)) := (show _ = _ by rw [R.out, HN.out, SC.out, show n - kk = 0 by omega]; rfl)
          go_wp2_with fail
          go_ret2
          exact ⟨ret_int2 (by rw [RF.out]) (by rw [RF.out]), G.out⟩
    · have R := Lib.hid (Lp.chkL_big hn hl)
      have hz8 : decide ((8 : Int) < (l.length : Int)) = true := bt (by omega)
      obtain ⟨n1, n2⟩ := hn
      clear h hl
      go_enter Try.func26, Try.ntmps26
      go_wp2_with fail
      go_ret2
      exact ⟨ret_int2 (by rw [R.out]) (by rw [R.out]), by repeat (first | (with_reducible exact Gr.refl _) | (with_reducible assumption) | (with_reducible refine Gr.alloc ?_ _) | (with_reducible refine Gr.drewN ?_ _) | (with_reducible refine Gr.drew ?_) | (with_reducible refine Gr.grown ?_ _ _) | (with_reducible refine Gr.regrown ?_ _ _) | (with_reducible refine Gr.setCell ?_ (by first | omega | (simp; omega) | simp) _) | (with_reducible refine Gr.trans ?_ (by with_reducible assumption)))⟩
  · have R := Lib.hid (Lp.chkL_n (l := l) hn)
    clear h
    go_enter Try.func26, Try.ntmps26
    go_wp2_with fail
    all_goals first | (go_ret2; exact ⟨ret_int2 (by rw [R.out]) (by rw [R.out]), by repeat (first | (with_reducible exact Gr.refl _) | (with_reducible assumption) | (with_reducible refine Gr.alloc ?_ _) | (with_reducible refine Gr.drewN ?_ _) | (with_reducible refine Gr.drew ?_) | (with_reducible refine Gr.grown ?_ _ _) | (with_reducible refine Gr.regrown ?_ _ _) | (with_reducible refine Gr.setCell ?_ (by first | omega | (simp; omega) | simp) _) | (with_reducible refine Gr.trans ?_ (by with_reducible assumption)))⟩) | (exfalso; omega)
end Go.Proofs.Ytckkjiaoaeaaoaa
