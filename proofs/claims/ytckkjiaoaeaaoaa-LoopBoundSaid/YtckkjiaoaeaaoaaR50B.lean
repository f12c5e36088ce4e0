/- The contracts of the reference's flows, Flows, Splits, Check. -/
import Derived.Test.YtckkjiaoaeaaoaaR50A
import Derived.Test.YtckkjiaoaeaaoaaLopC
import Derived.Test.YtckkjiaoaeaaoaaLopD
namespace Go.Proofs.Ytckkjiaoaeaaoaa
open Go.RowKit Go.Sort
set_option linter.unusedVariables false

/-- flows come back -/
def FsPost (L : List Fl) (w : World) (e : Ending) (w' : World) : Prop := ∃ v, e = .returned v ∧ Rows 6 encF w' v L ∧ Gr w w'

set_option maxHeartbeats 2000000 in
set_option maxRecDepth 100000 in
theorem rflows_any (l : Lo) (s : Sp) (w : World) (h : Lp.rgt l s = 0) :
    Calls Try.prog 47 #[.agg #[.int .i64 l.id, .int .i64 l.se, .int .i64 l.co, .int .i64 l.ac, .int .i64 l.pe, .int .i64 l.ph, .int .i64 l.ag], .agg #[.int .i64 s.s, .int .i64 s.a]] w (FsPost [Lp.fa l s, Lp.fb l s] w) := by
  obtain ⟨⟨⟨⟨⟨i1, i2⟩, -⟩, ⟨p1, p2⟩, ⟨p3, p4⟩, -⟩, -⟩, f1, f2, f3, f4, -⟩ := Lp.rgt_inv h
  clear h
  have e1 : IntKind.i64.wrap (2 * l.id) = 2 * l.id := IntWalk.i64_in _ (by omega)
  have e2 : IntKind.i64.wrap (2 * l.id + 1) = 2 * l.id + 1 := IntWalk.i64_in _ (by omega)
  have e3 : IntKind.i64.wrap (l.ph + s.s) = l.ph + s.s := IntWalk.i64_in _ (by omega)
  have e4 : 0 ≤ l.ph + s.s := by omega
  have e5 : (l.ph + s.s).tmod l.pe = (l.ph + s.s) % l.pe := Int.tmod_eq_emod_of_nonneg e4
  have e6 : ¬ l.pe = 0 := by omega
  have mixed : Try.prog.follows .mixedOrders = true := by kernel_rfl
  simp only [Lp.fa, Lp.fb]
  go_enter Try.func47, Try.ntmps47
  go_wp2_with fail
  have BX := boxed2 (enc := encL) (enc2 := encP) (x := l) (y := s) (Gr.refl ((w.alloc (Obj.cells (encL l).toArray 23)).alloc (Obj.cells (encP s).toArray 25)))
  have G2 : Aside (Gr w ((w.alloc (Obj.cells (encL l).toArray 23)).alloc (Obj.cells (encP s).toArray 25))) := Gr.alloc (Gr.alloc (Gr.refl _) _) _
  generalize ((w.alloc (Obj.cells (encL l).toArray 23)).alloc (Obj.cells (encP s).toArray 25)) = W5 at BX G2 ⊢
  have F5 := Lib.hid BX
  clear BX
  have KG : Aside (∀ W, Gr W5 W → (Gr W5 W ∧ W.cell? ⟨w.heap.size, 0, none⟩ = some (.int .i64 l.id) ∧ W.cell? ⟨w.heap.size, 1, none⟩ = some (.int .i64 l.se) ∧ W.cell? ⟨w.heap.size, 2, none⟩ = some (.int .i64 l.co) ∧ W.cell? ⟨w.heap.size, 3, none⟩ = some (.int .i64 l.ac) ∧ W.cell? ⟨w.heap.size, 4, none⟩ = some (.int .i64 l.pe) ∧ W.cell? ⟨w.heap.size, 5, none⟩ = some (.int .i64 l.ph) ∧ W.cell? ⟨w.heap.size + 1, 0, none⟩ = some (.int .i64 s.s) ∧ W.cell? ⟨w.heap.size + 1, 1, none⟩ = some (.int .i64 s.a))) := fun W gW => by
    have q1 := F5.out.1.gr gW
    have q2 := F5.out.2.gr gW
    exact ⟨gW, by simpa using q1 0 _ rfl, by simpa using q1 1 _ rfl, by simpa using q1 2 _ rfl, by simpa using q1 3 _ rfl, by simpa using q1 4 _ rfl, by simpa using q1 5 _ rfl, by simpa using q2 0 _ rfl, by simpa using q2 1 _ rfl⟩
  go_region_held3 (fun W => Gr W5 W ∧ W.cell? ⟨w.heap.size, 0, none⟩ = some (.int .i64 l.id) ∧ W.cell? ⟨w.heap.size, 1, none⟩ = some (.int .i64 l.se) ∧ W.cell? ⟨w.heap.size, 2, none⟩ = some (.int .i64 l.co) ∧ W.cell? ⟨w.heap.size, 3, none⟩ = some (.int .i64 l.ac) ∧ W.cell? ⟨w.heap.size, 4, none⟩ = some (.int .i64 l.pe) ∧ W.cell? ⟨w.heap.size, 5, none⟩ = some (.int .i64 l.ph) ∧ W.cell? ⟨w.heap.size + 1, 0, none⟩ = some (.int .i64 s.s) ∧ W.cell? ⟨w.heap.size + 1, 1, none⟩ = some (.int .i64 s.a)) ((refine KG.out _ ?_; (repeat (first | assumption | exact And.left (by assumption) | exact Gr.refl _ | refine Gr.drew ?_ | refine Gr.alloc ?_ _ | refine Gr.setCell ?_ (by first | exact Nat.le_refl _ | omega) _ | refine Gr.trans ?_ (by assumption))))) ((fail))
  go_wp2_with fail
  go_ret
  have RW := rows_new2 W5 (⟨2 * l.id, l.se, l.co, l.pe, l.ph, s.s⟩ : Fl) ⟨2 * l.id + 1, l.co, l.ac, l.pe, (l.ph + s.s) % l.pe, s.a⟩ encF_len 47 2
  exact ⟨.slice (some ⟨W5.heap.size, 0, none⟩) 2 2, by first | rfl | simp, RW.gr (Gr.drew (Gr.refl _)), Gr.drew (Gr.alloc G2.out _)⟩

set_option maxHeartbeats 2000000 in
theorem rflowsE_any (l : Lo) (s : Sp) (w : World) :
    Calls Try.prog 20 #[.agg #[.int .i64 l.id, .int .i64 l.se, .int .i64 l.co, .int .i64 l.ac, .int .i64 l.pe, .int .i64 l.ph, .int .i64 l.ag], .agg #[.int .i64 s.s, .int .i64 s.a]] w (FlPost (Lp.rgt l s) (Lp.flwL l s) w) := by
  have C1 := fun W => rright_any l s W
  rcases Lp.rgt_cases l s with h | h
  · have C2 := fun W => rflows_any l s W h
    have R : Hid (Lp.flwL l s = [Lp.fa l s, Lp.fb l s]) := (show _ = _ from if_pos h)
    rw [h] at C1 ⊢
    generalize [Lp.fa l s, Lp.fb l s] = L at C2 R
    clear h
    go_enter Try.func20, Try.ntmps20
    go_wp2_with fail
    refine (C1 _).mono ?_
    rintro e w1 ⟨rfl, g1⟩
    obtain ⟨L1, S1⟩ := boxed2 (enc := encL) (enc2 := encP) (x := l) (y := s) g1
    have u0 := (L1) 0 _ rfl; have u1 := (L1) 1 _ rfl; have u2 := (L1) 2 _ rfl; have u3 := (L1) 3 _ rfl; have u4 := (L1) 4 _ rfl; have u5 := (L1) 5 _ rfl; have u6 := (L1) 6 _ rfl; (try simp only [Nat.add_zero] at u0); (try simp only [Nat.zero_add] at u0 u1 u2 u3 u4 u5 u6)
    have v0 := (S1) 0 _ rfl; have v1 := (S1) 1 _ rfl; (try simp only [Nat.add_zero] at v0); (try simp only [Nat.zero_add] at v0 v1)
    have hz := L1.lt rfl
    have hz2 := S1.lt rfl
    have G1 : Aside (Gr w w1) := (Gr.alloc (Gr.alloc (Gr.refl _) _) _).trans g1
    clear g1 L1 S1 C1
    go_wp2_with fail
    refine (C2 _).mono ?_
    rintro e w2 ⟨vr, rfl, rr, g2⟩
    have G2 : Aside (Gr w w2) := G1.out.trans g2
    have RR := Lib.hid rr
    clear g2 C2 u0 u1 u2 u3 u4 u5 u6 v0 v1 hz hz2 rr
    go_wp2_with fail
    go_ret2
    exact ⟨vr, rfl, by rw [R.out]; exact RR.out, G2.out⟩
  · have R : Hid (Lp.flwL l s = []) := (show _ = _ from if_neg (by simpa using h))
    generalize Lp.rgt l s = E at *
    go_enter Try.func20, Try.ntmps20
    go_wp2_with fail
    refine (C1 _).mono ?_
    rintro e w1 ⟨rfl, g1⟩
    have G1 : Aside (Gr w w1) := (Gr.alloc (Gr.alloc (Gr.refl _) _) _).trans g1
    clear g1 C1
    go_wp2_with fail
    go_ret2
    exact ⟨.slice none 0 0, rfl, by rw [R.out]; exact Rows.nil _ _, G1.out⟩

theorem fit_spA {l : Lo} (h : Lp.flt 32 l = 0) (kk : Nat) (hk : (kk : Int) + 1 < l.pe) : Lp.fit l ⟨(kk : Int) + 1, Lp.sum l - ((kk : Int) + 1)⟩ ↔ kk < Lp.spN l := by
  obtain ⟨⟨-, ⟨p1, p2⟩, -, ⟨g1, g2⟩⟩, -⟩ := Lp.flt_inv h
  unfold Lp.fit Lp.spN Lp.sum
  dsimp only
  omega
theorem spN_le {l : Lo} (h : Lp.flt 32 l = 0) : (Lp.spN l : Int) ≤ l.pe - 1 := by
  obtain ⟨⟨-, ⟨p1, p2⟩, -, ⟨g1, g2⟩⟩, -⟩ := Lp.flt_inv h
  unfold Lp.spN Lp.sum
  omega

set_option maxHeartbeats 4000000 in
set_option maxRecDepth 100000 in
theorem rsplits_any (l : Lo) (w : World) :
    Calls Try.prog 18 #[.agg #[.int .i64 l.id, .int .i64 l.se, .int .i64 l.co, .int .i64 l.ac, .int .i64 l.pe, .int .i64 l.ph, .int .i64 l.ag]] w (SpPost (Lp.flt 32 l) (Lp.spl l) w) := by
  obtain ⟨i0, hi, hz0, hz1, hz2⟩ := info_parts infoP
  have C1 := fun W => rfault_any 32 l W
  rcases Lp.flt_cases 32 l with h | h
  · have R := Lib.hid (Lp.spl_ok h)
    have OK := Lib.hid (Lp.flt_inv h).1
    have FS := Lib.hid (fit_spA h)
    have SL := Lib.hid (spN_le h)
    obtain ⟨⟨-, ⟨p1, p2⟩, -, ⟨g1, g2⟩⟩, -⟩ := Lp.flt_inv h
    obtain ⟨sm, hsm⟩ : ∃ sm, Lp.sum l = sm := ⟨_, rfl⟩
    have e1 : min l.pe (l.ag - l.pe + 1) = sm := hsm
    have s1 : sm ≤ 512 := by omega
    have s2 : -512 ≤ sm := by omega
    have HSM := Lib.hid hsm
    obtain ⟨pn, hpn⟩ : ∃ pn : Nat, l.pe = (pn : Int) + 1 := ⟨(l.pe - 1).toNat, by omega⟩
    have HPN := Lib.hid hpn
    have HE1 := Lib.hid e1
    rw [h] at C1 ⊢
    clear h hsm hpn e1
    go_enter Try.func18, Try.ntmps18
    go_wp2_with fail
    refine (C1 _).mono ?_
    rintro e w1 ⟨rfl, g1'⟩
    have L1 : Aside (At encL w1 w.heap.size 0 l) := boxed (enc := encL) (x := l) g1'
    have G1 : Aside (Gr w w1) := (Gr.alloc (Gr.refl _) _).trans g1'
    have hzb := L1.out.lt rfl
    clear g1' C1
    go_wp2_with fail
    go_loopg [5, 6, 7, 8] pn (fun gg s5 s6 _ _ wr => ∃ kk : Nat, kk ≤ pn ∧ pn - kk ≤ gg ∧ s6 = .int .i64 ((kk : Int) + 1) ∧ Aside (Gr w1 wr) ∧ Aside (wr.ownsRow w1.heap.size 25 2 s5 (min kk (Lp.spN l)) ((((List.range (min kk (Lp.spN l))).map (Lp.spA l)).map encP).flatten)))
    case atStart => exact ⟨0, Nat.zero_le _, by omega, rfl, Gr.refl _, (show World.ownsRow _ _ _ _ _ _ _ by rw [Nat.zero_min]; exact World.ownsRow_nil _ _ _ _)⟩
    case round =>
      obtain ⟨kk, hkk, hgg, rfl, GW, O⟩ := hrel
      have G : Aside (Gr w wr) := G1.out.trans GW.out
      have LR : Aside (At encL wr w.heap.size 0 l) := L1.out.gr GW.out
      have k0 := (LR.out) 0 _ rfl; have k1 := (LR.out) 1 _ rfl; have k2 := (LR.out) 2 _ rfl; have k3 := (LR.out) 3 _ rfl; have k4 := (LR.out) 4 _ rfl; have k5 := (LR.out) 5 _ rfl; have k6 := (LR.out) 6 _ rfl; (try simp only [Nat.add_zero] at k0); (try simp only [Nat.zero_add] at k0 k1 k2 k3 k4 k5 k6)
      have hz := LR.out.lt rfl
      by_cases hlt : kk < pn
      · have hltz : (kk : Int) + 1 < l.pe := by have := HPN.out; omega
        have e1 := HE1.out
        have FF := FS.out kk hltz
        rw [HSM.out] at FF
        have C2 := fun W => rfits_any l ⟨(kk : Int) + 1, sm - ((kk : Int) + 1)⟩ W OK.out
        dsimp only at C2
        have hk5 : (kk : Int) + 1 ≤ 512 := by omega
        by_cases hf : kk < Lp.spN l
        · rw [bt (FF.2 hf)] at C2
          have M1 : min kk (Lp.spN l) = kk := Nat.min_eq_left (by omega)
          have M2 : Hid (min (kk + 1) (Lp.spN l) = kk + 1) := (show _ = _ from Nat.min_eq_left (by omega))
          rw [M1] at O
          have SN : (((List.range (kk + 1)).map (Lp.spA l)).map encP).flatten = (((List.range kk).map (Lp.spA l)).map encP).flatten ++ [.int .i64 ((kk : Int) + 1), .int .i64 (sm - ((kk : Int) + 1))] := by
            have e : (encP (Lp.spA l kk)) = [.int .i64 ((kk : Int) + 1), .int .i64 (sm - ((kk : Int) + 1))] := by
              have : sm - 1 - (kk : Int) = sm - ((kk : Int) + 1) := by omega
              unfold Lp.spA
              dsimp only [encP]
              rw [HSM.out, this]
            rw [Lp.spl_snoc, snoc_flat, e]
          obtain ⟨XS, hXS⟩ : ∃ XS, (((List.range kk).map (Lp.spA l)).map encP).flatten = XS := ⟨_, rfl⟩
          rw [hXS] at O SN
          have SN' := Lib.hid SN
          clear SN hXS M1 FF hf
          go_wp2_with fail
          refine (C2 _).mono ?_
          rintro e w5 ⟨rfl, g5⟩
          have S5 := boxed (enc := encP) (x := (⟨(kk : Int) + 1, sm - ((kk : Int) + 1)⟩ : Sp)) g5
          have GW5 : Aside (Gr w1 w5) := (Gr.alloc GW.out _).trans g5
          have O5 := Lib.hid (owns_gr O.out ((Gr.alloc (Gr.refl _) _).trans g5))
          have y0 := (S5) 0 _ rfl; have y1 := (S5) 1 _ rfl; (try simp only [Nat.add_zero] at y0); (try simp only [Nat.zero_add] at y0 y1)
          have hz5 := S5.lt rfl
          clear S5 g5 C2 k0 k1 k2 k3 k4 k5 k6 hz
          (try dsimp only at y0 y1)
          go_wp2_with (at_builtin; refine wpList_append_own _ rfl _ _ 38 rfl w1.heap.size 25 i0 (.agg #[.int .i64 0, .int .i64 0]) 2 16 Try.underlying38 hi hz0 hz1 hz2 rfl (by decide) _ _ _ rfl (O5.out.alloc _) ⟨w5.heap.size, 0, none⟩ 1 1 [.int .i64 ((kk : Int) + 1), .int .i64 (sm - ((kk : Int) + 1))] rfl rfl ?qa1 ?qa2 ?qa3 ?qa4 ?qa5 ?_)
          case qa1 => intro j u hj; rw [Addr.add_lit, Nat.zero_add, World.cell?_alloc_new]; simpa using hj
          case qa2 => simp [Value.oneCell']
          case qa3 => unfold maxLen; omega
          case qa4 => omega
          case qa5 => have := GW5.out.size; simp; omega
          intro v' w' hown' hgrow _
          have HO := Lib.hid hown'
          have GG1 : Aside (Gr w1 w') := (GW5.out.alloc _).append hgrow (fun k hk => (O5.out.lt k hk).1)
          clear hown' hgrow
          go_wp2_with fail
          go_roundg (pn - (kk + 1))
          case measure => omega
          case rel => exact ⟨kk + 1, by omega, by omega, by go_num, GG1.out, (show World.ownsRow _ _ _ _ _ _ _ by rw [M2.out, SN'.out]; exact HO.out)⟩
        · rw [bf (fun k => hf (FF.1 k))] at C2
          have M2 : Hid (min (kk + 1) (Lp.spN l) = min kk (Lp.spN l)) := (show _ = _ by omega)
          clear FF hf
          go_wp2_with fail
          refine (C2 _).mono ?_
          rintro e w5 ⟨rfl, g5⟩
          have GW5 : Aside (Gr w1 w5) := (Gr.alloc GW.out _).trans g5
          have O5 := Lib.hid (owns_gr O.out ((Gr.alloc (Gr.refl _) _).trans g5))
          clear g5 C2 k0 k1 k2 k3 k4 k5 k6 hz
          go_wp2_with fail
          go_roundg (pn - (kk + 1))
          case measure => omega
          case rel => exact ⟨kk + 1, by omega, by omega, by go_num, GW5.out, (show World.ownsRow _ _ _ _ _ _ _ by rw [M2.out]; exact O5.out)⟩
      · have hltz : ¬ (kk : Int) + 1 < l.pe := by have := HPN.out; omega
        have MN : Hid (min kk (Lp.spN l) = Lp.spN l) := (show _ = _ by have := SL.out; have := HPN.out; omega)
        go_wp2_with fail
        go_ret2
        exact ⟨u5, ret_vi rfl rfl, by rw [R.out]; exact owns_rows encP_len (by have := O.out; rw [MN.out] at this; exact this) (by simp), G.out⟩
  · have R := Lib.hid (Lp.spl_no (l := l) (by simpa using h))
    generalize Lp.flt 32 l = E at *
    go_enter Try.func18, Try.ntmps18
    go_wp2_with fail
    refine (C1 _).mono ?_
    rintro e w1 ⟨rfl, g1⟩
    have G1 : Aside (Gr w w1) := (Gr.alloc (Gr.refl _) _).trans g1
    clear g1 C1
    go_wp2_with fail
    go_ret2
    exact ⟨.slice none 0 0, ret_vi rfl rfl, by rw [R.out]; exact Rows.nil _ _, G1.out⟩

set_option maxHeartbeats 4000000 in
set_option maxRecDepth 100000 in
theorem rlcheck_any (nn : Int) (v : Value) (l : List Lo) (w : World) (h : Rows 7 encL w v l) (hbig : (l.length : Int) ≤ 4611686018427387904) :
    Calls Try.prog 27 #[.int .i64 nn, v] w fun e w' => e = .returned (.tuple #[.int .i64 (Lp.chkL nn l).1, .int .i64 (Lp.chkL nn l).2]) ∧ Gr w w' := by
  obtain ⟨A, c, rfl⟩ := h.slice
  by_cases hn : 2 ≤ nn ∧ nn ≤ 32
  · by_cases hl : l.length ≤ 8
    · have US : Aside (Sl 7 encL w (.slice A l.length c) l) := h.sl
      have R := Lib.hid (Lp.chkL_go hn hl)
      obtain ⟨n, hnn⟩ : ∃ n, l.length = n := ⟨_, rfl⟩
      have HN := Lib.hid hnn
      obtain ⟨n1, n2⟩ := hn
      rw [hnn] at hbig hl ⊢
      have hz8 : decide ((8 : Int) < (n : Int)) = false := bf (by omega)
      clear h hnn
      go_enter Try.func27, Try.ntmps27
      go_wp2_with fail
      go_loopg [4, 5, 6, 7] n (fun gg _ _ s22 _ wr => ∃ kk : Nat, kk ≤ n ∧ n - kk ≤ gg ∧ s22 = .int .i64 (kk : Int) ∧ Aside (Gr w wr) ∧ Aside (Lp.scan nn l n 0 = Lp.scan nn l (n - kk) kk))
      case atStart => exact ⟨0, Nat.zero_le _, by omega, rfl, Gr.refl _, rfl⟩
      case round =>
        obtain ⟨kk, hkk, hgg, rfl, G, SC⟩ := hrel
        by_cases hlt : kk < n
        · have hltz : (kk : Int) < (n : Int) := by omega
          obtain ⟨x, hx⟩ : ∃ x, l[kk]? = some x := ⟨_, List.getElem?_eq_getElem (by rw [HN.out]; exact hlt)⟩
          rcases US.out with h0 | ⟨b, off, ⟨c', hv⟩, hb, hU⟩
          · rw [HN.out] at h0; omega
          simp only [Value.slice.injEq] at hv
          obtain ⟨rfl, -, rfl⟩ := hv
          have UU : Aside (∀ (i : Nat) x, l[i]? = some x → At encL w b (off + i * 7) x) := hU
          have HB := Lib.hid hb
          have l0 := ((hU kk x hx).gr G.out) 0 _ rfl; have l1 := ((hU kk x hx).gr G.out) 1 _ rfl; have l2 := ((hU kk x hx).gr G.out) 2 _ rfl; have l3 := ((hU kk x hx).gr G.out) 3 _ rfl; have l4 := ((hU kk x hx).gr G.out) 4 _ rfl; have l5 := ((hU kk x hx).gr G.out) 5 _ rfl; have l6 := ((hU kk x hx).gr G.out) 6 _ rfl; (try simp only [Nat.add_zero] at l0); (try simp only [Nat.zero_add] at l0 l1 l2 l3 l4 l5 l6)
          have hbr := block_lt_of_cell l0
          have C1 := fun W => rfault_any nn x W
          have HX := Lib.hid hx
          have RS : Hid (Lp.chkL nn l = Lp.scan nn l ((n - (kk + 1)) + 1) kk) := (show _ = _ by rw [R.out, HN.out, SC.out]; congr 1; omega)
          clear hU hb hx
          go_wp2_with fail
          rcases Lp.flt_cases nn x with hf | hf
          · rw [hf] at C1
            have HF := Lib.hid hf
            refine (C1 _).mono ?_
            rintro e w5 ⟨rfl, g5⟩
            have x0 := ((UU.out kk x HX.out).gr (G.out.trans g5)) 0 _ rfl
            simp only [Nat.add_zero] at x0
            have hz5 := block_lt_of_cell x0
            have G5 : Aside (Gr w w5) := G.out.trans g5
            clear g5 C1 l0 l1 l2 l3 l4 l5 l6 hbr hf
            go_wp2_with fail
            rcases Nat.eq_zero_or_pos kk with e0 | e0
            · subst e0
              have BN := Lib.hid (Lp.scan_go (k := n - (0 + 1)) (Lp.bad_no HX.out HF.out (fun y h0 => absurd h0 (Nat.lt_irrefl 0))))
              go_quiet (fail)
              go_wp2_with fail
              go_roundg (n - (0 + 1))
              case measure => omega
              case rel => exact ⟨0 + 1, by omega, by omega, by go_num, by have hgg := G5.out; show Gr _ _; repeat (first | (with_reducible exact Gr.refl _) | (with_reducible assumption) | (with_reducible refine Gr.alloc ?_ _) | (with_reducible refine Gr.drewN ?_ _) | (with_reducible refine Gr.drew ?_) | (with_reducible refine Gr.grown ?_ _ _) | (with_reducible refine Gr.regrown ?_ _ _) | (with_reducible refine Gr.setCell ?_ (by first | omega | (simp; omega) | simp) _) | (with_reducible refine Gr.trans ?_ (by with_reducible assumption))), (show _ = _ by have := RS.out; rw [R.out, HN.out] at this; rw [this, BN.out])⟩
            · obtain ⟨z, hz⟩ : ∃ z, l[kk - 1]? = some z := ⟨_, List.getElem?_eq_getElem (by rw [HN.out]; omega)⟩
              have z0 := ((UU.out (kk - 1) z hz).gr G5.out) 0 _ rfl
              simp only [Nat.add_zero] at z0
              have HZ := Lib.hid hz
              have ez : (0 : Int) < (kk : Int) := by omega
              have es : IntKind.i64.wrap ((kk : Int) - 1) = ((kk - 1 : Nat) : Int) := by rw [IntWalk.i64_in _ (by omega)]; omega
              have em : ((kk - 1 : Nat) : Int) < (n : Int) := by omega
              clear hz
              by_cases hq : x.id ≤ z.id
              · have BO := Lp.bad_ord HX.out HF.out e0 HZ.out hq
                have RB : Hid (Lp.chkL nn l = ((kk : Int), 5)) := (show _ = _ by rw [RS.out, Lp.scan_bad (by rw [BO]; decide), BO])
                clear BO
                go_quiet (fail)
                go_wp2_with fail
                go_ret2
                exact ⟨ret_int2 (by rw [RB.out]) (by rw [RB.out]), by have hgg := G5.out; repeat (first | (with_reducible exact Gr.refl _) | (with_reducible assumption) | (with_reducible refine Gr.alloc ?_ _) | (with_reducible refine Gr.drewN ?_ _) | (with_reducible refine Gr.drew ?_) | (with_reducible refine Gr.grown ?_ _ _) | (with_reducible refine Gr.regrown ?_ _ _) | (with_reducible refine Gr.setCell ?_ (by first | omega | (simp; omega) | simp) _) | (with_reducible refine Gr.trans ?_ (by with_reducible assumption)))⟩
              · have BN := Lib.hid (Lp.scan_go (k := n - (kk + 1)) (Lp.bad_no HX.out HF.out (fun y _ hy => by rw [HZ.out] at hy; cases hy; exact hq)))
                have hq' : z.id < x.id := by omega
                clear hq
                go_quiet (fail)
                go_wp2_with fail
                go_roundg (n - (kk + 1))
                case measure => omega
                case rel => exact ⟨kk + 1, by omega, by omega, by go_num, by have hgg := G5.out; show Gr _ _; repeat (first | (with_reducible exact Gr.refl _) | (with_reducible assumption) | (with_reducible refine Gr.alloc ?_ _) | (with_reducible refine Gr.drewN ?_ _) | (with_reducible refine Gr.drew ?_) | (with_reducible refine Gr.grown ?_ _ _) | (with_reducible refine Gr.regrown ?_ _ _) | (with_reducible refine Gr.setCell ?_ (by first | omega | (simp; omega) | simp) _) | (with_reducible refine Gr.trans ?_ (by with_reducible assumption))), (show _ = _ by have := RS.out; rw [R.out, HN.out] at this; rw [this, BN.out])⟩
          · have BF := Lp.bad_flt (n := nn) HX.out (by simpa using hf)
            have RB : Hid (Lp.chkL nn l = ((kk : Int), Lp.flt nn x)) := (show _ = _ by rw [RS.out, Lp.scan_bad (by rw [BF]; simpa using hf), BF])
            clear BF
            generalize Lp.flt nn x = E at *
            refine (C1 _).mono ?_
            rintro e w5 ⟨rfl, g5⟩
            have G5 : Aside (Gr w w5) := G.out.trans g5
            clear g5 C1 l0 l1 l2 l3 l4 l5 l6 hbr
            go_wp2_with fail
            go_ret2
            exact ⟨ret_int2 (by rw [RB.out]) (by rw [RB.out]), G5.out⟩
        · have hltz : ¬ (kk : Int) < (n : Int) := by omega
          have RF : Hid (Lp.chkL nn l = (-1, 0)) := (show _ = _ by rw [R.out, HN.out, SC.out, show n - kk = 0 by omega]; rfl)
          go_wp2_with fail
          go_ret2
          exact ⟨ret_int2 (by rw [RF.out]) (by rw [RF.out]), G.out⟩
    · have R := Lib.hid (Lp.chkL_big hn hl)
      have hz8 : decide ((8 : Int) < (l.length : Int)) = true := bt (by omega)
      obtain ⟨n1, n2⟩ := hn
      clear h hl
      go_enter Try.func27, Try.ntmps27
      go_wp2_with fail
      go_ret2
      exact ⟨ret_int2 (by rw [R.out]) (by rw [R.out]), by repeat (first | (with_reducible exact Gr.refl _) | (with_reducible assumption) | (with_reducible refine Gr.alloc ?_ _) | (with_reducible refine Gr.drewN ?_ _) | (with_reducible refine Gr.drew ?_) | (with_reducible refine Gr.grown ?_ _ _) | (with_reducible refine Gr.regrown ?_ _ _) | (with_reducible refine Gr.setCell ?_ (by first | omega | (simp; omega) | simp) _) | (with_reducible refine Gr.trans ?_ (by with_reducible assumption)))⟩
  · have R := Lib.hid (Lp.chkL_n (l := l) hn)
    clear h
    go_enter Try.func27, Try.ntmps27
    go_wp2_with fail
    all_goals first | (go_ret2; exact ⟨ret_int2 (by rw [R.out]) (by rw [R.out]), by repeat (first | (with_reducible exact Gr.refl _) | (with_reducible assumption) | (with_reducible refine Gr.alloc ?_ _) | (with_reducible refine Gr.drewN ?_ _) | (with_reducible refine Gr.drew ?_) | (with_reducible refine Gr.grown ?_ _ _) | (with_reducible refine Gr.regrown ?_ _ _) | (with_reducible refine Gr.setCell ?_ (by first | omega | (simp; omega) | simp) _) | (with_reducible refine Gr.trans ?_ (by with_reducible assumption)))⟩) | (exfalso; omega)
end Go.Proofs.Ytckkjiaoaeaaoaa
