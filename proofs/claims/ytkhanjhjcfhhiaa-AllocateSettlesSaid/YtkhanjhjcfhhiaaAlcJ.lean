/- The contract of allocate's Join. -/
import Derived.Test.YtkhanjhjcfhhiaaAlcF
import Derived.Test.YtkhanjhjcfhhiaaAlcEq
import Derived.Test.YtkhanjhjcfhhiaaAlcP9
namespace Go.Proofs.Ytkhanjhjcfhhiaa
open Go.RowKit Go.Sort
set_option linter.unusedVariables false

/-- a cell of a table lies at a place -/
def CAt (W : World) (b o : Nat) (x : Cl) : Prop := ∀ (j : Nat) u, (encC x)[j]? = some u → W.cell? ⟨b, o + j, none⟩ = some u
theorem CAt.gr {W W' : World} {b o : Nat} {x : Cl} (h : CAt W b o x) (g : Gr W W') : CAt W' b o x := fun j u hj => held_keep g (h j u hj)
def CSl (w : World) (v : Value) (l : List Cl) : Prop := (l.length = 0 ∨ ∃ b off, (∃ c, v = .slice (some ⟨b, off, none⟩) l.length c) ∧ b < w.heap.size ∧ ∀ (i : Nat) x, l[i]? = some x → CAt w b (off + i * 6) x)
theorem Rows.csl {w : World} {v : Value} {l : List Cl} (h : Rows 6 encC w v l) : CSl w v l := by
  rcases h with ⟨rfl, _⟩ | ⟨b, off, c, hb, hv, hc⟩
  · exact .inl rfl
  · exact .inr ⟨b, off, ⟨c, hv⟩, hb, fun i x hi j u hj => hc i x hi j u hj⟩

set_option maxHeartbeats 400000 in
theorem join1_any (x u : Us) (C : Nat) (w : World) (cC : UAt w C 0 u) :
    Calls Try.prog 43 #[.agg #[.int .i64 x.c.s, .int .i64 x.c.o, .int .i64 x.c.k, .bool x.c.b, .int .i64 x.c.p, .int .i64 x.c.f, .int .i64 x.pa, .int .i64 x.us, .int .i64 x.wo], .pointer (some ⟨C, 0, none⟩)] w fun e w' => e = .returned (.bool (Al.atCell u.c x)) ∧ Gr w w' := by
  have c0 := (cC) 0 _ rfl; have c1 := (cC) 1 _ rfl; have c2 := (cC) 2 _ rfl; have c3 := (cC) 3 _ rfl; have c4 := (cC) 4 _ rfl; have c5 := (cC) 5 _ rfl; have c6 := (cC) 6 _ rfl; have c7 := (cC) 7 _ rfl; have c8 := (cC) 8 _ rfl; (try simp only [Nat.add_zero] at c0); (try simp only [Nat.zero_add] at c0 c1 c2 c3 c4 c5 c6 c7 c8)
  have hC := block_lt_of_cell c0
  have eqn := fun W (a b : Cl) => eql_cl W a b
  clear cC
  go_enter Try.func43, Try.ntmps43
  go_wp2_with fail
  go_ret
  exact ⟨rfl, by repeat (first | (with_reducible exact Gr.refl _) | (with_reducible assumption) | (with_reducible refine Gr.alloc ?_ _) | (with_reducible refine Gr.drewN ?_ _) | (with_reducible refine Gr.drew ?_) | (with_reducible refine Gr.grown ?_ _ _) | (with_reducible refine Gr.regrown ?_ _ _) | (with_reducible refine Gr.setCell ?_ (by first | omega | (simp; omega) | simp) _) | (with_reducible refine Gr.trans ?_ (by with_reducible assumption)))⟩

theorem news_snoc {cs : List Cl} {kk : Nat} {c : Cl} (h : cs[kk]? = some c) : (((cs.take (kk + 1)).map Al.new).map encU).flatten = (((cs.take kk).map Al.new).map encU).flatten ++ [.int .i64 c.s, .int .i64 c.o, .int .i64 c.k, .bool c.b, .int .i64 c.p, .int .i64 c.f, .int .i64 0, .int .i64 0, .int .i64 0] := by
  rw [List.take_add_one, h]
  simp only [Option.toList_some, List.map_append, List.flatten_append, List.map_cons, List.map_nil, List.flatten_cons, List.flatten_nil, List.append_nil]
  rfl

set_option maxHeartbeats 4000000 in
set_option maxRecDepth 100000 in
theorem join_any (v v1 : Value) (l : List Us) (cs : List Cl) (w : World) (h : Rows 9 encU w v l) (h1 : Rows 6 encC w v1 cs) (hbig : (l.length : Int) ≤ 4611686018427387904) (hcs : cs.length ≤ 1048576) :
    Calls Try.prog 25 #[v, v1] w (UsPost (Al.joiE l cs) (Al.joiL l cs) w) := by
  have C1 := fun W g => check_any v l W (h.gr (w := W) g) hbig
  have HR := Lib.hid h
  have US : Aside (USl w v l) := h.usl
  have CS : Aside (CSl w v1 cs) := h1.csl
  obtain ⟨A, c, rfl⟩ := h.slice
  obtain ⟨A1, c1, rfl⟩ := h1.slice
  obtain ⟨i0, hi, hz0, hz1, hz2⟩ := info_parts infoCloneU
  rcases Al.chk_cases l with hc | hc
  · have HC := Lib.hid hc
    rw [hc] at C1
    have C1' := Lib.hid C1
    obtain ⟨m, hm⟩ : ∃ m, cs.length = m := ⟨_, rfl⟩
    have HM := Lib.hid hm
    rw [hm] at hcs ⊢
    clear h h1 hc C1 hm
    go_enter Try.func25, Try.ntmps25
    go_wp2_with fail
    refine (C1'.out _ (Gr.refl _)).mono ?_
    rintro e w1 ⟨rfl, g1⟩
    have G1 : Aside (Gr w w1) := g1
    clear g1
    go_wp2_with fail
    go_loopg [6, 8, 18] m (fun gg s6 _ s18 wr => ∃ kk : Nat, kk ≤ m ∧ m - kk ≤ gg ∧ s18 = .int .i64 (kk : Int) ∧ Aside (Gr w wr) ∧ Aside (wr.ownsRow w.heap.size 39 9 s6 kk ((((cs.take kk).map Al.new).map encU).flatten)))
    case atStart => exact ⟨0, Nat.zero_le _, by omega, rfl, G1.out, World.ownsRow_nil _ _ _ _⟩
    case round =>
      obtain ⟨kk, hkk, hgg, rfl, G, O⟩ := hrel
      by_cases hlt : kk < m
      · have hltz : (kk : Int) < (m : Int) := by omega
        obtain ⟨cc, hcc⟩ : ∃ x, cs[kk]? = some x := ⟨_, List.getElem?_eq_getElem (by rw [HM.out]; exact hlt)⟩
        rcases CS.out with h0 | ⟨b, off, ⟨c', hv⟩, hb, hU⟩
        · rw [HM.out] at h0; omega
        rw [HM.out] at hv
        simp only [Value.slice.injEq] at hv
        obtain ⟨rfl, -, rfl⟩ := hv
        have cat := (hU kk cc hcc).gr G.out
        have l0 := cat 0 _ rfl
        have l1 := cat 1 _ rfl
        have l2 := cat 2 _ rfl
        have l3 := cat 3 _ rfl
        have l4 := cat 4 _ rfl
        have l5 := cat 5 _ rfl
        simp only [Nat.add_zero] at l0
        have hbr := block_lt_of_cell l0
        have SN0 := news_snoc hcc
        obtain ⟨XS, hXS⟩ : ∃ XS, (((cs.take kk).map Al.new).map encU).flatten = XS := ⟨_, rfl⟩
        rw [hXS] at SN0 O
        have SN := Lib.hid SN0
        clear hU hb hcc cat hXS SN0
        go_wp2_with (at_builtin; refine wpList_append_own _ rfl _ _ 22 rfl w.heap.size 39 i0 (.agg #[.int .i64 0, .int .i64 0, .int .i64 0, .bool false, .int .i64 0, .int .i64 0, .int .i64 0, .int .i64 0, .int .i64 0]) 9 72 Try.underlying22 hi hz0 hz1 hz2 rfl (by decide) _ _ _ rfl ((O.out.alloc _).alloc _) ⟨wr.heap.size + 1, 0, none⟩ 1 1 [.int .i64 cc.s, .int .i64 cc.o, .int .i64 cc.k, .bool cc.b, .int .i64 cc.p, .int .i64 cc.f, .int .i64 0, .int .i64 0, .int .i64 0] rfl rfl ?qa1 ?qa2 ?qa3 ?qa4 ?qa5 ?_)
        case qa2 => simp [Value.oneCell']
        case qa3 => unfold maxLen; omega
        case qa4 => omega
        case qa5 => have := G.out.size; simp; omega
        intro v' w' hown' hgrow _
        have HO := Lib.hid hown'
        clear hown'
        go_wp2_with fail
        go_roundg (m - (kk + 1))
        case measure => omega
        case rel => exact ⟨kk + 1, by omega, by omega, by go_num, ((G.out.alloc _).alloc _).append hgrow (fun k hk => (O.out.lt k hk).1), (show World.ownsRow _ _ _ _ _ _ _ by rw [SN.out]; exact HO.out)⟩
      · have hltz : ¬ (kk : Int) < (m : Int) := by omega
        have hkm : kk = m := by omega
        subst hkm
        have ON : Aside (wr.ownsRow w.heap.size 39 9 u6 kk (((cs.map Al.new).map encU).flatten)) := by
          have := O.out
          rwa [List.take_of_length_le (by rw [HM.out]; exact Nat.le_refl _)] at this
        have RN := owns_rows encU_len ON.out (by rw [List.length_map]; exact HM.out)
        have C2 := fun W g => check_any u6 (cs.map Al.new) W (RN.gr (w := W) g) (by rw [List.length_map, HM.out]; omega)
        obtain ⟨N6, C6, e6⟩ := owns_slice ON.out
        rcases Al.chk_cases (cs.map Al.new) with hn | hn
        · rw [hn] at C2
          have J := Lib.hid (Al.joi_ok HC.out hn)
          have M64 : kk ≤ 64 := by have := (Al.chk_inv hn).1; rw [List.length_map, HM.out] at this; exact this
          have C2' := Lib.hid C2
          have PK := Lib.hid (fun c => Al.pick_cases c HC.out)
          clear hn C2 RN CS hgg hkk hltz
          subst e6
          go_wp2_with fail
          refine (C2'.out _ (Gr.refl _)).mono ?_
          rintro e w2 ⟨rfl, g2⟩
          have G2 : Aside (Gr w w2) := G.out.trans g2
          have O2 : Aside (w2.ownsRow w.heap.size 39 9 (.slice N6 kk C6) kk (((Al.jl l cs 0).map encU).flatten)) := by
            have := owns_gr ON.out g2
            rwa [Al.jl_zero]
          clear g2 C2' ON O G
          go_wp2_with fail
          go_loopg [10, 11, 12, 35] kk (fun gg _ _ _ s35 wr => ∃ jj : Nat, jj ≤ kk ∧ kk - jj ≤ gg ∧ s35 = .int .i64 (jj : Int) ∧ Aside (Gr w wr) ∧ Aside (wr.ownsRow w.heap.size 39 9 (.slice N6 kk C6) kk (((Al.jl l cs jj).map encU).flatten)))
          case atStart => exact ⟨0, Nat.zero_le _, by omega, rfl, G2.out, O2.out⟩
          case round =>
            obtain ⟨jj, hjj, hgj, rfl, G, O⟩ := hrel
            by_cases hlt : jj < kk
            · have hltz : (jj : Int) < (kk : Int) := by omega
              obtain ⟨cc, hcc⟩ : ∃ x, cs[jj]? = some x := ⟨_, List.getElem?_eq_getElem (by rw [HM.out]; exact hlt)⟩
              obtain ⟨g, rfl, hgw⟩ : ∃ g, N6 = some ⟨g, 0, none⟩ ∧ w.heap.size ≤ g := by
                rcases O.out.2 with ⟨_, hz⟩ | ⟨g, cap, cur, hv, hgb, _⟩
                · omega
                · simp only [Value.slice.injEq] at hv
                  exact ⟨g, hv.1, hgb⟩
              have HJ := Lib.hid (Al.jl_at (l := l) hcc)
              have HCC := Lib.hid hcc
              obtain ⟨uu, huu, hucc⟩ : ∃ uu, Al.new cc = uu ∧ uu.c = cc := ⟨_, rfl, rfl⟩
              have HUU := Lib.hid huu
              have HJU : Hid ((Al.jl l cs jj)[jj]? = some uu) := (show _ = _ by rw [← huu]; exact HJ.out)
              have u0 := owns_cell encU_len O.out HJU.out (j := 0) rfl
              have u1 := owns_cell encU_len O.out HJU.out (j := 1) rfl
              have u2 := owns_cell encU_len O.out HJU.out (j := 2) rfl
              have u3 := owns_cell encU_len O.out HJU.out (j := 3) rfl
              have u4 := owns_cell encU_len O.out HJU.out (j := 4) rfl
              have u5 := owns_cell encU_len O.out HJU.out (j := 5) rfl
              have u6 := owns_cell encU_len O.out HJU.out (j := 6) rfl
              have u7 := owns_cell encU_len O.out HJU.out (j := 7) rfl
              have u8 := owns_cell encU_len O.out HJU.out (j := 8) rfl
              simp only [Nat.add_zero] at u0
              have P := PK.out cc
              have HUC := Lib.hid hucc
              clear hcc huu hucc
              go_wp2_with fail
              generalize hW4 : wr.alloc (Obj.cells #[.int .i64 uu.c.s, .int .i64 uu.c.o, .int .i64 uu.c.k, .bool uu.c.b, .int .i64 uu.c.p, .int .i64 uu.c.f, .int .i64 uu.pa, .int .i64 uu.us, .int .i64 uu.wo] 39) = w4
              have G4 : Aside (Gr w w4) := by rw [← hW4]; exact Gr.alloc G.out _
              have U4 : Aside (UAt w4 wr.heap.size 0 uu) := by rw [← hW4]; exact UAt.new _ _ _
              have O4 : Aside (w4.ownsRow w.heap.size 39 9 (.slice (some ⟨g, 0, none⟩) kk C6) kk (((Al.jl l cs jj).map encU).flatten)) := by rw [← hW4]; exact owns_gr O.out (Gr.alloc (Gr.refl _) _)
              clear hW4 u0 u1 u2 u3 u4 u5 u6 u7 u8 O G
              have IX := indexU_any 43 #[.pointer (some ⟨wr.heap.size, 0, none⟩)] (Al.atCell uu.c) (.slice A l.length c) l w4 (HR.out.gr G4.out) hbig (enters_of Try.func43 (by kernel_rfl) rfl) (fun W2 i x g2 hi => join1_any x uu wr.heap.size W2 (U4.out.gr g2))
              rw [HUC.out] at IX
              rcases P with ⟨_, ix, hp⟩ | ⟨k, x, hx, hxc, ix, hp⟩
              · rw [ix] at IX
                have JS := Lib.hid (Al.jl_same HCC.out hp)
                clear ix hp
                refine IX.mono ?_
                rintro e w5 ⟨rfl, g5⟩
                have G5 : Aside (Gr w w5) := G4.out.trans g5
                have O5 := Lib.hid (owns_gr O4.out g5)
                clear g5 IX
                go_wp2_with fail
                go_roundg (kk - (jj + 1))
                case measure => omega
                case rel => exact ⟨jj + 1, by omega, by omega, by go_num, G5.out, (show World.ownsRow _ _ _ _ _ _ _ by rw [← JS.out]; exact O5.out)⟩
              · rw [ix] at IX
                have HX := Lib.hid hx
                have hk : k < l.length := (List.getElem?_eq_some_iff.1 hx).1
                have JS := Lib.hid (Al.jl_set (l := l) HCC.out)
                have HP := Lib.hid hp
                clear ix hp hx hxc
                refine IX.mono ?_
                rintro e w5 ⟨rfl, g5⟩
                have G5 : Aside (Gr w w5) := G4.out.trans g5
                have O5 := Lib.hid (owns_gr O4.out g5)
                clear g5 IX
                rcases US.out with h0 | ⟨b, off, ⟨c', hv⟩, hb, hU⟩
                · omega
                simp only [Value.slice.injEq] at hv
                obtain ⟨rfl, -, rfl⟩ := hv
                have i0 : decide ((0 : Int) ≤ (k : Int)) = true := bt (by omega)
                have i1 : (k : Int) < (l.length : Int) := by omega
                have v0 := ((hU k x HX.out).gr G5.out) 0 _ rfl; have v1 := ((hU k x HX.out).gr G5.out) 1 _ rfl; have v2 := ((hU k x HX.out).gr G5.out) 2 _ rfl; have v3 := ((hU k x HX.out).gr G5.out) 3 _ rfl; have v4 := ((hU k x HX.out).gr G5.out) 4 _ rfl; have v5 := ((hU k x HX.out).gr G5.out) 5 _ rfl; have v6 := ((hU k x HX.out).gr G5.out) 6 _ rfl; have v7 := ((hU k x HX.out).gr G5.out) 7 _ rfl; have v8 := ((hU k x HX.out).gr G5.out) 8 _ rfl; (try simp only [Nat.add_zero] at v0); (try simp only [Nat.zero_add] at v0 v1 v2 v3 v4 v5 v6 v7 v8)
                have q0 := owns_cell encU_len O5.out HJU.out (j := 0) rfl
                have q1 := owns_cell encU_len O5.out HJU.out (j := 1) rfl
                have q2 := owns_cell encU_len O5.out HJU.out (j := 2) rfl
                have q3 := owns_cell encU_len O5.out HJU.out (j := 3) rfl
                have q4 := owns_cell encU_len O5.out HJU.out (j := 4) rfl
                have q5 := owns_cell encU_len O5.out HJU.out (j := 5) rfl
                have q6 := owns_cell encU_len O5.out HJU.out (j := 6) rfl
                have q7 := owns_cell encU_len O5.out HJU.out (j := 7) rfl
                have q8 := owns_cell encU_len O5.out HJU.out (j := 8) rfl
                simp only [Nat.add_zero] at q0
                have fz := fun j => O5.out.frozenAt j
                clear hU hb
                go_wp2_with fail
                go_roundg (kk - (jj + 1))
                case measure => omega
                case rel => exact ⟨jj + 1, by omega, by omega, by go_num, (show Gr _ _ by (repeat (first | (with_reducible exact (G5).out) | (with_reducible refine Gr.alloc ?_ _) | ((with_reducible refine Gr.setCell ?_ ?_ _); rotate_left; exact hgw)))), (show World.ownsRow _ _ _ _ _ _ _ by rw [← JS.out, HP.out]; exact owns_put9 O5.out HJU.out x)⟩
            · have hltz : ¬ (jj : Int) < (kk : Int) := by omega
              have JA := Lib.hid (Al.jl_all (l := l) (cs := cs) (kk := jj) (by rw [HM.out]; omega))
              go_wp2_with fail
              go_ret2
              exact ⟨.slice N6 kk C6, ret_vi rfl J.out.1.symm, by rw [J.out.2, ← JA.out]; exact owns_rows encU_len O.out (by rw [Al.jl_len]; exact HM.out), G.out⟩
        · have hn' : ¬ Al.chk (cs.map Al.new) = 0 := by simpa using hn
          have J := Lib.hid (Al.joi_bad HC.out hn')
          obtain ⟨E, hE⟩ : ∃ E, Al.chk (cs.map Al.new) = E := ⟨_, rfl⟩
          rw [hE] at C2 hn J
          have C2' := Lib.hid C2
          clear C2 RN CS hgg hkk hltz hn' hE
          subst e6
          go_wp2_with fail
          refine (C2'.out _ (Gr.refl _)).mono ?_
          rintro e w2 ⟨rfl, g2⟩
          have G2 : Aside (Gr w w2) := G.out.trans g2
          clear g2 C2'
          go_wp2_with fail
          go_ret2
          exact ⟨.slice none 0 0, ret_vi rfl J.out.1.symm, by rw [J.out.2]; exact Rows.nil _ _, G2.out⟩
  · have RCHK := Lib.hid (Al.joi_chk (l := l) (cs := cs) (by simpa using hc))
    have C1' := Lib.hid C1
    clear C1 HR h h1
    go_enter Try.func25, Try.ntmps25
    go_wp2_with fail
    refine (C1'.out _ (Gr.refl _)).mono ?_
    rintro e w1 ⟨rfl, g1⟩
    have G1 : Aside (Gr w w1) := g1
    clear g1
    go_wp2_with fail
    go_ret2
    exact ⟨.slice none 0 0, ret_vi rfl RCHK.out.1.symm, by rw [RCHK.out.2]; exact Rows.nil _ _, G1.out⟩
end Go.Proofs.Ytkhanjhjcfhhiaa
