/- The contract of the reference's Join. -/
import Derived.Test.YtkhanjhjcfhhiaaAlcJ
import Derived.Test.YtkhanjhjcfhhiaaR29A
namespace Go.Proofs.Ytkhanjhjcfhhiaa
open Go.RowKit Go.Sort
set_option linter.unusedVariables false

theorem set_at {l : List Us} {i : Nat} {y : Us} (x : Us) (h : l[i]? = some y) : (l.set i x)[i]? = some x := by
  rw [List.getElem?_set, if_pos rfl, if_pos (List.getElem?_eq_some_iff.1 h).1]
theorem set_id {l : List Us} {i : Nat} {y : Us} (h : l[i]? = some y) : l.set i y = l := by
  apply List.ext_getElem?
  intro j
  rw [List.getElem?_set]
  have hl := (List.getElem?_eq_some_iff.1 h).1
  by_cases e : i = j
  · subst e; rw [if_pos rfl, if_pos hl, h]
  · rw [if_neg e]

/-- what stands at the place so far: the usage that was found, or a fresh one -/
def sofar (l : List Us) (c : Cl) (j : Nat) : Us := if l.findIdx (Al.atCell c) < j ∧ l.any (Al.atCell c) = true then Al.pick l c else Al.new c
theorem sofar_zero (l : List Us) (c : Cl) : sofar l c 0 = Al.new c := by unfold sofar; rw [if_neg (by omega)]
theorem sofar_end (l : List Us) (c : Cl) : sofar l c l.length = Al.pick l c := by
  unfold sofar
  cases ha : l.any (Al.atCell c) with
  | false => rw [if_neg (by simp), Al.pick_miss ha]
  | true => rw [if_pos ⟨List.findIdx_lt_length_of_exists (List.any_eq_true.1 ha), rfl⟩]
theorem sofar_c (l : List Us) (c : Cl) (j : Nat) (h : Al.chk l = 0) : (sofar l c j).c = c := by
  unfold sofar
  split
  · rcases Al.pick_cases c h with ⟨_, _, hp⟩ | ⟨k, x, _, hx, _, hp⟩
    · rw [hp]; rfl
    · rw [hp, hx]
  · rfl
theorem sofar_hit {l : List Us} {c : Cl} {j : Nat} {x : Us} (h : Al.chk l = 0) (hx : l[j]? = some x) (he : x.c = c) : sofar l c (j + 1) = x := by
  have ha : l.any (Al.atCell c) = true := List.any_eq_true.2 ⟨x, List.mem_of_getElem? hx, by unfold Al.atCell; simpa using he⟩
  have hl := (List.getElem?_eq_some_iff.1 hx).1
  have hf : l.findIdx (Al.atCell c) ≤ j := by
    apply Nat.le_of_not_lt
    intro hn
    have := List.not_of_lt_findIdx hn
    rw [(List.getElem?_eq_some_iff.1 hx).2] at this
    unfold Al.atCell at this
    simp [he] at this
  unfold sofar
  rw [if_pos ⟨by omega, ha⟩, Al.pick_hit h hx he]
theorem sofar_miss {l : List Us} {c : Cl} {j : Nat} {x : Us} (hx : l[j]? = some x) (he : ¬ x.c = c) : sofar l c (j + 1) = sofar l c j := by
  unfold sofar
  by_cases h : l.findIdx (Al.atCell c) < j ∧ l.any (Al.atCell c) = true
  · rw [if_pos h, if_pos ⟨by omega, h.2⟩]
  · rw [if_neg h, if_neg]
    rintro ⟨h1, h2⟩
    have e : l.findIdx (Al.atCell c) = j := by
      have : ¬ l.findIdx (Al.atCell c) < j := fun q => h ⟨q, h2⟩
      omega
    have hl := (List.getElem?_eq_some_iff.1 hx).1
    have := List.findIdx_getElem (p := Al.atCell c) (xs := l) (w := by rw [e]; exact hl)
    simp only [e, (List.getElem?_eq_some_iff.1 hx).2] at this
    unfold Al.atCell at this
    exact he (by simpa using this)

set_option maxHeartbeats 4000000 in
set_option maxRecDepth 100000 in
theorem rjoin_any (v v1 : Value) (l : List Us) (cs : List Cl) (w : World) (h : Rows 9 encU w v l) (h1 : Rows 6 encC w v1 cs) (hbig : (l.length : Int) ≤ 4611686018427387904) (hcs : cs.length ≤ 1048576) :
    Calls Try.prog 26 #[v, v1] w (UsPost (Al.joiE l cs) (Al.joiL l cs) w) := by
  have C1 := fun W g => rcheck_any v l W (h.gr (w := W) g) hbig
  have HR := Lib.hid h
  have US : Aside (USl w v l) := h.usl
  have CS : Aside (CSl w v1 cs) := h1.csl
  obtain ⟨A, c, rfl⟩ := h.slice
  obtain ⟨A1, c1, rfl⟩ := h1.slice
  obtain ⟨i0, hi, hz0, hz1, hz2⟩ := info_parts infoCloneU
  rcases Al.chk_cases l with hc | hc
  · have HC := Lib.hid hc
    rw [hc] at C1
    have C1' := Lib.hid C1
    obtain ⟨m, hm⟩ : ∃ m, cs.length = m := ⟨_, rfl⟩
    have HM := Lib.hid hm
    rw [hm] at hcs ⊢
    obtain ⟨n, hn⟩ : ∃ n, l.length = n := ⟨_, rfl⟩
    have HN := Lib.hid hn
    have n1 : n ≤ 4611686018427387904 := by omega
    rw [hn] at C1' US ⊢
    clear h h1 hc C1 hm hn HR
    go_enter Try.func26, Try.ntmps26
    go_wp2_with fail
    refine (C1'.out _ (Gr.refl _)).mono ?_
    rintro e w1 ⟨rfl, g1⟩
    have G1 : Aside (Gr w w1) := g1
    clear g1
    go_wp2_with fail
    go_loopg [6, 7] m (fun gg s6 s7 wr => ∃ kk : Nat, kk ≤ m ∧ m - kk ≤ gg ∧ s7 = .int .i64 (kk : Int) ∧ Aside (Gr w wr) ∧ Aside (wr.ownsRow w.heap.size 39 9 s6 kk ((((cs.take kk).map Al.new).map encU).flatten)))
    case atStart => exact ⟨0, Nat.zero_le _, by omega, rfl, G1.out, World.ownsRow_nil _ _ _ _⟩
    case round =>
      obtain ⟨kk, hkk, hgg, rfl, G, O⟩ := hrel
      by_cases hlt : kk < m
      · have hltz : (kk : Int) < (m : Int) := by omega
        obtain ⟨cc, hcc⟩ : ∃ x, cs[kk]? = some x := ⟨_, List.getElem?_eq_getElem (by rw [HM.out]; exact hlt)⟩
        rcases CS.out with h0 | ⟨b, off, ⟨c', hv⟩, hb, hU⟩
        · rw [HM.out] at h0; omega
        rw [HM.out] at hv
        simp only [Value.slice.injEq] at hv
        obtain ⟨rfl, -, rfl⟩ := hv
        have cat := (hU kk cc hcc).gr G.out
        have l0 := cat 0 _ rfl
        have l1 := cat 1 _ rfl
        have l2 := cat 2 _ rfl
        have l3 := cat 3 _ rfl
        have l4 := cat 4 _ rfl
        have l5 := cat 5 _ rfl
        simp only [Nat.add_zero] at l0
        have hbr := block_lt_of_cell l0
        have SN0 := news_snoc hcc
        obtain ⟨XS, hXS⟩ : ∃ XS, (((cs.take kk).map Al.new).map encU).flatten = XS := ⟨_, rfl⟩
        rw [hXS] at SN0 O
        have SN := Lib.hid SN0
        clear hU hb hcc cat hXS SN0
        go_wp2_with (at_builtin; refine wpList_append_own _ rfl _ _ 22 rfl w.heap.size 39 i0 (.agg #[.int .i64 0, .int .i64 0, .int .i64 0, .bool false, .int .i64 0, .int .i64 0, .int .i64 0, .int .i64 0, .int .i64 0]) 9 72 Try.underlying22 hi hz0 hz1 hz2 rfl (by decide) _ _ _ rfl (O.out.alloc _) ⟨wr.heap.size, 0, none⟩ 1 1 [.int .i64 cc.s, .int .i64 cc.o, .int .i64 cc.k, .bool cc.b, .int .i64 cc.p, .int .i64 cc.f, .int .i64 0, .int .i64 0, .int .i64 0] rfl rfl ?qa1 ?qa2 ?qa3 ?qa4 ?qa5 ?_)
        case qa2 => simp [Value.oneCell']
        case qa3 => unfold maxLen; omega
        case qa4 => omega
        case qa5 => have := G.out.size; simp; omega
        intro v' w' hown' hgrow _
        have HO := Lib.hid hown'
        clear hown'
        go_wp2_with fail
        go_roundg (m - (kk + 1))
        case measure => omega
        case rel => exact ⟨kk + 1, by omega, by omega, by go_num, (G.out.alloc _).append hgrow (fun k hk => (O.out.lt k hk).1), (show World.ownsRow _ _ _ _ _ _ _ by rw [SN.out]; exact HO.out)⟩
      · have hltz : ¬ (kk : Int) < (m : Int) := by omega
        have hkm : kk = m := by omega
        subst hkm
        have ON : Aside (wr.ownsRow w.heap.size 39 9 u6 kk (((cs.map Al.new).map encU).flatten)) := by
          have := O.out
          rwa [List.take_of_length_le (by rw [HM.out]; exact Nat.le_refl _)] at this
        have RN := owns_rows encU_len ON.out (by rw [List.length_map]; exact HM.out)
        have C2 := fun W g => rcheck_any u6 (cs.map Al.new) W (RN.gr (w := W) g) (by rw [List.length_map, HM.out]; omega)
        obtain ⟨N6, C6, e6⟩ := owns_slice ON.out
        rcases Al.chk_cases (cs.map Al.new) with hn | hn
        · rw [hn] at C2
          have J := Lib.hid (Al.joi_ok HC.out hn)
          have M64 : kk ≤ 64 := by have := (Al.chk_inv hn).1; rw [List.length_map, HM.out] at this; exact this
          have C2' := Lib.hid C2
          clear hn C2 RN CS hgg hkk hltz
          subst e6
          go_wp2_with fail
          refine (C2'.out _ (Gr.refl _)).mono ?_
          rintro e w2 ⟨rfl, g2⟩
          have G2 : Aside (Gr w w2) := G.out.trans g2
          have O2 : Aside (w2.ownsRow w.heap.size 39 9 (.slice N6 kk C6) kk (((Al.jl l cs 0).map encU).flatten)) := by
            have := owns_gr ON.out g2
            rwa [Al.jl_zero]
          clear g2 C2' ON O G
          go_wp2_with fail
          go_loopg [9, 10] kk (fun gg s9 _ wr => ∃ jj : Nat, jj ≤ kk ∧ kk - jj ≤ gg ∧ s9 = .int .i64 (jj : Int) ∧ Aside (Gr w wr) ∧ Aside (wr.ownsRow w.heap.size 39 9 (.slice N6 kk C6) kk (((Al.jl l cs jj).map encU).flatten)))
          case atStart => exact ⟨0, Nat.zero_le _, by omega, rfl, G2.out, O2.out⟩
          case round =>
            obtain ⟨jj, hjj, hgj, rfl, G, O⟩ := hrel
            obtain ⟨wo, rfl⟩ : ∃ wo : World, wo = wr := ⟨_, rfl⟩
            by_cases hlt : jj < kk
            · have hltz : (jj : Int) < (kk : Int) := by omega
              obtain ⟨cc, hcc⟩ : ∃ x, cs[jj]? = some x := ⟨_, List.getElem?_eq_getElem (by rw [HM.out]; exact hlt)⟩
              obtain ⟨g, rfl, hgw⟩ : ∃ g, N6 = some ⟨g, 0, none⟩ ∧ w.heap.size ≤ g := by
                rcases O.out.2 with ⟨_, hz⟩ | ⟨g, cap, cur, hv, hgb, _⟩
                · omega
                · simp only [Value.slice.injEq] at hv
                  exact ⟨g, hv.1, hgb⟩
              have HJ := Lib.hid (Al.jl_at (l := l) hcc)
              have JE : Hid ((Al.jl l cs jj).set jj (sofar l cc l.length) = Al.jl l cs (jj + 1)) := (show _ = _ by rw [sofar_end]; exact Al.jl_set hcc)
              have O0 : Aside (wo.ownsRow w.heap.size 39 9 (.slice (some ⟨g, 0, none⟩) kk C6) kk ((((Al.jl l cs jj).set jj (sofar l cc 0)).map encU).flatten)) := by
                show World.ownsRow _ _ _ _ _ _ _
                rw [sofar_zero, set_id HJ.out]; exact O.out
              generalize Al.jl l cs jj = JL at HJ JE O0
              generalize hJN : Al.jl l cs (jj + 1) = JN at JE
              have HJN := Lib.hid hJN
              have JE' := JE.out
              rw [HN.out] at JE'
              have JE2 := Lib.hid JE'
              have eqn := fun W (a b : Cl) => eql_cl W a b
              clear O hcc JE JE' hJN
              go_wp2_with fail
              go_loopg [10] n (fun gg s10 wr => ∃ ii : Nat, ii ≤ n ∧ n - ii ≤ gg ∧ s10 = .int .i64 (ii : Int) ∧ Aside (Gr w wr) ∧ Aside (wr.ownsRow w.heap.size 39 9 (.slice (some ⟨g, 0, none⟩) kk C6) kk (((JL.set jj (sofar l cc ii)).map encU).flatten)))
              case atStart => exact ⟨0, Nat.zero_le _, by omega, rfl, G.out, O0.out⟩
              case round =>
                obtain ⟨ii, hii, hgi, rfl, G, O⟩ := hrel
                by_cases hlt : ii < n
                · have hltw : (ii : Int) < (n : Int) := by omega
                  obtain ⟨x, hx⟩ : ∃ x, l[ii]? = some x := ⟨_, List.getElem?_eq_getElem (by rw [HN.out]; exact hlt)⟩
                  rcases US.out with h0 | ⟨b, off, ⟨c', hv⟩, hb, hU⟩
                  · rw [HN.out] at h0; omega
                  simp only [Value.slice.injEq] at hv
                  obtain ⟨rfl, -, rfl⟩ := hv
                  have v0 := ((hU ii x hx).gr G.out) 0 _ rfl; have v1 := ((hU ii x hx).gr G.out) 1 _ rfl; have v2 := ((hU ii x hx).gr G.out) 2 _ rfl; have v3 := ((hU ii x hx).gr G.out) 3 _ rfl; have v4 := ((hU ii x hx).gr G.out) 4 _ rfl; have v5 := ((hU ii x hx).gr G.out) 5 _ rfl; have v6 := ((hU ii x hx).gr G.out) 6 _ rfl; have v7 := ((hU ii x hx).gr G.out) 7 _ rfl; have v8 := ((hU ii x hx).gr G.out) 8 _ rfl; (try simp only [Nat.add_zero] at v0); (try simp only [Nat.zero_add] at v0 v1 v2 v3 v4 v5 v6 v7 v8)
                  obtain ⟨uu, huu⟩ : ∃ uu, sofar l cc ii = uu := ⟨_, rfl⟩
                  have huc : uu.c = cc := by rw [← huu]; exact sofar_c l cc ii HC.out
                  rw [huu] at O
                  have HUA := Lib.hid (set_at uu HJ.out)
                  have q0 := owns_cell encU_len O.out HUA.out (j := 0) rfl
                  have q1 := owns_cell encU_len O.out HUA.out (j := 1) rfl
                  have q2 := owns_cell encU_len O.out HUA.out (j := 2) rfl
                  have q3 := owns_cell encU_len O.out HUA.out (j := 3) rfl
                  have q4 := owns_cell encU_len O.out HUA.out (j := 4) rfl
                  have q5 := owns_cell encU_len O.out HUA.out (j := 5) rfl
                  have q6 := owns_cell encU_len O.out HUA.out (j := 6) rfl
                  have q7 := owns_cell encU_len O.out HUA.out (j := 7) rfl
                  have q8 := owns_cell encU_len O.out HUA.out (j := 8) rfl
                  simp only [Nat.add_zero] at q0
                  have fz := fun j => O.out.frozenAt j
                  by_cases he : x.c = uu.c
                  · have de : decide (x.c = uu.c) = true := bt he
                    have SH := Lib.hid (sofar_hit HC.out hx (he.trans huc))
                    clear hU hb hx huu huc he
                    go_wp2_with fail
                    go_quiet (fail)
                    have GD : Aside (Gr w (wr.drewN nq)) := G.out.drewN _
                    have P9 := owns_put9 (owns_gr O.out (Gr.drewN (Gr.refl _) nq)) HUA.out x
                    rw [List.set_set] at P9
                    have P10 := Lib.hid P9
                    clear P9
                    go_wp2_with fail
                    go_roundg (n - (ii + 1))
                    case measure => omega
                    case rel => exact ⟨ii + 1, by omega, by omega, by go_num, (show Gr _ _ by (repeat (first | (with_reducible exact (GD).out) | (with_reducible refine Gr.alloc ?_ _) | ((with_reducible refine Gr.setCell ?_ ?_ _); rotate_left; exact hgw)))), (show World.ownsRow _ _ _ _ _ _ _ by rw [SH.out]; exact P10.out)⟩
                  · have de : decide (x.c = uu.c) = false := bf he
                    have SM : Hid (sofar l cc (ii + 1) = uu) := (show _ = _ by rw [sofar_miss hx (fun q => he (q.trans huc.symm)), huu])
                    clear hU hb hx huu huc he
                    go_wp2_with fail
                    go_quiet (fail)
                    go_wp2_with fail
                    go_roundg (n - (ii + 1))
                    case measure => omega
                    case rel => exact ⟨ii + 1, by omega, by omega, by go_num, (G.out.drewN _), (show World.ownsRow _ _ _ _ _ _ _ by rw [SM.out]; exact owns_gr O.out (Gr.drewN (Gr.refl _) _))⟩
                · have hltw : ¬ (ii : Int) < (n : Int) := by omega
                  have hin : ii = n := by omega
                  subst hin
                  go_wp2_with fail
                  go_roundg (kk - (jj + 1))
                  case measure => omega
                  case rel => exact ⟨jj + 1, by omega, by omega, by go_num, G.out, (show World.ownsRow _ _ _ _ _ _ _ by rw [HJN.out, ← JE2.out]; exact O.out)⟩
            · have hltz : ¬ (jj : Int) < (kk : Int) := by omega
              have JA := Lib.hid (Al.jl_all (l := l) (cs := cs) (kk := jj) (by rw [HM.out]; omega))
              go_wp2_with fail
              go_ret2
              exact ⟨.slice N6 kk C6, ret_vi rfl J.out.1.symm, by rw [J.out.2, ← JA.out]; exact owns_rows encU_len O.out (by rw [Al.jl_len]; exact HM.out), G.out⟩
        · have hn' : ¬ Al.chk (cs.map Al.new) = 0 := by simpa using hn
          have J := Lib.hid (Al.joi_bad HC.out hn')
          obtain ⟨E, hE⟩ : ∃ E, Al.chk (cs.map Al.new) = E := ⟨_, rfl⟩
          rw [hE] at C2 hn J
          have C2' := Lib.hid C2
          clear C2 RN CS hgg hkk hltz hn' hE
          subst e6
          go_wp2_with fail
          refine (C2'.out _ (Gr.refl _)).mono ?_
          rintro e w2 ⟨rfl, g2⟩
          have G2 : Aside (Gr w w2) := G.out.trans g2
          clear g2 C2'
          go_wp2_with fail
          go_ret2
          exact ⟨.slice none 0 0, ret_vi rfl J.out.1.symm, by rw [J.out.2]; exact Rows.nil _ _, G2.out⟩
  · have RCHK := Lib.hid (Al.joi_chk (l := l) (cs := cs) (by simpa using hc))
    have C1' := Lib.hid C1
    clear C1 HR h h1
    go_enter Try.func26, Try.ntmps26
    go_wp2_with fail
    refine (C1'.out _ (Gr.refl _)).mono ?_
    rintro e w1 ⟨rfl, g1⟩
    have G1 : Aside (Gr w w1) := g1
    clear g1
    go_wp2_with fail
    go_ret2
    exact ⟨.slice none 0 0, ret_vi rfl RCHK.out.1.symm, by rw [RCHK.out.2]; exact Rows.nil _ _, G1.out⟩
end Go.Proofs.Ytkhanjhjcfhhiaa
