/- The contract of the reference's Pass. -/
import Derived.Test.YtkhanjhjcfhhiaaAlcF
import Derived.Test.YtkhanjhjcfhhiaaAlcP9
import Derived.Test.YtkhanjhjcfhhiaaR29A
import Derived.OneCell
namespace Go.Proofs.Ytkhanjhjcfhhiaa
open Go.RowKit Go.Sort
set_option linter.unusedVariables false

set_option maxHeartbeats 4000000 in
set_option maxRecDepth 100000 in
theorem rpass_any (v : Value) (l : List Us) (s : Int) (u wk : Bool) (w : World) (h : Rows 9 encU w v l) (hbig : (l.length : Int) ≤ 4611686018427387904) :
    Calls Try.prog 29 #[v, .int .i64 s, .bool u, .bool wk] w (UsPost (Al.pasE l s u wk) (Al.pasL l s u wk) w) := by
  obtain ⟨i0, hi, hz0, hz1, hz2⟩ := info_parts infoCloneU
  have C1 := fun W g => rcheck_any v l W (h.gr (w := W) g) hbig
  have HR := Lib.hid h
  have US : Aside (USl w v l) := h.usl
  have N1 : ∃ A c, v = .slice A l.length c := h.slice
  obtain ⟨A, c, rfl⟩ := N1
  obtain ⟨n, hn⟩ : ∃ n, l.length = n := ⟨_, rfl⟩
  have HN := Lib.hid hn
  rw [hn] at C1 US HR hbig ⊢
  rcases Al.chk_cases l with hc | hc
  · have HC := Lib.hid hc
    have HL : Hid (n ≤ 64) := (show _ ≤ _ by rw [← hn]; exact (Al.chk_inv hc).1)
    rw [hc] at C1
    have C1' := Lib.hid C1
    rcases pas_cases l s with ⟨ha, hix⟩ | ⟨k, x, hx, hs, ha, hix⟩
    · have R := Lib.hid (Al.pas_not (u := u) (w := wk) hc ha)
      have HAA := Lib.hid ha
      clear hc ha hix C1 h hn
      go_enter Try.func29, Try.ntmps29
      go_wp2_with fail
      refine (C1'.out _ (Gr.refl _)).mono ?_
      rintro e w1 ⟨rfl, g1⟩
      have G1 : Aside (Gr w w1) := g1
      clear g1
      go_wp2_with fail
      go_loopg [10, 11] n (fun gg s10 s11 wr => ∃ kk : Nat, kk ≤ n ∧ n - kk ≤ gg ∧ s11 = .int .i64 (kk : Int) ∧ s10 = .int .i64 (-1) ∧ wr = w1)
      case atStart => exact ⟨0, Nat.zero_le _, by omega, rfl, rfl, rfl⟩
      case round =>
        obtain ⟨kk, hkk, hgg, rfl, rfl, rfl⟩ := hrel
        by_cases hlt : kk < n
        · have hltz : (kk : Int) < (n : Int) := by omega
          obtain ⟨y, hy⟩ : ∃ y, l[kk]? = some y := ⟨_, List.getElem?_eq_getElem (by rw [HN.out]; exact hlt)⟩
          rcases US.out with h0 | ⟨b, off, ⟨c', hv⟩, hb, hU⟩
          · rw [HN.out] at h0; omega
          rw [HN.out] at hv
          simp only [Value.slice.injEq] at hv
          obtain ⟨rfl, -, rfl⟩ := hv
          have U0 := ((hU kk y hy).gr G1.out) 0 _ rfl
          simp only [Nat.add_zero] at U0
          have hq : (y.c.s == s) = false := by
            have := List.any_eq_false.1 HAA.out y (List.mem_of_getElem? hy)
            unfold Al.atSlot at this
            simpa using this
          clear hU hy hb
          go_wp2_with fail
          go_roundg (n - (kk + 1))
          case measure => omega
          case rel => exact ⟨kk + 1, by omega, by omega, by go_num, rfl, rfl⟩
        · have hltz : ¬ (kk : Int) < (n : Int) := by omega
          go_wp2_with fail
          go_ret2
          exact ⟨.slice none 0 0, ret_vi rfl R.out.1.symm, by rw [R.out.2]; exact Rows.nil _ _, G1.out⟩
    · have hk : k < n := by rw [← hn]; exact (List.getElem?_eq_some_iff.1 hx).1
      have HX0 : l[k]? = some x := hx
      have HS := Lib.hid hs
      rcases US.out with h0 | ⟨b, off, ⟨c', hv⟩, hb, hU⟩
      · rw [hn] at h0; omega
      rw [hn] at hv
      simp only [Value.slice.injEq] at hv
      obtain ⟨rfl, -, rfl⟩ := hv
      have i1 : decide ((k : Int) < 0) = false := bf (by omega)
      have i2 : (k : Int) < (n : Int) := by omega
      have HKN : Hid (k < l.length) := (show _ < _ by rw [hn]; exact hk)
      by_cases hst : (wk && !u) = true
      · have R := Lib.hid (Al.pas_state hc ha hst)
        have HX := Lib.hid hx
        simp only [Bool.and_eq_true, Bool.not_eq_true'] at hst
        obtain ⟨rfl, rfl⟩ := hst
        clear hc ha hix C1 hx hs US HX0 hn h
        go_enter Try.func29, Try.ntmps29
        go_wp2_with fail
        refine (C1'.out _ (Gr.refl _)).mono ?_
        rintro e w1 ⟨rfl, g1⟩
        have G1 : Aside (Gr w w1) := g1
        clear g1
        go_wp2_with fail
        go_loopg [10, 11] n (fun gg s10 s11 wr => ∃ kk : Nat, ∃ a : Int, kk ≤ n ∧ n - kk ≤ gg ∧ s11 = .int .i64 (kk : Int) ∧ s10 = .int .i64 a ∧ Aside (a = if k < kk then (k : Int) else -1) ∧ wr = w1)
        case atStart => exact ⟨0, -1, Nat.zero_le _, by omega, rfl, rfl, (show (-1 : Int) = if k < 0 then (k : Int) else -1 from rfl), rfl⟩
        case round =>
          obtain ⟨kk, a, hkk, hgg, rfl, rfl, HA, rfl⟩ := hrel
          by_cases hlt : kk < n
          · have hltz : (kk : Int) < (n : Int) := by omega
            obtain ⟨y, hy⟩ : ∃ y, l[kk]? = some y := ⟨_, List.getElem?_eq_getElem (by rw [HN.out]; exact hlt)⟩
            have U0 := ((hU kk y hy).gr G1.out) 0 _ rfl
            simp only [Nat.add_zero] at U0
            by_cases hkq : kk = k
            · subst hkq
              have hq : (y.c.s == s) = true := by
                rw [HX.out] at hy
                cases hy
                simpa using HS.out
              clear hU hy
              go_wp2_with fail
              go_roundg (n - (kk + 1))
              case measure => omega
              case rel => exact ⟨kk + 1, (kk : Int), by omega, by omega, by go_num, by go_num, (show (kk : Int) = if kk < kk + 1 then (kk : Int) else -1 by rw [if_pos (by omega)]), rfl⟩
            · have hq : (y.c.s == s) = false := by
                simp only [beq_eq_false_iff_ne, ne_eq]
                intro e
                exact hkq (Al.chk_inj HC.out hy HX.out (e.trans HS.out.symm))
              have HKQ := Lib.hid hkq
              clear hU hy hkq
              go_wp2_with fail
              go_roundg (n - (kk + 1))
              case measure => omega
              case rel => exact ⟨kk + 1, a, by omega, by omega, by go_num, rfl, (show a = if k < kk + 1 then (k : Int) else -1 by have := HKQ.out; rw [HA.out]; split <;> split <;> omega), rfl⟩
          · have hltz : ¬ (kk : Int) < (n : Int) := by omega
            have ha : a = (k : Int) := by rw [HA.out, if_pos (by omega)]
            subst ha
            clear hU
            go_wp2_with fail
            go_ret2
            exact ⟨.slice none 0 0, ret_vi rfl R.out.1.symm, by rw [R.out.2]; exact Rows.nil _ _, G1.out⟩
      · have hst' : (wk && !u) = false := by simpa using hst
        have R := Lib.hid (Al.pas_ok hc hx hs hst')
        have nm := Al.chk_num hc hx
        obtain ⟨cc, pa, us, wo⟩ := x
        have HX := Lib.hid hx
        unfold Al.okN at nm
        dsimp only at nm hs
        obtain ⟨-, -, ⟨n1, n2⟩, ⟨n3, n4⟩, ⟨n5, n6⟩⟩ := nm
        have n4' : us ≤ 64 := by omega
        have n6' : wo ≤ 64 := by omega
        clear hc ha hix C1 hx hs n4 n6 hst HX0 US hn h
        by_cases h64 : pa = 64
        · subst h64
          cases u <;> cases wk
          · clear hst'
            have BU : Hid (Al.bump ⟨cc, 64, us, wo⟩ false false = ⟨cc, 33, us / 2, wo / 2⟩) := (show _ = _ by unfold Al.bump; simp)
            have R' : Hid (Al.pasE l s false false = 0 ∧ Al.pasL l s false false = l.set k ⟨cc, 33, us / 2, wo / 2⟩) := (show _ ∧ _ from ⟨R.out.1, by rw [R.out.2, BU.out]⟩)
            clear R BU
            go_enter Try.func29, Try.ntmps29
            go_wp2_with fail
            refine (C1'.out _ (Gr.refl _)).mono ?_
            rintro e w1 ⟨rfl, g1⟩
            have G1 : Aside (Gr w w1) := g1
            clear g1
            go_wp2_with fail
            go_loopg [10, 11] n (fun gg s10 s11 wr => ∃ kk : Nat, ∃ a : Int, kk ≤ n ∧ n - kk ≤ gg ∧ s11 = .int .i64 (kk : Int) ∧ s10 = .int .i64 a ∧ Aside (a = if k < kk then (k : Int) else -1) ∧ wr = w1)
            case atStart => exact ⟨0, -1, Nat.zero_le _, by omega, rfl, rfl, (show (-1 : Int) = if k < 0 then (k : Int) else -1 from rfl), rfl⟩
            case round =>
              obtain ⟨kk, a, hkk, hgg, rfl, rfl, HA, rfl⟩ := hrel
              by_cases hlt : kk < n
              · have hltz : (kk : Int) < (n : Int) := by omega
                obtain ⟨y, hy⟩ : ∃ y, l[kk]? = some y := ⟨_, List.getElem?_eq_getElem (by rw [HN.out]; exact hlt)⟩
                have U0 := ((hU kk y hy).gr G1.out) 0 _ rfl
                simp only [Nat.add_zero] at U0
                by_cases hkq : kk = k
                · subst hkq
                  have hq : (y.c.s == s) = true := by
                    rw [HX.out] at hy
                    cases hy
                    simpa using HS.out
                  clear hU hy
                  go_wp2_with fail
                  go_roundg (n - (kk + 1))
                  case measure => omega
                  case rel => exact ⟨kk + 1, (kk : Int), by omega, by omega, by go_num, by go_num, (show (kk : Int) = if kk < kk + 1 then (kk : Int) else -1 by rw [if_pos (by omega)]), rfl⟩
                · have hq : (y.c.s == s) = false := by
                    simp only [beq_eq_false_iff_ne, ne_eq]
                    intro e
                    exact hkq (Al.chk_inj HC.out hy HX.out (e.trans HS.out.symm))
                  have HKQ := Lib.hid hkq
                  clear hU hy hkq
                  go_wp2_with fail
                  go_roundg (n - (kk + 1))
                  case measure => omega
                  case rel => exact ⟨kk + 1, a, by omega, by omega, by go_num, rfl, (show a = if k < kk + 1 then (k : Int) else -1 by have := HKQ.out; rw [HA.out]; split <;> split <;> omega), rfl⟩
              · have hltz : ¬ (kk : Int) < (n : Int) := by omega
                have ha : a = (k : Int) := by rw [HA.out, if_pos (by omega)]
                subst ha
                clear hU
                have hq1 : 0 + l.length ≤ maxLen := by have := HL.out; rw [HN.out]; unfold maxLen; omega
                have hq2 : (0 + l.length) * 72 ≤ 140737488355328 := by have := HL.out; rw [HN.out]; omega
                have G2 := Gr.alloc G1.out (Obj.cells #[] 39)
                go_wp2_with (at_builtin; refine wpList_append_rows rfl _ _ 22 rfl w.heap.size 39 i0 (.agg #[.int .i64 0, .int .i64 0, .int .i64 0, .bool false, .int .i64 0, .int .i64 0, .int .i64 0, .int .i64 0, .int .i64 0]) 72 Try.underlying22 hi hz0 hz1 hz2 rfl (by decide) encU_len (by simp [encU, Value.oneCell']) _ 0 [] rfl (World.ownsRow_lit wr #[] 0 (G1.out.size) (by simp [maxLen]) rfl) l _ rfl (HR.out.gr G2) hq1 hq2 G2.size ?_)
                intro v' w3 hown' hgrow _
                clear hq1 hq2
                have O3 : Hid (w3.ownsRow w.heap.size 39 9 v' l.length ((l.map encU).flatten)) := (show World.ownsRow _ _ _ _ _ _ _ by simpa using hown')
                have G3 : Aside (Gr w w3) := G2.append hgrow (fun k hk => by simp [Value.ownBlock] at hk; have := G1.out.size; omega)
                clear hown' hgrow G2
                rcases O3.out.2 with ⟨_, hz⟩ | ⟨g, cap, cur, rfl, hgb, hgs, _⟩
                · rw [HN.out] at hz; omega
                have hgw : w.heap.size ≤ g := hgb
                have HG : Aside (g < w3.heap.size) := by
                  by_cases q : g < w3.heap.size
                  · exact q
                  · rw [Array.getElem?_eq_none (by omega)] at hgs; cases hgs
                clear hgb hgs
                have O3' := O3.out
                rw [HN.out] at O3'
                have O3n := Lib.hid O3'
                clear O3 O3'
                have u0 := owns_cell encU_len O3n.out HX.out (j := 0) rfl
                have u1 := owns_cell encU_len O3n.out HX.out (j := 1) rfl
                have u2 := owns_cell encU_len O3n.out HX.out (j := 2) rfl
                have u3 := owns_cell encU_len O3n.out HX.out (j := 3) rfl
                have u4 := owns_cell encU_len O3n.out HX.out (j := 4) rfl
                have u5 := owns_cell encU_len O3n.out HX.out (j := 5) rfl
                have u6 := owns_cell encU_len O3n.out HX.out (j := 6) rfl
                have u7 := owns_cell encU_len O3n.out HX.out (j := 7) rfl
                have u8 := owns_cell encU_len O3n.out HX.out (j := 8) rfl
                have fz := fun j => O3n.out.frozenAt j
                dsimp only at u0 u1 u2 u3 u4 u5 u6 u7 u8
                simp only [Nat.add_zero] at u0
                have hg := HG.out
                have hkl := HKN.out
                go_wp2_with fail
                go_ret2
                have O3l : World.ownsRow w3 w.heap.size 39 9 (.slice (some ⟨g, 0, none⟩) l.length cap) l.length ((l.map encU).flatten) := by rw [HN.out]; exact O3n.out
                refine ⟨.slice (some ⟨g, 0, none⟩) l.length cap, ret_vi rfl R'.out.1.symm, ?_, ?_⟩
                · have P := owns_put9 O3l HX.out ⟨cc, 33, us / 2, wo / 2⟩
                  dsimp only at P
                  rw [R'.out.2]; exact (owns_rows encU_len P (by rw [List.length_set])).gr (Gr.alloc (Gr.refl _) _)
                · (repeat (first | (with_reducible exact (G3).out) | (with_reducible refine Gr.alloc ?_ _) | ((with_reducible refine Gr.setCell ?_ ?_ _); rotate_left; exact hgw)))
          · exact absurd hst' (by decide)
          · clear hst'
            have BU : Hid (Al.bump ⟨cc, 64, us, wo⟩ true false = ⟨cc, 33, us / 2 + 1, wo / 2⟩) := (show _ = _ by unfold Al.bump; simp)
            have R' : Hid (Al.pasE l s true false = 0 ∧ Al.pasL l s true false = l.set k ⟨cc, 33, us / 2 + 1, wo / 2⟩) := (show _ ∧ _ from ⟨R.out.1, by rw [R.out.2, BU.out]⟩)
            clear R BU
            go_enter Try.func29, Try.ntmps29
            go_wp2_with fail
            refine (C1'.out _ (Gr.refl _)).mono ?_
            rintro e w1 ⟨rfl, g1⟩
            have G1 : Aside (Gr w w1) := g1
            clear g1
            go_wp2_with fail
            go_loopg [10, 11] n (fun gg s10 s11 wr => ∃ kk : Nat, ∃ a : Int, kk ≤ n ∧ n - kk ≤ gg ∧ s11 = .int .i64 (kk : Int) ∧ s10 = .int .i64 a ∧ Aside (a = if k < kk then (k : Int) else -1) ∧ wr = w1)
            case atStart => exact ⟨0, -1, Nat.zero_le _, by omega, rfl, rfl, (show (-1 : Int) = if k < 0 then (k : Int) else -1 from rfl), rfl⟩
            case round =>
              obtain ⟨kk, a, hkk, hgg, rfl, rfl, HA, rfl⟩ := hrel
              by_cases hlt : kk < n
              · have hltz : (kk : Int) < (n : Int) := by omega
                obtain ⟨y, hy⟩ : ∃ y, l[kk]? = some y := ⟨_, List.getElem?_eq_getElem (by rw [HN.out]; exact hlt)⟩
                have U0 := ((hU kk y hy).gr G1.out) 0 _ rfl
                simp only [Nat.add_zero] at U0
                by_cases hkq : kk = k
                · subst hkq
                  have hq : (y.c.s == s) = true := by
                    rw [HX.out] at hy
                    cases hy
                    simpa using HS.out
                  clear hU hy
                  go_wp2_with fail
                  go_roundg (n - (kk + 1))
                  case measure => omega
                  case rel => exact ⟨kk + 1, (kk : Int), by omega, by omega, by go_num, by go_num, (show (kk : Int) = if kk < kk + 1 then (kk : Int) else -1 by rw [if_pos (by omega)]), rfl⟩
                · have hq : (y.c.s == s) = false := by
                    simp only [beq_eq_false_iff_ne, ne_eq]
                    intro e
                    exact hkq (Al.chk_inj HC.out hy HX.out (e.trans HS.out.symm))
                  have HKQ := Lib.hid hkq
                  clear hU hy hkq
                  go_wp2_with fail
                  go_roundg (n - (kk + 1))
                  case measure => omega
                  case rel => exact ⟨kk + 1, a, by omega, by omega, by go_num, rfl, (show a = if k < kk + 1 then (k : Int) else -1 by have := HKQ.out; rw [HA.out]; split <;> split <;> omega), rfl⟩
              · have hltz : ¬ (kk : Int) < (n : Int) := by omega
                have ha : a = (k : Int) := by rw [HA.out, if_pos (by omega)]
                subst ha
                clear hU
                have hq1 : 0 + l.length ≤ maxLen := by have := HL.out; rw [HN.out]; unfold maxLen; omega
                have hq2 : (0 + l.length) * 72 ≤ 140737488355328 := by have := HL.out; rw [HN.out]; omega
                have G2 := Gr.alloc G1.out (Obj.cells #[] 39)
                go_wp2_with (at_builtin; refine wpList_append_rows rfl _ _ 22 rfl w.heap.size 39 i0 (.agg #[.int .i64 0, .int .i64 0, .int .i64 0, .bool false, .int .i64 0, .int .i64 0, .int .i64 0, .int .i64 0, .int .i64 0]) 72 Try.underlying22 hi hz0 hz1 hz2 rfl (by decide) encU_len (by simp [encU, Value.oneCell']) _ 0 [] rfl (World.ownsRow_lit wr #[] 0 (G1.out.size) (by simp [maxLen]) rfl) l _ rfl (HR.out.gr G2) hq1 hq2 G2.size ?_)
                intro v' w3 hown' hgrow _
                clear hq1 hq2
                have O3 : Hid (w3.ownsRow w.heap.size 39 9 v' l.length ((l.map encU).flatten)) := (show World.ownsRow _ _ _ _ _ _ _ by simpa using hown')
                have G3 : Aside (Gr w w3) := G2.append hgrow (fun k hk => by simp [Value.ownBlock] at hk; have := G1.out.size; omega)
                clear hown' hgrow G2
                rcases O3.out.2 with ⟨_, hz⟩ | ⟨g, cap, cur, rfl, hgb, hgs, _⟩
                · rw [HN.out] at hz; omega
                have hgw : w.heap.size ≤ g := hgb
                have HG : Aside (g < w3.heap.size) := by
                  by_cases q : g < w3.heap.size
                  · exact q
                  · rw [Array.getElem?_eq_none (by omega)] at hgs; cases hgs
                clear hgb hgs
                have O3' := O3.out
                rw [HN.out] at O3'
                have O3n := Lib.hid O3'
                clear O3 O3'
                have u0 := owns_cell encU_len O3n.out HX.out (j := 0) rfl
                have u1 := owns_cell encU_len O3n.out HX.out (j := 1) rfl
                have u2 := owns_cell encU_len O3n.out HX.out (j := 2) rfl
                have u3 := owns_cell encU_len O3n.out HX.out (j := 3) rfl
                have u4 := owns_cell encU_len O3n.out HX.out (j := 4) rfl
                have u5 := owns_cell encU_len O3n.out HX.out (j := 5) rfl
                have u6 := owns_cell encU_len O3n.out HX.out (j := 6) rfl
                have u7 := owns_cell encU_len O3n.out HX.out (j := 7) rfl
                have u8 := owns_cell encU_len O3n.out HX.out (j := 8) rfl
                have fz := fun j => O3n.out.frozenAt j
                dsimp only at u0 u1 u2 u3 u4 u5 u6 u7 u8
                simp only [Nat.add_zero] at u0
                have hg := HG.out
                have hkl := HKN.out
                go_wp2_with fail
                go_ret2
                have O3l : World.ownsRow w3 w.heap.size 39 9 (.slice (some ⟨g, 0, none⟩) l.length cap) l.length ((l.map encU).flatten) := by rw [HN.out]; exact O3n.out
                refine ⟨.slice (some ⟨g, 0, none⟩) l.length cap, ret_vi rfl R'.out.1.symm, ?_, ?_⟩
                · have P := owns_put9 O3l HX.out ⟨cc, 33, us / 2 + 1, wo / 2⟩
                  dsimp only at P
                  rw [R'.out.2]; exact (owns_rows encU_len P (by rw [List.length_set])).gr (Gr.alloc (Gr.refl _) _)
                · (repeat (first | (with_reducible exact (G3).out) | (with_reducible refine Gr.alloc ?_ _) | ((with_reducible refine Gr.setCell ?_ ?_ _); rotate_left; exact hgw)))
          · clear hst'
            have BU : Hid (Al.bump ⟨cc, 64, us, wo⟩ true true = ⟨cc, 33, us / 2 + 1, wo / 2 + 1⟩) := (show _ = _ by unfold Al.bump; simp)
            have R' : Hid (Al.pasE l s true true = 0 ∧ Al.pasL l s true true = l.set k ⟨cc, 33, us / 2 + 1, wo / 2 + 1⟩) := (show _ ∧ _ from ⟨R.out.1, by rw [R.out.2, BU.out]⟩)
            clear R BU
            go_enter Try.func29, Try.ntmps29
            go_wp2_with fail
            refine (C1'.out _ (Gr.refl _)).mono ?_
            rintro e w1 ⟨rfl, g1⟩
            have G1 : Aside (Gr w w1) := g1
            clear g1
            go_wp2_with fail
            go_loopg [10, 11] n (fun gg s10 s11 wr => ∃ kk : Nat, ∃ a : Int, kk ≤ n ∧ n - kk ≤ gg ∧ s11 = .int .i64 (kk : Int) ∧ s10 = .int .i64 a ∧ Aside (a = if k < kk then (k : Int) else -1) ∧ wr = w1)
            case atStart => exact ⟨0, -1, Nat.zero_le _, by omega, rfl, rfl, (show (-1 : Int) = if k < 0 then (k : Int) else -1 from rfl), rfl⟩
            case round =>
              obtain ⟨kk, a, hkk, hgg, rfl, rfl, HA, rfl⟩ := hrel
              by_cases hlt : kk < n
              · have hltz : (kk : Int) < (n : Int) := by omega
                obtain ⟨y, hy⟩ : ∃ y, l[kk]? = some y := ⟨_, List.getElem?_eq_getElem (by rw [HN.out]; exact hlt)⟩
                have U0 := ((hU kk y hy).gr G1.out) 0 _ rfl
                simp only [Nat.add_zero] at U0
                by_cases hkq : kk = k
                · subst hkq
                  have hq : (y.c.s == s) = true := by
                    rw [HX.out] at hy
                    cases hy
                    simpa using HS.out
                  clear hU hy
                  go_wp2_with fail
                  go_roundg (n - (kk + 1))
                  case measure => omega
                  case rel => exact ⟨kk + 1, (kk : Int), by omega, by omega, by go_num, by go_num, (show (kk : Int) = if kk < kk + 1 then (kk : Int) else -1 by rw [if_pos (by omega)]), rfl⟩
                · have hq : (y.c.s == s) = false := by
                    simp only [beq_eq_false_iff_ne, ne_eq]
                    intro e
                    exact hkq (Al.chk_inj HC.out hy HX.out (e.trans HS.out.symm))
                  have HKQ := Lib.hid hkq
                  clear hU hy hkq
                  go_wp2_with fail
                  go_roundg (n - (kk + 1))
                  case measure => omega
                  case rel => exact ⟨kk + 1, a, by omega, by omega, by go_num, rfl, (show a = if k < kk + 1 then (k : Int) else -1 by have := HKQ.out; rw [HA.out]; split <;> split <;> omega), rfl⟩
              · have hltz : ¬ (kk : Int) < (n : Int) := by omega
                have ha : a = (k : Int) := by rw [HA.out, if_pos (by omega)]
                subst ha
                clear hU
                have hq1 : 0 + l.length ≤ maxLen := by have := HL.out; rw [HN.out]; unfold maxLen; omega
                have hq2 : (0 + l.length) * 72 ≤ 140737488355328 := by have := HL.out; rw [HN.out]; omega
                have G2 := Gr.alloc G1.out (Obj.cells #[] 39)
                go_wp2_with (at_builtin; refine wpList_append_rows rfl _ _ 22 rfl w.heap.size 39 i0 (.agg #[.int .i64 0, .int .i64 0, .int .i64 0, .bool false, .int .i64 0, .int .i64 0, .int .i64 0, .int .i64 0, .int .i64 0]) 72 Try.underlying22 hi hz0 hz1 hz2 rfl (by decide) encU_len (by simp [encU, Value.oneCell']) _ 0 [] rfl (World.ownsRow_lit wr #[] 0 (G1.out.size) (by simp [maxLen]) rfl) l _ rfl (HR.out.gr G2) hq1 hq2 G2.size ?_)
                intro v' w3 hown' hgrow _
                clear hq1 hq2
                have O3 : Hid (w3.ownsRow w.heap.size 39 9 v' l.length ((l.map encU).flatten)) := (show World.ownsRow _ _ _ _ _ _ _ by simpa using hown')
                have G3 : Aside (Gr w w3) := G2.append hgrow (fun k hk => by simp [Value.ownBlock] at hk; have := G1.out.size; omega)
                clear hown' hgrow G2
                rcases O3.out.2 with ⟨_, hz⟩ | ⟨g, cap, cur, rfl, hgb, hgs, _⟩
                · rw [HN.out] at hz; omega
                have hgw : w.heap.size ≤ g := hgb
                have HG : Aside (g < w3.heap.size) := by
                  by_cases q : g < w3.heap.size
                  · exact q
                  · rw [Array.getElem?_eq_none (by omega)] at hgs; cases hgs
                clear hgb hgs
                have O3' := O3.out
                rw [HN.out] at O3'
                have O3n := Lib.hid O3'
                clear O3 O3'
                have u0 := owns_cell encU_len O3n.out HX.out (j := 0) rfl
                have u1 := owns_cell encU_len O3n.out HX.out (j := 1) rfl
                have u2 := owns_cell encU_len O3n.out HX.out (j := 2) rfl
                have u3 := owns_cell encU_len O3n.out HX.out (j := 3) rfl
                have u4 := owns_cell encU_len O3n.out HX.out (j := 4) rfl
                have u5 := owns_cell encU_len O3n.out HX.out (j := 5) rfl
                have u6 := owns_cell encU_len O3n.out HX.out (j := 6) rfl
                have u7 := owns_cell encU_len O3n.out HX.out (j := 7) rfl
                have u8 := owns_cell encU_len O3n.out HX.out (j := 8) rfl
                have fz := fun j => O3n.out.frozenAt j
                dsimp only at u0 u1 u2 u3 u4 u5 u6 u7 u8
                simp only [Nat.add_zero] at u0
                have hg := HG.out
                have hkl := HKN.out
                go_wp2_with fail
                go_ret2
                have O3l : World.ownsRow w3 w.heap.size 39 9 (.slice (some ⟨g, 0, none⟩) l.length cap) l.length ((l.map encU).flatten) := by rw [HN.out]; exact O3n.out
                refine ⟨.slice (some ⟨g, 0, none⟩) l.length cap, ret_vi rfl R'.out.1.symm, ?_, ?_⟩
                · have P := owns_put9 O3l HX.out ⟨cc, 33, us / 2 + 1, wo / 2 + 1⟩
                  dsimp only at P
                  rw [R'.out.2]; exact (owns_rows encU_len P (by rw [List.length_set])).gr (Gr.alloc (Gr.refl _) _)
                · (repeat (first | (with_reducible exact (G3).out) | (with_reducible refine Gr.alloc ?_ _) | ((with_reducible refine Gr.setCell ?_ ?_ _); rotate_left; exact hgw)))
        · have q64 : (pa == 64) = false := by simpa using h64
          cases u <;> cases wk
          · clear hst'
            have BU : Hid (Al.bump ⟨cc, pa, us, wo⟩ false false = ⟨cc, pa + 1, us, wo⟩) := (show _ = _ by unfold Al.bump; simp [h64])
            have R' : Hid (Al.pasE l s false false = 0 ∧ Al.pasL l s false false = l.set k ⟨cc, pa + 1, us, wo⟩) := (show _ ∧ _ from ⟨R.out.1, by rw [R.out.2, BU.out]⟩)
            clear R BU h64
            go_enter Try.func29, Try.ntmps29
            go_wp2_with fail
            refine (C1'.out _ (Gr.refl _)).mono ?_
            rintro e w1 ⟨rfl, g1⟩
            have G1 : Aside (Gr w w1) := g1
            clear g1
            go_wp2_with fail
            go_loopg [10, 11] n (fun gg s10 s11 wr => ∃ kk : Nat, ∃ a : Int, kk ≤ n ∧ n - kk ≤ gg ∧ s11 = .int .i64 (kk : Int) ∧ s10 = .int .i64 a ∧ Aside (a = if k < kk then (k : Int) else -1) ∧ wr = w1)
            case atStart => exact ⟨0, -1, Nat.zero_le _, by omega, rfl, rfl, (show (-1 : Int) = if k < 0 then (k : Int) else -1 from rfl), rfl⟩
            case round =>
              obtain ⟨kk, a, hkk, hgg, rfl, rfl, HA, rfl⟩ := hrel
              by_cases hlt : kk < n
              · have hltz : (kk : Int) < (n : Int) := by omega
                obtain ⟨y, hy⟩ : ∃ y, l[kk]? = some y := ⟨_, List.getElem?_eq_getElem (by rw [HN.out]; exact hlt)⟩
                have U0 := ((hU kk y hy).gr G1.out) 0 _ rfl
                simp only [Nat.add_zero] at U0
                by_cases hkq : kk = k
                · subst hkq
                  have hq : (y.c.s == s) = true := by
                    rw [HX.out] at hy
                    cases hy
                    simpa using HS.out
                  clear hU hy
                  go_wp2_with fail
                  go_roundg (n - (kk + 1))
                  case measure => omega
                  case rel => exact ⟨kk + 1, (kk : Int), by omega, by omega, by go_num, by go_num, (show (kk : Int) = if kk < kk + 1 then (kk : Int) else -1 by rw [if_pos (by omega)]), rfl⟩
                · have hq : (y.c.s == s) = false := by
                    simp only [beq_eq_false_iff_ne, ne_eq]
                    intro e
                    exact hkq (Al.chk_inj HC.out hy HX.out (e.trans HS.out.symm))
                  have HKQ := Lib.hid hkq
                  clear hU hy hkq
                  go_wp2_with fail
                  go_roundg (n - (kk + 1))
                  case measure => omega
                  case rel => exact ⟨kk + 1, a, by omega, by omega, by go_num, rfl, (show a = if k < kk + 1 then (k : Int) else -1 by have := HKQ.out; rw [HA.out]; split <;> split <;> omega), rfl⟩
              · have hltz : ¬ (kk : Int) < (n : Int) := by omega
                have ha : a = (k : Int) := by rw [HA.out, if_pos (by omega)]
                subst ha
                clear hU
                have hq1 : 0 + l.length ≤ maxLen := by have := HL.out; rw [HN.out]; unfold maxLen; omega
                have hq2 : (0 + l.length) * 72 ≤ 140737488355328 := by have := HL.out; rw [HN.out]; omega
                have G2 := Gr.alloc G1.out (Obj.cells #[] 39)
                go_wp2_with (at_builtin; refine wpList_append_rows rfl _ _ 22 rfl w.heap.size 39 i0 (.agg #[.int .i64 0, .int .i64 0, .int .i64 0, .bool false, .int .i64 0, .int .i64 0, .int .i64 0, .int .i64 0, .int .i64 0]) 72 Try.underlying22 hi hz0 hz1 hz2 rfl (by decide) encU_len (by simp [encU, Value.oneCell']) _ 0 [] rfl (World.ownsRow_lit wr #[] 0 (G1.out.size) (by simp [maxLen]) rfl) l _ rfl (HR.out.gr G2) hq1 hq2 G2.size ?_)
                intro v' w3 hown' hgrow _
                clear hq1 hq2
                have O3 : Hid (w3.ownsRow w.heap.size 39 9 v' l.length ((l.map encU).flatten)) := (show World.ownsRow _ _ _ _ _ _ _ by simpa using hown')
                have G3 : Aside (Gr w w3) := G2.append hgrow (fun k hk => by simp [Value.ownBlock] at hk; have := G1.out.size; omega)
                clear hown' hgrow G2
                rcases O3.out.2 with ⟨_, hz⟩ | ⟨g, cap, cur, rfl, hgb, hgs, _⟩
                · rw [HN.out] at hz; omega
                have hgw : w.heap.size ≤ g := hgb
                have HG : Aside (g < w3.heap.size) := by
                  by_cases q : g < w3.heap.size
                  · exact q
                  · rw [Array.getElem?_eq_none (by omega)] at hgs; cases hgs
                clear hgb hgs
                have O3' := O3.out
                rw [HN.out] at O3'
                have O3n := Lib.hid O3'
                clear O3 O3'
                have u0 := owns_cell encU_len O3n.out HX.out (j := 0) rfl
                have u1 := owns_cell encU_len O3n.out HX.out (j := 1) rfl
                have u2 := owns_cell encU_len O3n.out HX.out (j := 2) rfl
                have u3 := owns_cell encU_len O3n.out HX.out (j := 3) rfl
                have u4 := owns_cell encU_len O3n.out HX.out (j := 4) rfl
                have u5 := owns_cell encU_len O3n.out HX.out (j := 5) rfl
                have u6 := owns_cell encU_len O3n.out HX.out (j := 6) rfl
                have u7 := owns_cell encU_len O3n.out HX.out (j := 7) rfl
                have u8 := owns_cell encU_len O3n.out HX.out (j := 8) rfl
                have fz := fun j => O3n.out.frozenAt j
                dsimp only at u0 u1 u2 u3 u4 u5 u6 u7 u8
                simp only [Nat.add_zero] at u0
                have hg := HG.out
                have hkl := HKN.out
                go_wp2_with fail
                go_ret2
                have O3l : World.ownsRow w3 w.heap.size 39 9 (.slice (some ⟨g, 0, none⟩) l.length cap) l.length ((l.map encU).flatten) := by rw [HN.out]; exact O3n.out
                refine ⟨.slice (some ⟨g, 0, none⟩) l.length cap, ret_vi rfl R'.out.1.symm, ?_, ?_⟩
                · have P := owns_put9 O3l HX.out ⟨cc, pa + 1, us, wo⟩
                  dsimp only at P
                  rw [R'.out.2]; exact (owns_rows encU_len P (by rw [List.length_set])).gr (Gr.alloc (Gr.refl _) _)
                · (repeat (first | (with_reducible exact (G3).out) | (with_reducible refine Gr.alloc ?_ _) | ((with_reducible refine Gr.setCell ?_ ?_ _); rotate_left; exact hgw)))
          · exact absurd hst' (by decide)
          · clear hst'
            have BU : Hid (Al.bump ⟨cc, pa, us, wo⟩ true false = ⟨cc, pa + 1, us + 1, wo⟩) := (show _ = _ by unfold Al.bump; simp [h64])
            have R' : Hid (Al.pasE l s true false = 0 ∧ Al.pasL l s true false = l.set k ⟨cc, pa + 1, us + 1, wo⟩) := (show _ ∧ _ from ⟨R.out.1, by rw [R.out.2, BU.out]⟩)
            clear R BU h64
            go_enter Try.func29, Try.ntmps29
            go_wp2_with fail
            refine (C1'.out _ (Gr.refl _)).mono ?_
            rintro e w1 ⟨rfl, g1⟩
            have G1 : Aside (Gr w w1) := g1
            clear g1
            go_wp2_with fail
            go_loopg [10, 11] n (fun gg s10 s11 wr => ∃ kk : Nat, ∃ a : Int, kk ≤ n ∧ n - kk ≤ gg ∧ s11 = .int .i64 (kk : Int) ∧ s10 = .int .i64 a ∧ Aside (a = if k < kk then (k : Int) else -1) ∧ wr = w1)
            case atStart => exact ⟨0, -1, Nat.zero_le _, by omega, rfl, rfl, (show (-1 : Int) = if k < 0 then (k : Int) else -1 from rfl), rfl⟩
            case round =>
              obtain ⟨kk, a, hkk, hgg, rfl, rfl, HA, rfl⟩ := hrel
              by_cases hlt : kk < n
              · have hltz : (kk : Int) < (n : Int) := by omega
                obtain ⟨y, hy⟩ : ∃ y, l[kk]? = some y := ⟨_, List.getElem?_eq_getElem (by rw [HN.out]; exact hlt)⟩
                have U0 := ((hU kk y hy).gr G1.out) 0 _ rfl
                simp only [Nat.add_zero] at U0
                by_cases hkq : kk = k
                · subst hkq
                  have hq : (y.c.s == s) = true := by
                    rw [HX.out] at hy
                    cases hy
                    simpa using HS.out
                  clear hU hy
                  go_wp2_with fail
                  go_roundg (n - (kk + 1))
                  case measure => omega
                  case rel => exact ⟨kk + 1, (kk : Int), by omega, by omega, by go_num, by go_num, (show (kk : Int) = if kk < kk + 1 then (kk : Int) else -1 by rw [if_pos (by omega)]), rfl⟩
                · have hq : (y.c.s == s) = false := by
                    simp only [beq_eq_false_iff_ne, ne_eq]
                    intro e
                    exact hkq (Al.chk_inj HC.out hy HX.out (e.trans HS.out.symm))
                  have HKQ := Lib.hid hkq
                  clear hU hy hkq
                  go_wp2_with fail
                  go_roundg (n - (kk + 1))
                  case measure => omega
                  case rel => exact ⟨kk + 1, a, by omega, by omega, by go_num, rfl, (show a = if k < kk + 1 then (k : Int) else -1 by have := HKQ.out; rw [HA.out]; split <;> split <;> omega), rfl⟩
              · have hltz : ¬ (kk : Int) < (n : Int) := by omega
                have ha : a = (k : Int) := by rw [HA.out, if_pos (by omega)]
                subst ha
                clear hU
                have hq1 : 0 + l.length ≤ maxLen := by have := HL.out; rw [HN.out]; unfold maxLen; omega
                have hq2 : (0 + l.length) * 72 ≤ 140737488355328 := by have := HL.out; rw [HN.out]; omega
                have G2 := Gr.alloc G1.out (Obj.cells #[] 39)
                go_wp2_with (at_builtin; refine wpList_append_rows rfl _ _ 22 rfl w.heap.size 39 i0 (.agg #[.int .i64 0, .int .i64 0, .int .i64 0, .bool false, .int .i64 0, .int .i64 0, .int .i64 0, .int .i64 0, .int .i64 0]) 72 Try.underlying22 hi hz0 hz1 hz2 rfl (by decide) encU_len (by simp [encU, Value.oneCell']) _ 0 [] rfl (World.ownsRow_lit wr #[] 0 (G1.out.size) (by simp [maxLen]) rfl) l _ rfl (HR.out.gr G2) hq1 hq2 G2.size ?_)
                intro v' w3 hown' hgrow _
                clear hq1 hq2
                have O3 : Hid (w3.ownsRow w.heap.size 39 9 v' l.length ((l.map encU).flatten)) := (show World.ownsRow _ _ _ _ _ _ _ by simpa using hown')
                have G3 : Aside (Gr w w3) := G2.append hgrow (fun k hk => by simp [Value.ownBlock] at hk; have := G1.out.size; omega)
                clear hown' hgrow G2
                rcases O3.out.2 with ⟨_, hz⟩ | ⟨g, cap, cur, rfl, hgb, hgs, _⟩
                · rw [HN.out] at hz; omega
                have hgw : w.heap.size ≤ g := hgb
                have HG : Aside (g < w3.heap.size) := by
                  by_cases q : g < w3.heap.size
                  · exact q
                  · rw [Array.getElem?_eq_none (by omega)] at hgs; cases hgs
                clear hgb hgs
                have O3' := O3.out
                rw [HN.out] at O3'
                have O3n := Lib.hid O3'
                clear O3 O3'
                have u0 := owns_cell encU_len O3n.out HX.out (j := 0) rfl
                have u1 := owns_cell encU_len O3n.out HX.out (j := 1) rfl
                have u2 := owns_cell encU_len O3n.out HX.out (j := 2) rfl
                have u3 := owns_cell encU_len O3n.out HX.out (j := 3) rfl
                have u4 := owns_cell encU_len O3n.out HX.out (j := 4) rfl
                have u5 := owns_cell encU_len O3n.out HX.out (j := 5) rfl
                have u6 := owns_cell encU_len O3n.out HX.out (j := 6) rfl
                have u7 := owns_cell encU_len O3n.out HX.out (j := 7) rfl
                have u8 := owns_cell encU_len O3n.out HX.out (j := 8) rfl
                have fz := fun j => O3n.out.frozenAt j
                dsimp only at u0 u1 u2 u3 u4 u5 u6 u7 u8
                simp only [Nat.add_zero] at u0
                have hg := HG.out
                have hkl := HKN.out
                go_wp2_with fail
                go_ret2
                have O3l : World.ownsRow w3 w.heap.size 39 9 (.slice (some ⟨g, 0, none⟩) l.length cap) l.length ((l.map encU).flatten) := by rw [HN.out]; exact O3n.out
                refine ⟨.slice (some ⟨g, 0, none⟩) l.length cap, ret_vi rfl R'.out.1.symm, ?_, ?_⟩
                · have P := owns_put9 O3l HX.out ⟨cc, pa + 1, us + 1, wo⟩
                  dsimp only at P
                  rw [R'.out.2]; exact (owns_rows encU_len P (by rw [List.length_set])).gr (Gr.alloc (Gr.refl _) _)
                · (repeat (first | (with_reducible exact (G3).out) | (with_reducible refine Gr.alloc ?_ _) | ((with_reducible refine Gr.setCell ?_ ?_ _); rotate_left; exact hgw)))
          · clear hst'
            have BU : Hid (Al.bump ⟨cc, pa, us, wo⟩ true true = ⟨cc, pa + 1, us + 1, wo + 1⟩) := (show _ = _ by unfold Al.bump; simp [h64])
            have R' : Hid (Al.pasE l s true true = 0 ∧ Al.pasL l s true true = l.set k ⟨cc, pa + 1, us + 1, wo + 1⟩) := (show _ ∧ _ from ⟨R.out.1, by rw [R.out.2, BU.out]⟩)
            clear R BU h64
            go_enter Try.func29, Try.ntmps29
            go_wp2_with fail
            refine (C1'.out _ (Gr.refl _)).mono ?_
            rintro e w1 ⟨rfl, g1⟩
            have G1 : Aside (Gr w w1) := g1
            clear g1
            go_wp2_with fail
            go_loopg [10, 11] n (fun gg s10 s11 wr => ∃ kk : Nat, ∃ a : Int, kk ≤ n ∧ n - kk ≤ gg ∧ s11 = .int .i64 (kk : Int) ∧ s10 = .int .i64 a ∧ Aside (a = if k < kk then (k : Int) else -1) ∧ wr = w1)
            case atStart => exact ⟨0, -1, Nat.zero_le _, by omega, rfl, rfl, (show (-1 : Int) = if k < 0 then (k : Int) else -1 from rfl), rfl⟩
            case round =>
              obtain ⟨kk, a, hkk, hgg, rfl, rfl, HA, rfl⟩ := hrel
              by_cases hlt : kk < n
              · have hltz : (kk : Int) < (n : Int) := by omega
                obtain ⟨y, hy⟩ : ∃ y, l[kk]? = some y := ⟨_, List.getElem?_eq_getElem (by rw [HN.out]; exact hlt)⟩
                have U0 := ((hU kk y hy).gr G1.out) 0 _ rfl
                simp only [Nat.add_zero] at U0
                by_cases hkq : kk = k
                · subst hkq
                  have hq : (y.c.s == s) = true := by
                    rw [HX.out] at hy
                    cases hy
                    simpa using HS.out
                  clear hU hy
                  go_wp2_with fail
                  go_roundg (n - (kk + 1))
                  case measure => omega
                  case rel => exact ⟨kk + 1, (kk : Int), by omega, by omega, by go_num, by go_num, (show (kk : Int) = if kk < kk + 1 then (kk : Int) else -1 by rw [if_pos (by omega)]), rfl⟩
                · have hq : (y.c.s == s) = false := by
                    simp only [beq_eq_false_iff_ne, ne_eq]
                    intro e
                    exact hkq (Al.chk_inj HC.out hy HX.out (e.trans HS.out.symm))
                  have HKQ := Lib.hid hkq
                  clear hU hy hkq
                  go_wp2_with fail
                  go_roundg (n - (kk + 1))
                  case measure => omega
                  case rel => exact ⟨kk + 1, a, by omega, by omega, by go_num, rfl, (show a = if k < kk + 1 then (k : Int) else -1 by have := HKQ.out; rw [HA.out]; split <;> split <;> omega), rfl⟩
              · have hltz : ¬ (kk : Int) < (n : Int) := by omega
                have ha : a = (k : Int) := by rw [HA.out, if_pos (by omega)]
                subst ha
                clear hU
                have hq1 : 0 + l.length ≤ maxLen := by have := HL.out; rw [HN.out]; unfold maxLen; omega
                have hq2 : (0 + l.length) * 72 ≤ 140737488355328 := by have := HL.out; rw [HN.out]; omega
                have G2 := Gr.alloc G1.out (Obj.cells #[] 39)
                go_wp2_with (at_builtin; refine wpList_append_rows rfl _ _ 22 rfl w.heap.size 39 i0 (.agg #[.int .i64 0, .int .i64 0, .int .i64 0, .bool false, .int .i64 0, .int .i64 0, .int .i64 0, .int .i64 0, .int .i64 0]) 72 Try.underlying22 hi hz0 hz1 hz2 rfl (by decide) encU_len (by simp [encU, Value.oneCell']) _ 0 [] rfl (World.ownsRow_lit wr #[] 0 (G1.out.size) (by simp [maxLen]) rfl) l _ rfl (HR.out.gr G2) hq1 hq2 G2.size ?_)
                intro v' w3 hown' hgrow _
                clear hq1 hq2
                have O3 : Hid (w3.ownsRow w.heap.size 39 9 v' l.length ((l.map encU).flatten)) := (show World.ownsRow _ _ _ _ _ _ _ by simpa using hown')
                have G3 : Aside (Gr w w3) := G2.append hgrow (fun k hk => by simp [Value.ownBlock] at hk; have := G1.out.size; omega)
                clear hown' hgrow G2
                rcases O3.out.2 with ⟨_, hz⟩ | ⟨g, cap, cur, rfl, hgb, hgs, _⟩
                · rw [HN.out] at hz; omega
                have hgw : w.heap.size ≤ g := hgb
                have HG : Aside (g < w3.heap.size) := by
                  by_cases q : g < w3.heap.size
                  · exact q
                  · rw [Array.getElem?_eq_none (by omega)] at hgs; cases hgs
                clear hgb hgs
                have O3' := O3.out
                rw [HN.out] at O3'
                have O3n := Lib.hid O3'
                clear O3 O3'
                have u0 := owns_cell encU_len O3n.out HX.out (j := 0) rfl
                have u1 := owns_cell encU_len O3n.out HX.out (j := 1) rfl
                have u2 := owns_cell encU_len O3n.out HX.out (j := 2) rfl
                have u3 := owns_cell encU_len O3n.out HX.out (j := 3) rfl
                have u4 := owns_cell encU_len O3n.out HX.out (j := 4) rfl
                have u5 := owns_cell encU_len O3n.out HX.out (j := 5) rfl
                have u6 := owns_cell encU_len O3n.out HX.out (j := 6) rfl
                have u7 := owns_cell encU_len O3n.out HX.out (j := 7) rfl
                have u8 := owns_cell encU_len O3n.out HX.out (j := 8) rfl
                have fz := fun j => O3n.out.frozenAt j
                dsimp only at u0 u1 u2 u3 u4 u5 u6 u7 u8
                simp only [Nat.add_zero] at u0
                have hg := HG.out
                have hkl := HKN.out
                go_wp2_with fail
                go_ret2
                have O3l : World.ownsRow w3 w.heap.size 39 9 (.slice (some ⟨g, 0, none⟩) l.length cap) l.length ((l.map encU).flatten) := by rw [HN.out]; exact O3n.out
                refine ⟨.slice (some ⟨g, 0, none⟩) l.length cap, ret_vi rfl R'.out.1.symm, ?_, ?_⟩
                · have P := owns_put9 O3l HX.out ⟨cc, pa + 1, us + 1, wo + 1⟩
                  dsimp only at P
                  rw [R'.out.2]; exact (owns_rows encU_len P (by rw [List.length_set])).gr (Gr.alloc (Gr.refl _) _)
                · (repeat (first | (with_reducible exact (G3).out) | (with_reducible refine Gr.alloc ?_ _) | ((with_reducible refine Gr.setCell ?_ ?_ _); rotate_left; exact hgw)))
  · have RCHK := Lib.hid (Al.pas_chk (l := l) (s := s) (u := u) (w := wk) (by simpa using hc))
    have C1' := Lib.hid C1
    clear C1 HR h hn
    go_enter Try.func29, Try.ntmps29
    go_wp2_with fail
    refine (C1'.out _ (Gr.refl _)).mono ?_
    rintro e w1 ⟨rfl, g1⟩
    have G1 : Aside (Gr w w1) := g1
    clear g1
    go_wp2_with fail
    go_ret2
    exact ⟨.slice none 0 0, ret_vi rfl RCHK.out.1.symm, by rw [RCHK.out.2]; exact Rows.nil _ _, G1.out⟩
end Go.Proofs.Ytkhanjhjcfhhiaa
