/- The contracts of timesync.Depths and of the reference's Depths. -/
import Derived.Test.YtjiaemmhjkhdhaaDepPlain
import Derived.Test.YtjiaemmhjkhdhaaCloneInts
import Derived.Deep.OwnRows
import Derived.WalkMore
namespace Go.Proofs.Ytjiaemmhjkhdhaa
open Go.RowKit Go.Sort
set_option linter.unusedVariables false

theorem par_get {p : List Int} {a : Nat} (h : a < p.length) : p[a] = Dp.par p a := by
  unfold Dp.par; rw [List.getD_eq_getElem?_getD, List.getElem?_eq_getElem h]; rfl

/-- a row of ints, by a function -/
theorem rows_fn {w : World} {b n c : Nat} {F : Nat → Int} (h : w.rowIs b 3 n (fun j => .int .i64 (F j))) : Rows 1 encI w (.slice (some ⟨b, 0, none⟩) n c) ((List.range n).map F) := by
  refine .inr ⟨b, 0, c, h.lt, by simp, fun i x hi j u hj => ?_⟩
  have hil : i < n := by
    have := (List.getElem?_eq_some_iff.1 hi).1
    simpa using this
  rw [List.getElem?_map, List.getElem?_range hil] at hi
  simp only [Option.map_some, Option.some.injEq] at hi
  subst hi
  match j with
  | 0 =>
    simp at hj
    subst hj
    have := h.cell hil
    simpa using this
  | j + 1 => simp at hj

set_option maxHeartbeats 4000000 in
theorem depths_any (v : Value) (p : List Int) (w : World) (h : Rows 1 encI w v p) (hbig : (p.length : Int) ≤ 9223372036854775807) :
    Calls Try.prog 21 #[v] w (IntsRes (Dp.dE p) (Dp.dL p) w) := by
  by_cases hp : Dp.okP p
  · obtain ⟨n1, n2, n3⟩ := hp
    rcases h with ⟨rfl, _⟩ | ⟨b, off, c, hb, rfl, hc⟩
    · simp at n1
    · have HC := Lib.hid (Rows.int_cell hc)
      have HB := Lib.hid hb
      have HP : Hid (Dp.okP p) := ⟨n1, n2, n3⟩
      have c0 : w.cell? ⟨b, off, none⟩ = some (.int .i64 (-1)) := by
        have := Rows.int_cell hc 0 (by omega)
        rw [par_get, n3] at this
        simpa using this
      obtain ⟨n, hn⟩ : ∃ n, p.length = n := ⟨_, rfl⟩
      rw [hn] at n1 n2 hbig ⊢
      have HN := Lib.hid hn
      have hmk := run_make_row' (P := Try.prog) 36 3 (.int .i64 0) 8 Try.underlying36 infoI' rfl .i64 .i64 n (by omega) (by omega)
      clear hc hb hn n3
      go_enter Try.func21, Try.ntmps21
      go_wp2_with fail
      go_step3
      go_wp2_with fail
      go_step3
      go_wp2_with fail
      have R0 : Aside ((w.alloc (Obj.cells (madeCells #[Value.int .i64 0] n) 3)).rowIs w.heap.size 3 n (fun _ => .int .i64 0)) := World.rowIs_made w (.int .i64 0) n 3
      have G0 : Aside (Gr w (w.alloc (Obj.cells (madeCells #[Value.int .i64 0] n) 3))) := Gr.alloc (Gr.refl w) _
      clear hmk c0
      go_loopg [2, 3, 5, 6, 26] n (fun gg _ _ _ _ s26 wr => ∃ i : Nat, i ≤ n ∧ n - i ≤ gg ∧ s26 = .int .i64 (i : Int) ∧ Aside (Gr w wr) ∧ Aside (wr.rowIs w.heap.size 3 n (fun j => .int .i64 (if j < i then Dp.dN p j else 0))) ∧ Aside (∀ j, j < i → (Dp.dep p n j).isSome))
      case atStart => exact ⟨0, Nat.zero_le _, by omega, rfl, G0.out, R0.out, fun j hj => absurd hj (Nat.not_lt_zero _)⟩
      case round =>
        obtain ⟨i, hi, hgg, rfl, G, R, S⟩ := hrel
        obtain ⟨wo, rfl⟩ : ∃ wo : World, wo = wr := ⟨_, rfl⟩
        by_cases hlt : i < n
        · have hltz : (i : Int) < (n : Int) := by omega
          go_wp2_with fail
          go_loopg [2, 3, 6] n (fun g2 _ _ s6 wr => ∃ d a : Nat, d ≤ n ∧ n - d ≤ g2 ∧ s6 = .int .i64 (a : Int) ∧ a < n ∧ Aside (Gr w wr) ∧ Aside (wr.rowIs w.heap.size 3 n (fun j => .int .i64 (if j = i then (d : Int) else if j < i then Dp.dN p j else 0))) ∧ Aside (Dp.dep p n i = (Dp.dep p (n - d) a).map (· + d)))
          case atStart => exact ⟨0, i, Nat.zero_le _, by omega, rfl, hlt, G.out, R.out.congr (fun j hj => by
            by_cases e : j = i
            · subst e; simp
            · simp [e]), (show Dp.dep p n i = (Dp.dep p (n - 0) i).map (· + 0) by simp)⟩
          case round =>
            obtain ⟨d, a, hd, hg2, rfl, ha, GI, RI, D⟩ := hrel
            have ci : wr.cell? ⟨w.heap.size, i, none⟩ = some (.int .i64 (d : Int)) := by
              have := RI.out.cell hlt
              simpa using this
            have fi := RI.out.frozen i
            have bw : w.heap.size < wr.heap.size := RI.out.lt
            by_cases hdn : d < n
            · have hdz : (d : Int) < (n : Int) := by omega
              by_cases ha0 : a = 0
              · subst ha0
                have D2 : Hid (Dp.dep p n i = some d) := by
                  have := D.out
                  rw [show n - d = (n - d - 1) + 1 by omega, Dp.dep_zero] at this
                  show _ = _
                  rw [this]; simp
                have D3 : Hid (Dp.dN p i = (d : Int)) := Dp.dN_some (by rw [HN.out]; exact D2.out)
                go_wp2_with fail
                go_roundg (n - (i + 1))
                case measure => omega
                case rel => exact ⟨i + 1, by omega, by omega, by go_num, GI.out, RI.out.congr (fun j hj => by
                  by_cases e : j = i
                  · subst e; simp [D3.out]
                  · simp only [if_neg e]
                    by_cases e2 : j < i
                    · rw [if_pos e2, if_pos (by omega)]
                    · rw [if_neg e2, if_neg (by omega)]), (show ∀ j, j < i + 1 → (Dp.dep p n j).isSome from fun j hj => by
                  by_cases e : j = i
                  · subst e; rw [D2.out]; rfl
                  · exact S.out j (by omega))⟩
              · have haz : ((a : Int) == 0) = false := by rw [beq_eq_false_iff_ne]; omega
                have hcp := (GI.out.cell (p := ⟨b, off + a, none⟩) HB.out).trans (HC.out a (by rw [HN.out]; exact ha))
                rw [par_get] at hcp
                have ERR : Hid (Dp.par p a < 0 ∨ (p.length : Int) ≤ Dp.par p a → ¬ Dp.okD p) := fun hbad => by
                  refine Dp.d_none (i := i) (by rw [HN.out]; exact hlt) ?_
                  have := D.out
                  rw [Dp.dep_bad ha0 hbad] at this
                  rw [HN.out, this]; rfl
                by_cases b1 : Dp.par p a < 0
                · have hD := Dp.d_no (ERR.out (.inl b1))
                  have H1 := Lib.hid hD
                  clear hD
                  go_wp2_with fail
                  (try rw [Exit.noGoto_ret])
                  go_ret2
                  exact ⟨.slice none 0 0, ret_vi rfl H1.out.1.symm, by rw [H1.out.2]; exact Rows.nil _ _, GI.out⟩
                · by_cases b2 : (n : Int) ≤ Dp.par p a
                  · have hD := Dp.d_no (ERR.out (.inr (by rw [HN.out]; exact b2)))
                    have H1 := Lib.hid hD
                    clear hD
                    go_wp2_with fail
                    (try rw [Exit.noGoto_ret])
                    go_ret2
                    exact ⟨.slice none 0 0, ret_vi rfl H1.out.1.symm, by rw [H1.out.2]; exact Rows.nil _ _, GI.out⟩
                  · obtain ⟨a', ha'⟩ : ∃ a' : Nat, Dp.par p a = (a' : Int) := ⟨(Dp.par p a).toNat, by omega⟩
                    have D2 : Hid (Dp.dep p n i = (Dp.dep p (n - (d + 1)) a').map (· + (d + 1))) := by
                      have := D.out
                      rw [show n - d = (n - (d + 1)) + 1 by omega, Dp.dep_step ha0 (by omega) (by rw [HN.out]; omega), ha'] at this
                      show _ = _
                      rw [this, Option.map_map]
                      congr 1
                      funext x
                      simp only [Function.comp]
                      omega
                    rw [ha'] at hcp b1 b2
                    clear ha'
                    go_wp2_with fail
                    go_roundg (n - (d + 1))
                    case measure => omega
                    case rel => exact ⟨d + 1, a', by omega, by omega, rfl, by omega, GI.out.setCell (Nat.le_refl _) _, (RI.out.set i _).congr (fun j hj => by
                      by_cases e : j = i
                      · subst e; simp
                      · simp [e]), D2.out⟩
            · have hdz : ¬ (d : Int) < (n : Int) := by omega
              have hD := Dp.d_no (Dp.d_none (p := p) (i := i) (by rw [HN.out]; exact hlt) (by
                have := D.out
                rw [show n - d = 0 by omega] at this
                rw [HN.out, this]; rfl))
              have H1 := Lib.hid hD
              clear hD
              go_wp2_with fail
              (try rw [Exit.noGoto_ret])
              go_ret2
              exact ⟨.slice none 0 0, ret_vi rfl H1.out.1.symm, by rw [H1.out.2]; exact Rows.nil _ _, GI.out⟩
        · have hltz : ¬ (i : Int) < (n : Int) := by omega
          have : i = n := by omega
          subst this
          have hD := Dp.d_ok (⟨HP.out, fun j hj => by rw [HN.out] at hj ⊢; exact S.out j hj⟩ : Dp.okD p)
          have H1 := Lib.hid hD
          clear hD
          go_wp2_with fail
          (try rw [Exit.noGoto_ret])
          go_ret2
          exact ⟨_, ret_vi rfl H1.out.1.symm, by
            rw [H1.out.2, HN.out]
            exact rows_fn (R.out.congr (fun j hj => by rw [if_pos hj])), G.out⟩
  · have hD := Dp.d_no (fun k => hp k.1 : ¬ Dp.okD p)
    rw [hD.1, hD.2]
    obtain ⟨A, c, rfl⟩ := h.slice
    obtain ⟨n, hn⟩ : ∃ n, p.length = n := ⟨_, rfl⟩
    have HN := Lib.hid hn
    by_cases n1 : n < 1
    · have z1 : (n : Int) < 1 := by omega
      rw [hn]
      clear h hp hD hn hbig
      go_enter Try.func21, Try.ntmps21
      go_wp2_with fail
      go_step3
      go_wp2_with fail
      go_ret2
      exact ⟨_, rfl, Rows.nil _ _, Gr.refl w⟩
    · have z1 : ¬ (n : Int) < 1 := by omega
      by_cases n2 : 32 < n
      · have z2 : (32 : Int) < (n : Int) := by omega
        rw [hn]
        clear h hp hD hn hbig
        go_enter Try.func21, Try.ntmps21
        go_wp2_with fail
        go_step3
        go_wp2_with fail
        go_ret2
        exact ⟨_, rfl, Rows.nil _ _, Gr.refl w⟩
      · have z2 : ¬ (32 : Int) < (n : Int) := by omega
        rcases h with ⟨rfl, _⟩ | ⟨b, off, c', hb, hv, hc⟩
        · simp at hn; omega
        · simp only [Value.slice.injEq] at hv
          obtain ⟨rfl, _, rfl⟩ := hv
          have c0 := Rows.int_cell hc 0 (by omega)
          rw [par_get, Nat.add_zero] at c0
          have q : (Dp.par p 0 != -1) = true := by
            rw [bne_iff_ne]; intro e; exact hp ⟨by omega, by omega, e⟩
          rw [hn]
          have z3 : (0 : Int) < (n : Int) := by omega
          clear hp hD hc hn hbig
          go_enter Try.func21, Try.ntmps21
          go_wp2_with fail
          go_step3
          go_wp2_with fail
          go_ret2
          exact ⟨_, rfl, Rows.nil _ _, Gr.refl w⟩

set_option maxHeartbeats 4000000 in
theorem rdepths_any (v : Value) (p : List Int) (w : World) (h : Rows 1 encI w v p) (hbig : (p.length : Int) ≤ 9223372036854775807) :
    Calls Try.prog 32 #[v] w (IntsRes (Dp.dE p) (Dp.dL p) w) := by
  obtain ⟨i0, hi, hz0, hz1, hz2⟩ := info_parts infoI'
  by_cases hp : Dp.okP p
  · obtain ⟨n1, n2, n3⟩ := hp
    rcases h with ⟨rfl, _⟩ | ⟨b, off, c, hb, rfl, hc⟩
    · simp at n1
    · have HC := Lib.hid (Rows.int_cell hc)
      have HB := Lib.hid hb
      have HP : Hid (Dp.okP p) := ⟨n1, n2, n3⟩
      have c0 : w.cell? ⟨b, off, none⟩ = some (.int .i64 (-1)) := by
        have := Rows.int_cell hc 0 (by omega)
        rw [par_get, n3] at this
        simpa using this
      obtain ⟨n, hn⟩ : ∃ n, p.length = n := ⟨_, rfl⟩
      rw [hn] at n1 n2 hbig ⊢
      have HN := Lib.hid hn
      clear hc hb hn n3
      go_enter Try.func32, Try.ntmps32
      go_wp2_with fail
      clear c0
      go_loopg [2, 3, 5, 6, 7, 8] n (fun gg _ _ s5 s6 _ _ wr => ∃ i : Nat, i ≤ n ∧ n - i ≤ gg ∧ s6 = .int .i64 (i : Int) ∧ Aside (Gr w wr) ∧ Aside (wr.ownsRow w.heap.size 3 1 s5 i (((List.range i).map (Dp.dN p)).map (Value.int .i64))) ∧ Aside (∀ j, j < i → (Dp.dep p n j).isSome))
      case atStart => exact ⟨0, Nat.zero_le _, by omega, rfl, Gr.alloc (Gr.refl w) _, World.ownsRow_lit w #[] 0 (Nat.le_refl _) (by simp [maxLen]) rfl, fun j hj => absurd hj (Nat.not_lt_zero _)⟩
      case round =>
        obtain ⟨i, hil, hgg, rfl, G, O, S⟩ := hrel
        obtain ⟨wo, rfl⟩ : ∃ wo : World, wo = wr := ⟨_, rfl⟩
        by_cases hlt : i < n
        · have hltz : (i : Int) < (n : Int) := by omega
          go_wp2_with fail
          go_loopg [2, 3, 7, 8] (n + 2) (fun g2 _ _ s7 s8 wr => ∃ d a : Nat, d ≤ n + 1 ∧ n + 2 - d ≤ g2 ∧ s7 = .int .i64 (d : Int) ∧ s8 = .int .i64 (a : Int) ∧ a < n ∧ wr = wo ∧ Aside (Dp.dep p (n + 2) i = (Dp.dep p (n + 2 - d) a).map (· + d)))
          case atStart => exact ⟨0, i, Nat.zero_le _, by omega, rfl, rfl, hlt, rfl, (show Dp.dep p (n + 2) i = (Dp.dep p (n + 2 - 0) i).map (· + 0) by simp)⟩
          case round =>
            obtain ⟨d, a, hd, hg2, rfl, rfl, ha, rfl, D⟩ := hrel
            have MORE : Hid (Dp.dep p (n + 2) i = Dp.dep p n i) := by
              have := Dp.dep_more (p := p) (k := n + 2) (a := i) (by rw [HN.out]; exact hlt) (by rw [HN.out]; omega)
              rwa [HN.out] at this
            by_cases ha0 : a = 0
            · subst ha0
              have D2 : Hid (Dp.dep p n i = some d) := by
                have := D.out
                rw [show n + 2 - d = (n + 1 - d) + 1 by omega, Dp.dep_zero, MORE.out] at this
                show _ = _
                rw [this]; simp
              have D3 : Hid (Dp.dN p i = (d : Int)) := Dp.dN_some (by rw [HN.out]; exact D2.out)
              go_wp2_with (at_builtin; refine wpList_append_own _ rfl _ _ 36 rfl w.heap.size 3 i0 (.int .i64 0) 1 8 Try.underlying36 hi hz0 hz1 hz2 rfl (by decide) _ _ _ rfl (O.out.alloc _) ⟨wr.heap.size, 0, none⟩ 1 1 [.int .i64 (d : Int)] rfl rfl ?qc1 ?qc2 ?qc3 ?qc4 ?qc5 ?_)
              case qc1 => intro j u hj; match j with | 0 => (simp at hj; subst hj; go_simp) | j + 1 => simp at hj
              case qc2 => simp [Value.oneCell']
              case qc3 => unfold maxLen; omega
              case qc4 => omega
              case qc5 => have := G.out.size; simp; omega
              intro v' w' hown' hgrow _
              have HO := Lib.hid hown'
              clear hown'
              go_wp2_with fail
              go_roundg (n - (i + 1))
              case measure => omega
              case rel => exact ⟨i + 1, by omega, by omega, by go_num, (G.out.alloc _).append hgrow (fun k hk => (O.out.lt k hk).1), (show World.ownsRow _ _ _ _ _ _ _ by have := HO.out; rw [List.range_succ, List.map_append, List.map_append, List.map_cons, List.map_nil, D3.out]; simpa using this), (show ∀ j, j < i + 1 → (Dp.dep p n j).isSome from fun j hj => by
                  by_cases e : j = i
                  · subst e; rw [D2.out]; rfl
                  · exact S.out j (by omega))⟩
            · have haz : ((a : Int) != 0) = true := by rw [bne_iff_ne]; omega
              have hcp := (G.out.cell (p := ⟨b, off + a, none⟩) HB.out).trans (HC.out a (by rw [HN.out]; exact ha))
              rw [par_get] at hcp
              have ERR : Hid (Dp.par p a < 0 ∨ (p.length : Int) ≤ Dp.par p a → ¬ Dp.okD p) := fun hbad => by
                refine Dp.d_none (i := i) (by rw [HN.out]; exact hlt) ?_
                have := D.out
                rw [Dp.dep_bad ha0 hbad, MORE.out] at this
                rw [HN.out, this]; rfl
              by_cases b1 : Dp.par p a < 0
              · have hD := Dp.d_no (ERR.out (.inl b1))
                have H1 := Lib.hid hD
                clear hD
                go_wp2_with fail
                go_ret2
                exact ⟨.slice none 0 0, ret_vi rfl H1.out.1.symm, by rw [H1.out.2]; exact Rows.nil _ _, G.out⟩
              · by_cases b2 : (n : Int) ≤ Dp.par p a
                · have hD := Dp.d_no (ERR.out (.inr (by rw [HN.out]; exact b2)))
                  have H1 := Lib.hid hD
                  clear hD
                  go_wp2_with fail
                  go_ret2
                  exact ⟨.slice none 0 0, ret_vi rfl H1.out.1.symm, by rw [H1.out.2]; exact Rows.nil _ _, G.out⟩
                · obtain ⟨a', ha'⟩ : ∃ a' : Nat, Dp.par p a = (a' : Int) := ⟨(Dp.par p a).toNat, by omega⟩
                  have D2 : Hid (Dp.dep p (n + 2) i = (Dp.dep p (n + 2 - (d + 1)) a').map (· + (d + 1))) := by
                    have := D.out
                    rw [show n + 2 - d = (n + 2 - (d + 1)) + 1 by omega, Dp.dep_step ha0 (by omega) (by rw [HN.out]; omega), ha'] at this
                    show _ = _
                    rw [this, Option.map_map]
                    congr 1
                    funext x
                    simp only [Function.comp]
                    omega
                  rw [ha'] at hcp b1 b2
                  clear ha'
                  by_cases b3 : n < d
                  · have b3z : (n : Int) < (d : Int) := by omega
                    have hD := Dp.d_no (Dp.d_none (p := p) (i := i) (by rw [HN.out]; exact hlt) (by
                      have := D2.out
                      rw [show n + 2 - (d + 1) = 0 by omega, MORE.out] at this
                      rw [HN.out, this]; rfl))
                    have H1 := Lib.hid hD
                    clear hD
                    go_wp2_with fail
                    go_ret2
                    exact ⟨.slice none 0 0, ret_vi rfl H1.out.1.symm, by rw [H1.out.2]; exact Rows.nil _ _, G.out⟩
                  · have b3z : ¬ (n : Int) < (d : Int) := by omega
                    go_wp2_with fail
                    go_roundg (n + 2 - (d + 1))
                    case measure => omega
                    case rel => exact ⟨d + 1, a', by omega, by omega, by go_num, rfl, by omega, rfl, D2.out⟩
        · have hltz : ¬ (i : Int) < (n : Int) := by omega
          have : i = n := by omega
          subst this
          have hD := Dp.d_ok (⟨HP.out, fun j hj => by rw [HN.out] at hj ⊢; exact S.out j hj⟩ : Dp.okD p)
          have H1 := Lib.hid hD
          clear hD
          go_wp2_with fail
          go_ret2
          exact ⟨u5, ret_vi rfl H1.out.1.symm, by
            rw [H1.out.2, HN.out]
            exact Rows.ints_of O.out (by simp), G.out⟩
  · have hD := Dp.d_no (fun k => hp k.1 : ¬ Dp.okD p)
    rw [hD.1, hD.2]
    obtain ⟨A, c, rfl⟩ := h.slice
    obtain ⟨n, hn⟩ : ∃ n, p.length = n := ⟨_, rfl⟩
    have HN := Lib.hid hn
    by_cases n1 : n < 1
    · have z1 : (n : Int) < 1 := by omega
      rw [hn]
      clear h hp hD hn hbig
      go_enter Try.func32, Try.ntmps32
      go_wp2_with fail
      go_ret2
      exact ⟨_, rfl, Rows.nil _ _, Gr.refl w⟩
    · have z1 : ¬ (n : Int) < 1 := by omega
      by_cases n2 : 32 < n
      · have z2 : (32 : Int) < (n : Int) := by omega
        rw [hn]
        clear h hp hD hn hbig
        go_enter Try.func32, Try.ntmps32
        go_wp2_with fail
        go_ret2
        exact ⟨_, rfl, Rows.nil _ _, Gr.refl w⟩
      · have z2 : ¬ (32 : Int) < (n : Int) := by omega
        rcases h with ⟨rfl, _⟩ | ⟨b, off, c', hb, hv, hc⟩
        · simp at hn; omega
        · simp only [Value.slice.injEq] at hv
          obtain ⟨rfl, _, rfl⟩ := hv
          have c0 := Rows.int_cell hc 0 (by omega)
          rw [par_get, Nat.add_zero] at c0
          have q : (Dp.par p 0 != -1) = true := by
            rw [bne_iff_ne]; intro e; exact hp ⟨by omega, by omega, e⟩
          rw [hn]
          have z3 : (0 : Int) < (n : Int) := by omega
          clear hp hD hc hn hbig
          go_enter Try.func32, Try.ntmps32
          go_wp2_with fail
          go_ret2
          exact ⟨_, rfl, Rows.nil _ _, Gr.refl w⟩
end Go.Proofs.Ytjiaemmhjkhdhaa
