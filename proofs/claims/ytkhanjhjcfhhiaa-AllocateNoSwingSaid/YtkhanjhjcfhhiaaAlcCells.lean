/- The list of usages of a steady demand: the plain list and the contract of cells. -/
import Derived.Test.YtkhanjhjcfhhiaaAlcAwake
namespace Go.Proofs.Ytkhanjhjcfhhiaa
open Go.RowKit Go.Sort
set_option linter.unusedVariables false

def usd (d : Int) (i : Nat) : Int := if (i : Int) < d then 64 else 0
def ceU (d : Int) (i : Nat) : Us := mkU i 64 (usd d i) (usd d i)
def ceL (n : Nat) (d : Int) : List Us := (List.range n).map (ceU d)
theorem ceL_len (n : Nat) (d : Int) : (ceL n d).length = n := by unfold ceL; simp
theorem ceL_get {n : Nat} {d : Int} {i : Nat} (h : i < n) : (ceL n d)[i]? = some (ceU d i) := by
  unfold ceL; rw [List.getElem?_map, List.getElem?_range h]; rfl
theorem ceL_at {n : Nat} {d : Int} {i : Nat} (h : i < n) : Al.at_ (ceL n d) i = ceU d i := Al.at_eq (ceL_get h)
theorem usd_c (d : Int) (i : Nat) : usd d i = 0 ∨ usd d i = 64 := by unfold usd; split <;> simp
theorem ceL_chk {n : Nat} (d : Int) (h : n ≤ 64) : Al.chk (ceL n d) = 0 := by
  refine Al.chk_of (by rw [ceL_len]; exact h) (fun j hj => ?_) (fun j h0 hj => ?_)
  · rw [ceL_len] at hj
    rw [ceL_at hj, ceL_at (by omega : 0 < n)]
    have := usd_c d j
    refine ⟨⟨rfl, rfl, rfl, ⟨by show (0 : Int) ≤ 3; decide, by show (3 : Int) ≤ 31; decide⟩, rfl⟩, ?_⟩
    unfold Al.okN ceU mkU
    dsimp only
    omega
  · rw [ceL_len] at hj
    rw [ceL_at hj, ceL_at (by omega : j - 1 < n)]
    show ((j - 1 : Nat) : Int) < (j : Int)
    omega
theorem ceL_snoc (n : Nat) (d : Int) : ceL (n + 1) d = ceL n d ++ [ceU d n] := by unfold ceL; rw [List.range_succ, List.map_append]; rfl
theorem ceL_sums (d : Int) (hd : 0 ≤ d) : ∀ n : Nat, Al.sU (ceL n d) = 64 * min d n ∧ Al.sP (ceL n d) = 64 * n
  | 0 => by simp [ceL, Al.sU, Al.sP]; omega
  | n + 1 => by
    obtain ⟨h1, h2⟩ := ceL_sums d hd n
    rw [ceL_snoc, Al.sU_app, Al.sP_app, h1, h2]
    have e1 : Al.sU [ceU d n] = usd d n := by show usd d n + 0 = _; omega
    have e2 : Al.sP [ceU d n] = 64 := by show (64 : Int) + 0 = _; omega
    rw [e1, e2]
    unfold usd
    split <;> omega
theorem ceL_w {n : Nat} (d : Int) (h : n ≤ 64) : Al.worB (ceL n d) = false := by
  have hc := ceL_chk d h
  cases hb : Al.worB (ceL n d) with
  | false => rfl
  | true =>
    cases hw : Al.wb (ceL n d) (ceL n d).length with
    | none => rw [(Al.wor_none hc hw).2] at hb; exact hb.symm
    | some q =>
      obtain ⟨a, b⟩ := q
      have h2 := (Al.wor_some hc hw).2
      rw [hb] at h2
      have hl := Al.wb_lt hw
      rw [ceL_len] at hl
      rw [ceL_at hl.1, ceL_at hl.2] at h2
      have h3 := of_decide_eq_true h2.symm
      unfold ceU mkU at h3
      dsimp only at h3
      rcases usd_c d a with e | e <;> rcases usd_c d b with f | f <;> rw [e, f] at h3 <;> exact absurd h3 (by decide)
theorem ceL_fx {n : Nat} {d lo hi : Int} (hd : 0 ≤ d) (h : n ≤ 64) : Al.fx (ceL n d) 0 lo hi = Al.sx n d lo hi := by
  have hc := ceL_chk d h
  obtain ⟨h1, h2⟩ := ceL_sums d hd n
  unfold Al.fx Al.sx
  rw [ceL_len, ceL_w d h]
  have e1 : Al.ldU (ceL n d) = Al.sU (ceL n d) := if_pos hc
  have e2 : Al.ldP (ceL n d) = Al.sP (ceL n d) := if_pos hc
  rw [e1, e2, h1, h2]
/-- Decide over such a list -/
theorem ceL_dec {n : Nat} {d lo hi : Int} (hd : 0 ≤ d) (h : n ≤ 64) (hl : Al.okL lo hi) : Al.decE (ceL n d) 0 lo hi = 0 ∧ Al.decK (ceL n d) 0 lo hi = Al.dk (Al.sx n d lo hi) ∧ Al.decC (ceL n d) 0 lo hi = Al.dc (Al.sx n d lo hi) := by
  have he : Al.decE (ceL n d) 0 lo hi = 0 := by unfold Al.decE; rw [if_pos (ceL_chk d h), if_pos ⟨by decide, hl⟩]
  refine ⟨he, ?_, ?_⟩
  · unfold Al.decK; rw [if_pos he, ceL_fx hd h]
  · unfold Al.decC; rw [if_pos he, ceL_fx hd h]

theorem infoU : (Try.prog.info? 39).map (fun i => (i.zero, i.size, i.bytes)) = some (some (.agg #[.int .i64 0, .int .i64 0, .int .i64 0, .bool false, .int .i64 0, .int .i64 0, .int .i64 0, .int .i64 0, .int .i64 0]), 9, 72) := by kernel_rfl
def CellsPost (n : Nat) (d : Int) (w : World) (e : Ending) (w' : World) : Prop := ∃ v, e = .returned v ∧ Rows 9 encU w' v (ceL n d) ∧ Gr w w'

set_option maxHeartbeats 2000000 in
theorem cells_any (n : Nat) (d : Int) (w : World) (h : n ≤ 64) :
    Calls Try.prog 17 #[.int .i64 (n : Int), .int .i64 d] w (CellsPost n d w) := by
  obtain ⟨i0, hi, hz0, hz1, hz2⟩ := info_parts infoU
  go_enter Try.func17, Try.ntmps17
  go_wp2_with fail
  go_loopg [5, 6, 7, 9] n (fun gg s5 _ _ s9 wr => ∃ kk : Nat, kk ≤ n ∧ n - kk ≤ gg ∧ s9 = .int .i64 (kk : Int) ∧ Aside (Gr w wr) ∧ Aside (wr.ownsRow w.heap.size 39 9 s5 kk (((ceL kk d).map encU).flatten)))
  case atStart => exact ⟨0, Nat.zero_le _, by omega, rfl, Gr.refl _, World.ownsRow_nil _ _ _ _⟩
  case round =>
    obtain ⟨kk, hkk, hgg, rfl, G, O⟩ := hrel
    by_cases hlt : kk < n
    · have hltz : (kk : Int) < (n : Int) := by omega
      by_cases hd : (kk : Int) < d
      · have HD : Hid (ceU d kk = mkU kk 64 64 64) := (show _ = _ by unfold ceU usd; rw [if_pos hd])
        go_wp2_with fail
        refine (usage_any _ _ _ _ _).mono ?_
        rintro e w1 ⟨rfl, g1⟩
        have G1 : Aside (Gr w w1) := G.out.trans g1
        have O1 := Lib.hid (owns_gr O.out g1)
        clear g1
        go_wp2_with (at_builtin; refine wpList_append_own _ rfl _ _ 22 rfl w.heap.size 39 i0 (.agg #[.int .i64 0, .int .i64 0, .int .i64 0, .bool false, .int .i64 0, .int .i64 0, .int .i64 0, .int .i64 0, .int .i64 0]) 9 72 Try.underlying22 hi hz0 hz1 hz2 rfl (by decide) _ _ _ rfl (O1.out.alloc _) ⟨w1.heap.size, 0, none⟩ 1 1 [.int .i64 (kk : Int), .int .i64 0, .int .i64 2, .bool true, .int .i64 3, .int .i64 (-1), .int .i64 64, .int .i64 64, .int .i64 64] rfl rfl ?qa1 ?qa2 ?qa3 ?qa4 ?qa5 ?_)
        case qa1 => intro j u hj; rw [Addr.add_lit, Nat.zero_add, World.cell?_alloc_new]; simpa using hj
        case qa2 => simp [Value.oneCell']
        case qa3 => unfold maxLen; omega
        case qa4 => omega
        case qa5 => have := G1.out.size; simp; omega
        intro v' w' hown' hgrow _
        have HO := Lib.hid hown'
        clear hown'
        go_wp2_with fail
        go_roundg (n - (kk + 1))
        case measure => omega
        case rel => exact ⟨kk + 1, by omega, by omega, by go_num, (G1.out.alloc _).append hgrow (fun k hk => (O1.out.lt k hk).1), (show World.ownsRow _ _ _ _ _ _ _ by rw [ceL_snoc, HD.out, List.map_append, List.flatten_append]; exact HO.out)⟩
      · have HD : Hid (ceU d kk = mkU kk 64 0 0) := (show _ = _ by unfold ceU usd; rw [if_neg hd])
        go_wp2_with fail
        refine (usage_any _ _ _ _ _).mono ?_
        rintro e w1 ⟨rfl, g1⟩
        have G1 : Aside (Gr w w1) := G.out.trans g1
        have O1 := Lib.hid (owns_gr O.out g1)
        clear g1
        go_wp2_with (at_builtin; refine wpList_append_own _ rfl _ _ 22 rfl w.heap.size 39 i0 (.agg #[.int .i64 0, .int .i64 0, .int .i64 0, .bool false, .int .i64 0, .int .i64 0, .int .i64 0, .int .i64 0, .int .i64 0]) 9 72 Try.underlying22 hi hz0 hz1 hz2 rfl (by decide) _ _ _ rfl (O1.out.alloc _) ⟨w1.heap.size, 0, none⟩ 1 1 [.int .i64 (kk : Int), .int .i64 0, .int .i64 2, .bool true, .int .i64 3, .int .i64 (-1), .int .i64 64, .int .i64 0, .int .i64 0] rfl rfl ?qb1 ?qb2 ?qb3 ?qb4 ?qb5 ?_)
        case qb1 => intro j u hj; rw [Addr.add_lit, Nat.zero_add, World.cell?_alloc_new]; simpa using hj
        case qb2 => simp [Value.oneCell']
        case qb3 => unfold maxLen; omega
        case qb4 => omega
        case qb5 => have := G1.out.size; simp; omega
        intro v' w' hown' hgrow _
        have HO := Lib.hid hown'
        clear hown'
        go_wp2_with fail
        go_roundg (n - (kk + 1))
        case measure => omega
        case rel => exact ⟨kk + 1, by omega, by omega, by go_num, (G1.out.alloc _).append hgrow (fun k hk => (O1.out.lt k hk).1), (show World.ownsRow _ _ _ _ _ _ _ by rw [ceL_snoc, HD.out, List.map_append, List.flatten_append]; exact HO.out)⟩
    · have hltz : ¬ (kk : Int) < (n : Int) := by omega
      have : kk = n := by omega
      subst this
      go_wp2_with fail
      go_ret
      exact ⟨_, rfl, Rows.of_owns encU_len (by rw [ceL_len]; exact O.out), G.out⟩
end Go.Proofs.Ytkhanjhjcfhhiaa
