/- The walk of TimesyncSpreads: the Go text returns true. (Printed by mkspr.py.) -/
import Derived.Test.YtjiaemmhjkhdhaaTmsAwake
import Derived.Test.YtjiaemmhjkhdhaaSprB
import Derived.Test.YtjiaemmhjkhdhaaGrwA
import Derived.Test.YtjiaemmhjkhdhaaDepA
import Derived.Test.YtjiaemmhjkhdhaaRunC
import Derived.Test.YtjiaemmhjkhdhaaSpdA
import Derived.Test.YtjiaemmhjkhdhaaCloneS
import Derived.Test.YtjiaemmhjkhdhaaCloneY
import Derived.Test.YtjiaemmhjkhdhaaCloneInts
import Derived.Test.YtjiaemmhjkhdhaaOkTree
import Derived.Test.YtjiaemmhjkhdhaaHeld
import Derived.Test.YtjiaemmhjkhdhaaPut
import Derived.Deep.AppendLies
namespace Go.Proofs.Ytjiaemmhjkhdhaa.timesyncSpreads
open Go.RowKit Go.Sort
set_option linter.unusedVariables false

/-- rows of structs, met out of a clone's post -/
theorem rows_cloneS {l : List Sy} {w w' : World} {e : Ending} (h : CloneSPost l w e w') : ∃ A C, e = .returned (.slice A l.length C) ∧ (Rows 4 encS w' (.slice A l.length C) l ∧ l.length ≤ C) ∧ Gr w w' := by
  obtain ⟨v, h1, h2, h3⟩ := h
  have hr := Rows.of_owns encS_len h2
  rcases h2.2 with ⟨rfl, h0⟩ | ⟨g, cap, cur, rfl, hx⟩
  · rw [h0]
    exact ⟨_, _, h1, ⟨hr, Nat.le_refl _⟩, h3⟩
  · exact ⟨_, _, h1, ⟨hr, by first | exact hx.2.2.1 | omega⟩, h3⟩
theorem rows_weak {l : List Sy} {n : Nat} {w w' : World} {e : Ending} (h : ∃ A C, e = .returned (.slice A n C) ∧ (Rows 4 encS w' (.slice A n C) l ∧ n ≤ C) ∧ Gr w w') : ∃ v, e = .returned v ∧ Rows 4 encS w' v l ∧ Gr w w' := by
  obtain ⟨A, C, h1, ⟨h2, _⟩, h3⟩ := h
  exact ⟨_, h1, h2, h3⟩
/-- a row's cells, one behind the other -/
theorem rows_flat {w : World} {b off : Nat} {l : List Sy} (hc : ∀ i x, l[i]? = some x → ∀ j u, (encS x)[j]? = some u → w.cell? ⟨b, off + i * 4 + j, none⟩ = some u) : ∀ (j : Nat) u, ((l.map encS).flatten)[j]? = some u → w.cell? ⟨b, off + j, none⟩ = some u := by
  intro j u hj
  have hj2 : j < l.length * 4 := by
    have := (List.getElem?_eq_some_iff.1 hj).1
    rwa [flat_len encS_len] at this
  have hi2 : j / 4 < l.length := Nat.div_lt_of_lt_mul (by rwa [Nat.mul_comm])
  have hm : j / 4 * 4 + j % 4 = j := by rw [Nat.mul_comm]; exact Nat.div_add_mod _ _
  have hg := flat_get encS_len l (j / 4) (j % 4) l[j / 4] (List.getElem?_eq_getElem hi2) (Nat.mod_lt _ (by decide))
  rw [hm, hj] at hg
  have := hc (j / 4) l[j / 4] (List.getElem?_eq_getElem hi2) (j % 4) u hg.symm
  rwa [Nat.add_assoc, hm] at this
theorem one_cell (l : List Sy) : ∀ u ∈ (l.map encS).flatten, u.oneCell' = true := by
  intro u hu
  obtain ⟨y, hy, hu2⟩ := List.mem_flatten.1 hu
  obtain ⟨z', hz', rfl⟩ := List.mem_map.1 hy
  simp at hu2
  rcases hu2 with rfl | rfl | rfl | rfl <;> rfl
theorem snoc_flat {α : Type} {enc : α → List Value} (l : List α) (x : α) : ((l ++ [x]).map enc).flatten = (l.map enc).flatten ++ enc x := by simp

set_option maxHeartbeats 16000000 in
set_option maxRecDepth 100000 in
theorem walk (u0 u1 : Value) (S : List Sy) (p : List Int) (slot later : Int) (wslot : (Lit.int .i64 slot).wf = true) (wlater : (Lit.int .i64 later).wf = true) (w : World)
    (rS : Rows 4 encS w u0 S) (bS : (S.length : Int) ≤ 9223372036854775807) (kS : ∀ A n c, u0 = .slice A n c → n ≤ c ∧ c ≤ 9223372036854775807) (wS : ∀ x ∈ S, okSy x)
    (rp : Rows 1 encI w u1 p) (bp : (p.length : Int) ≤ 9223372036854775807) (kp : ∀ A n c, u1 = .slice A n c → n ≤ c ∧ c ≤ 9223372036854775807) (wp : ∀ x ∈ p, okI x) :
    Calls Try.prog 9 #[.agg #[u0, u1], .int .i64 slot, .int .i64 later] w fun e w' => e = .returned (.bool true) ∧ Gr w w' := by
  clear kS wS kp wp wslot wlater
  obtain ⟨A0, C0, rfl⟩ := rS.slice
  obtain ⟨A1, C1, rfl⟩ := rp.slice
  obtain ⟨n, e0⟩ : ∃ n, S.length = n := ⟨_, rfl⟩
  obtain ⟨n1, e1⟩ : ∃ n, p.length = n := ⟨_, rfl⟩
  have RS : Hid (Rows 4 encS w (.slice A0 n C0) S) := by rw [e0] at rS; exact rS
  have RP : Hid (Rows 1 encI w (.slice A1 n1 C1) p) := by rw [e1] at rp; exact rp
  rw [e0] at bS ⊢
  rw [e1] at bp ⊢
  clear rS rp
  have E0 := Lib.hid e0
  have E1 := Lib.hid e1
  clear e0 e1
  go_enter Try.func9, Try.ntmps9
  go_wp2_with fail
  refine (awake_any _).mono ?_
  rintro e w1 ⟨rfl, g1⟩
  have x0 := held_keep (p := ⟨w.heap.size, 0, none⟩) (v := .slice A0 n C0) g1 (by go_simp)
  have x1 := held_keep (p := ⟨w.heap.size, 1, none⟩) (v := .slice A1 n1 C1) g1 (by go_simp)
  have G1 : Aside (Gr w w1) := (Gr.alloc (Gr.refl w) _).trans g1
  have hzx := block_lt_of_cell x0
  clear g1
  by_cases c0 : n < 2
  · have z0 : decide ((n : Int) < 2) = true := bt (by omega)
    go_wp2_with fail
    go_ret
    exact ⟨rfl, G1.out⟩
  · have z0 : decide ((n : Int) < 2) = false := bf (by omega)
    by_cases c1 : 6 < n
    · have z1 : decide ((6 : Int) < (n : Int)) = true := bt (by omega)
      go_wp2_with fail
      go_ret
      exact ⟨rfl, G1.out⟩
    · have z1 : decide ((6 : Int) < (n : Int)) = false := bf (by omega)
      by_cases c2 : ¬ n1 = n
      · have z2 : ((n1 : Int) != (n : Int)) = true := by simp; omega
        go_wp2_with fail
        go_ret
        exact ⟨rfl, G1.out⟩
      · have z2 : ((n1 : Int) != (n : Int)) = false := by simp; omega
        by_cases c3 : slot < 0
        · have z3 : decide (slot < 0) = true := bt (by omega)
          go_wp2_with fail
          go_ret
          exact ⟨rfl, G1.out⟩
        · have z3 : decide (slot < 0) = false := bf (by omega)
          by_cases c4 : 100000 < slot
          · have z4 : decide (100000 < slot) = true := bt (by omega)
            go_wp2_with fail
            go_ret
            exact ⟨rfl, G1.out⟩
          · have z4 : decide (100000 < slot) = false := bf (by omega)
            by_cases c5 : later < 0
            · have z5 : decide (later < 0) = true := bt (by omega)
              go_wp2_with fail
              go_ret
              exact ⟨rfl, G1.out⟩
            · have z5 : decide (later < 0) = false := bf (by omega)
              by_cases c6 : 100000000 < later
              · have z6 : decide (100000000 < later) = true := bt (by omega)
                go_wp2_with fail
                go_ret
                exact ⟨rfl, G1.out⟩
              · have z6 : decide (100000000 < later) = false := bf (by omega)
                obtain rfl : n1 = n := by omega
                go_wp2_with fail
                refine (clone_any _ p _ (RP.out.gr G1.out) (by rw [E1.out]; omega)).mono ?_
                rintro e w2 ⟨a1, rfl, q1, g2⟩
                have x0 := held_keep g2 x0
                have x1 := held_keep g2 x1
                have G2 : Aside (Gr w w2) := G1.out.trans g2
                have hzx := block_lt_of_cell x0
                clear g2 G1
                go_wp2_with fail
                refine (depths_any _ p _ q1 (by rw [E1.out]; omega)).mono ?_
                rintro e w3 ⟨aD, rfl, qD, g3⟩
                have x0 := held_keep g3 x0
                have x1 := held_keep g3 x1
                have G3 : Aside (Gr w w3) := G2.out.trans g3
                have hzx := block_lt_of_cell x0
                clear g3 q1 G2
                by_cases hD : Dp.okD p
                · have DL : (Dp.dL p).length = n1 := by rw [Dp.dL_len hD]; exact E1.out
                  have DB := Ru.dL_bd hD
                  have HD := Lib.hid hD
                  rw [(Dp.d_ok hD).1]
                  obtain ⟨AD, CD, rfl⟩ := qD.slice
                  have QD : Hid (Rows 1 encI w3 (.slice AD n1 CD) (Dp.dL p)) := by rw [DL] at qD; exact qD
                  have DG := Lib.hid (fun (i : Nat) (hi : i < n1) => Ru.dL_get hD (i := i) (by rw [E1.out]; exact hi))
                  have DNB := Lib.hid (fun (i : Nat) (hi : i < n1) => Ru.dN_bd hD (i := i) (by rw [E1.out]; exact hi))
                  rw [DL]
                  have SO := sorted_any (.slice AD n1 CD) (Dp.dL p) w3 QD.out (by rw [DL]; omega) (by rw [DL]; omega) DB
                  clear qD hD DB
                  have DLH := Lib.hid DL
                  clear DL
                  go_wp2_with fail
                  refine SO.mono ?_
                  rintro e w4 ⟨so, rfl, hso, g4⟩
                  have x0 := held_keep g4 x0
                  have x1 := held_keep g4 x1
                  have G4 : Aside (Gr w w4) := G3.out.trans g4
                  have QD4 := Lib.hid (QD.out.gr g4)
                  have hzx := block_lt_of_cell x0
                  clear g4 SO QD G3
                  cases so with
                  | false =>
                    clear hso
                    go_wp2_with fail
                    go_ret
                    exact ⟨rfl, G4.out⟩
                  | true =>
                    have DM := Lib.hid (Ru.dN_mono HD.out (hso rfl))
                    clear hso
                    obtain ⟨i0, hi, hz0, hz1, hz2⟩ := info_parts infoCloneY
                    obtain ⟨m, hm⟩ : ∃ m : Nat, n1 = m + 1 := ⟨n1 - 1, by omega⟩
                    have HM := Lib.hid hm
                    have hm5 : m ≤ 5 := by omega
                    clear hm
                    have X0 := Lib.hid x0
                    have X1 := Lib.hid x1
                    clear x0 x1 hzx
                    go_wp2_with fail
                    go_loopg [10, 11] m (fun gg s10 s11 wr => ∃ kk : Nat, kk ≤ m ∧ m - kk ≤ gg ∧ s11 = .int .i64 ((kk : Int) + 1) ∧ Aside (Gr w4 wr) ∧ Aside (wr.ownsRow w4.heap.size 54 3 s10 kk ((((List.range kk).map (Ru.yn slot)).map encY).flatten)))
                    case atStart => exact ⟨0, Nat.zero_le _, by omega, rfl, Gr.refl _, World.ownsRow_nil _ _ _ _⟩
                    case round =>
                      obtain ⟨kk, hkk, hgg, rfl, GX, O⟩ := hrel
                      by_cases hlt : kk < m
                      · have hltz : (kk : Int) + 1 < (n1 : Int) := by have := HM.out; omega
                        obtain ⟨r, hr⟩ : ∃ r, ((kk : Int) + 1) % 2 = r := ⟨_, rfl⟩
                        have r1 : ((kk : Int) + 1).tmod 2 = r := by rw [Int.tmod_eq_emod_of_nonneg (by omega)]; exact hr
                        obtain ⟨bb, hbb⟩ : ∃ bb, (r == 0) = bb := ⟨_, rfl⟩
                        have SN : Hid ((((List.range (kk + 1)).map (Ru.yn slot)).map encY).flatten = (((List.range kk).map (Ru.yn slot)).map encY).flatten ++ [.int .i64 ((kk : Int) + 1), .int .i64 slot, .bool bb]) := by
                          show _ = _
                          rw [Ru.sY_snoc, snoc_flat]
                          have : decide (((kk : Int) + 1) % 2 = 0) = bb := by rw [hr, ← hbb]; by_cases e : r = 0 <;> simp [e]
                          unfold Ru.yn
                          rw [this]
                        obtain ⟨XS, hXS⟩ : ∃ XS, (((List.range kk).map (Ru.yn slot)).map encY).flatten = XS := ⟨_, rfl⟩
                        rw [hXS] at O SN
                        clear hXS hr
                        go_wp2_with (at_builtin; refine wpList_append_own _ rfl _ _ 48 rfl w4.heap.size 54 i0 (.agg #[.int .i64 0, .int .i64 0, .bool false]) 3 24 Try.underlying48 hi hz0 hz1 hz2 rfl (by decide) _ _ _ rfl (O.out.alloc _) ⟨wr.heap.size, 0, none⟩ 1 1 [.int .i64 ((kk : Int) + 1), .int .i64 slot, .bool bb] rfl rfl ?qa1 ?qa2 ?qa3 ?qa4 ?qa5 ?_)
                        try (case qa1 => intro j u hj; rw [Addr.add_lit, Nat.zero_add, World.cell?_alloc_new]; simpa using hj)
                        case qa2 => simp [Value.oneCell']
                        case qa3 => unfold maxLen; omega
                        case qa4 => omega
                        case qa5 => have := GX.out.size; simp; omega
                        intro v' w' hown' hgrow _
                        have HO := Lib.hid hown'
                        have GG1 : Aside (Gr w4 w') := (GX.out.alloc _).append hgrow (fun k hk => (O.out.lt k hk).1)
                        clear hown' hgrow
                        go_wp2_with fail
                        go_roundg (m - (kk + 1))
                        case measure => omega
                        case rel => exact ⟨kk + 1, by omega, by omega, by go_num, GG1.out, (show World.ownsRow _ _ _ _ _ _ _ by rw [SN.out]; exact HO.out)⟩
                      · have hltz : ¬ (kk : Int) + 1 < (n1 : Int) := by have := HM.out; omega
                        have hkm : kk = m := by omega
                        subst hkm
                        have GY : Aside (Gr w wr) := G4.out.trans GX.out
                        have SYE : Hid (Ru.sY slot n1 = (List.range kk).map (Ru.yn slot)) := (show _ = _ by unfold Ru.sY; rw [HM.out, Nat.add_sub_cancel])
                        have RY : Rows 3 encY wr u10 (Ru.sY slot n1) := by rw [SYE.out]; exact owns_rows encY_len O.out (by simp)
                        have QD5 := Lib.hid (QD4.out.gr GX.out)
                        have x0 := held_keep GX.out X0.out
                        have x1 := held_keep GX.out X1.out
                        have CS := fun W (g : Gr w W) => (cloneCloneS_any _ S W (RS.out.gr g) (by rw [E0.out]; omega)).mono fun e w' h => rows_cloneS h
                        rw [E0.out] at CS
                        have CP := fun W (g : Gr w W) => clone_any _ p W (RP.out.gr g) (by rw [E1.out]; omega)
                        have RUN := fun v1 v2 v3 W h1 h2 h3 => run_any v1 v2 v3 S p (Ru.sY slot n1) W h1 h2 h3 (by rw [E0.out]; omega) (by rw [E1.out]; omega) (by rw [Ru.sY_len]; omega)
                        have LAW := Lib.hid (fun (t g : Int) (hR : (Ru.run p S (Ru.sY slot n1)).2.2 = 0) hE => Ru.spreads (t := t) (g := g) HD.out E1.out E0.out (by omega) (fun i j a b => DM.out i j a (by rw [E1.out]; exact b)) hR hE)
                        have OKR := Lib.hid (fun (h : (Ru.run p S (Ru.sY slot n1)).2.2 = 0) => Ru.one_ok h)
                        have OKL : Hid ((Ru.run p S (Ru.sY slot n1)).2.2 = 0 → Ru.okL (Ru.run p S (Ru.sY slot n1)).1) := (show _ → _ from fun h => by
                          have ho := (Ru.one_ok h).1
                          have e : Ru.run p S (Ru.sY slot n1) = Ru.runs p S (Ru.sY slot n1) 0 := if_pos ho
                          rw [e] at h ⊢
                          exact (Ru.runs_end _ _ _ ho.2.2.2 h).2.2.1)
                        generalize hrun : Ru.run p S (Ru.sY slot n1) = r at RUN LAW OKR OKL
                        have KEEP : Aside (∀ W, Gr wr W → (Gr wr W ∧ W.cell? ⟨w.heap.size, 0, none⟩ = some (.slice A0 n1 C0) ∧ W.cell? ⟨w.heap.size, 1, none⟩ = some (.slice A1 n1 C1))) := fun W g => ⟨g, held_keep g x0, held_keep g x1⟩
                        clear O hrun
                        go_wp2_with fail
                        have mixed : Try.prog.follows .mixedOrders = true := by kernel_rfl
                        clear x0 x1
                        apply wp_join3 (F := fun W v1 v2 v3 => Gr wr W ∧ Rows 4 encS W v3 r.1)
                        case h =>
                          go_region_held3 (fun W => Gr wr W ∧ W.cell? ⟨w.heap.size, 0, none⟩ = some (.slice A0 n1 C0) ∧ W.cell? ⟨w.heap.size, 1, none⟩ = some (.slice A1 n1 C1)) ((refine KEEP.out _ ?_; (repeat (first | assumption | exact And.left (by assumption) | exact Gr.refl _ | refine Gr.drew ?_ | refine Gr.alloc ?_ _ | refine Gr.setCell ?_ (by first | exact Nat.le_refl _ | omega) _ | refine Gr.trans ?_ (by assumption)))))
                            ((first
                              | (go_at_call 27; refine ((CS _ (GY.out.trans (And.left (by assumption)))).mono fun e w' h => (rows_weak h)).mono ?_; rintro e w9 ⟨a1, rfl, Q1, k1⟩)
                              | (go_at_call 22; refine (CP _ (GY.out.trans (And.left (by assumption)))).mono ?_; rintro e w9 ⟨a2, rfl, Q2, k2⟩)
                              | (go_at_call 26; refine (RUN _ _ _ _ (by (repeat (first | assumption | refine Rows.gr ?_ (by assumption)))) (by (repeat (first | assumption | refine Rows.gr ?_ (by assumption)))) (by (repeat (first | assumption | exact RY.gr (And.left (by assumption)) | refine Rows.gr ?_ (by assumption))))).mono ?_; rintro e w9 ⟨a3, rfl, Q3, k3⟩)))
                          all_goals exact ⟨rfl, a1, a2, a3, rfl, (‹Gr wr _ ∧ _›).1, Q3⟩
                        case k =>
                          intro b1 b2 b3 w5 hF
                          obtain ⟨g5, R5⟩ := hF
                          have R5 := Lib.hid R5
                          have G5 : Aside (Gr w w5) := GY.out.trans g5
                          have x0 := held_keep g5 (held_keep GX.out X0.out)
                          have QD6 := Lib.hid (QD5.out.gr g5)
                          have hzx := block_lt_of_cell x0
                          obtain ⟨L, ri, re⟩ := r
                          have R5 : Hid (Rows 4 encS w5 b3 L) := R5.out
                          obtain ⟨A5, C5, rfl⟩ := R5.out.slice
                          clear g5 KEEP RY RUN CS CP
                          by_cases hre : re = 0
                          · subst hre
                            have LE : L.length = n1 := by have h : L.length = S.length := (OKR.out rfl).2.2.1; rw [E0.out] at h; exact h
                            have R6 : Hid (Rows 4 encS w5 (.slice A5 n1 C5) L) := by have := R5.out; rw [LE] at this; exact this
                            have OL : Hid (Ru.okL L) := OKL.out rfl
                            have LAW2 : Hid (∀ t g : Int, (∀ x ∈ L ++ S, Ru.snE x slot = 0 ∧ t ≤ Ru.sn x slot ∧ Ru.sn x slot ≤ t + g ∧ 0 < Ru.sn x slot) → Ru.spr L (t + g) ≤ (Dp.dN p (n1 - 1) + Dp.dN p (n1 - 2)) * (1 + Gd.gr g 100000)) := (show ∀ _ _, _ → _ ≤ _ from fun t g hE => LAW.out t g rfl hE)
                            rw [LE]
                            have LEH := Lib.hid LE
                            clear LE R5 OKR OKL LAW
                            go_wp2_with fail
                            rcases RS.out with ⟨h, _⟩ | ⟨bS, oS, cS, hbS, hvS, hcS⟩
                            · exact absurd (by rw [← E0.out, h]; rfl : n1 = 0) (by omega)
                            simp only [Value.slice.injEq] at hvS
                            obtain ⟨rfl, -, rfl⟩ := hvS
                            have SNEW : Aside (∀ (j : Nat) u, ((S.map encS).flatten)[j]? = some u → w.cell? ⟨bS, oS + j, none⟩ = some u) := rows_flat hcS
                            have CL := Lib.hid (fun (W : World) (g : Gr w5 W) => cloneCloneS_any (.slice A5 n1 C5) L W (R6.out.gr g) (by rw [LEH.out]; omega))
                            have KEEP2 : Aside (∀ W, Gr w5 W → (Gr w5 W ∧ W.cell? ⟨w.heap.size, 0, none⟩ = some (.slice (some ⟨bS, oS, none⟩) n1 C0))) := fun W g => ⟨g, held_keep g x0⟩
                            obtain ⟨i1, hj, hy0, hy1, hy2⟩ := info_parts infoCloneS
                            have g55 : Gr w5 w5 := Gr.refl _
                            clear hbS hcS x0 hzx
                            go_region_held3 (fun W => Gr w5 W ∧ W.cell? ⟨w.heap.size, 0, none⟩ = some (.slice (some ⟨bS, oS, none⟩) n1 C0)) ((refine KEEP2.out _ ?_; (repeat (first | assumption | exact And.left (by assumption) | exact Gr.refl _ | refine Gr.drew ?_ | refine Gr.alloc ?_ _ | refine Gr.setCell ?_ (by first | exact Nat.le_refl _ | omega) _ | refine Gr.trans ?_ (by assumption)))))
                              ((first
                                | (go_at_call 27; refine (CL.out _ (And.left (by assumption))).mono ?_; rintro e w9 ⟨v9, rfl, own9, g9⟩)
                                | (refine step_append_lies _ rfl _ _ 45 rfl _ 25 i1 (.agg #[.int .i64 0, .int .i64 0, .int .i64 0, .int .i64 0]) 4 32 Try.underlying45 hj hy0 hy1 hy2 rfl (by decide) _ _ _ rfl own9 ⟨bS, oS, none⟩ n1 C0 ((S.map encS).flatten) rfl (by rw [flat_len encS_len, E0.out]) (fun j u hj => by rw [Addr.add_lit]; exact held_keep (G5.out.trans (show Gr w5 _ by (repeat (first | assumption | exact And.left (by assumption) | exact Gr.refl _ | refine Gr.drew ?_ | refine Gr.alloc ?_ _ | refine Gr.setCell ?_ (by first | exact Nat.le_refl _ | omega) _ | refine Gr.trans ?_ (by assumption))))) (SNEW.out j u hj)) (one_cell S) (by omega) (by have := LEH.out; unfold maxLen; omega) (by have := LEH.out; omega) g9.size _ rfl ?_; intro gq cap w8 hown hgrow hat hltq; have gap := Gr.append (show Gr w5 _ by (repeat (first | assumption | exact And.left (by assumption) | exact Gr.refl _ | refine Gr.drew ?_ | refine Gr.alloc ?_ _ | refine Gr.setCell ?_ (by first | exact Nat.le_refl _ | omega) _ | refine Gr.trans ?_ (by assumption)))) hgrow (fun k hk => (own9.lt k hk).1))))
                            have RLS : Hid (Rows 4 encS w8 (.slice (some ⟨gq, 0, none⟩) (L.length + n1) cap) (L ++ S)) := owns_rows encS_len (l := L ++ S) (by rw [List.map_append, List.flatten_append]; exact hown) (by rw [List.length_append, E0.out])
                            have G8 : Aside (Gr w5 w8) := gap
                            clear hown hgrow hat hltq gap own9 g9 KEEP2
                            obtain ⟨m2, hm2⟩ : ∃ m2 : Nat, L.length + n1 = m2 := ⟨_, rfl⟩
                            have hm3 : (L.length : Int) + (n1 : Int) = (m2 : Int) := by omega
                            rw [hm2] at RLS
                            simp only [hm2]
                            try simp only [hm3]
                            have HM2 := Lib.hid hm2
                            have m20 : 0 < m2 := by omega
                            have m21 : m2 ≤ 12 := by have := LEH.out; omega
                            have LSL : Hid ((L ++ S).length = m2) := (show _ = _ by rw [List.length_append, E0.out]; exact hm2)
                            clear hm2 hm3
                            go_wp2_with fail
                            go_loopg [6, 15, 16, 18, 19, 20, 124] m2 (fun gg _ s15 s16 _ _ _ s124 wr => ∃ (kk : Nat) (t u : Int), kk ≤ m2 ∧ m2 - kk ≤ gg ∧ s124 = .int .i64 (kk : Int) ∧ s15 = .int .i64 t ∧ s16 = .int .i64 u ∧ Aside (Gr w8 wr) ∧ Aside (Ru.SI slot (L ++ S) kk t u))
                            case atStart => exact ⟨0, -1, 0, Nat.zero_le _, by omega, rfl, rfl, rfl, Gr.refl _, .inl ⟨rfl, rfl, rfl⟩⟩
                            case round =>
                              obtain ⟨kk, t, u, hkk, hgg, rfl, rfl, rfl, GV, SIk⟩ := hrel
                              obtain ⟨⟨tb0, tb1⟩, ub0, ub1⟩ := SIk.out.bd
                              have GZ : Aside (Gr w5 wr) := G8.out.trans GV.out
                              by_cases hlt : kk < m2
                              · have hltz : (kk : Int) < (m2 : Int) := by omega
                                obtain ⟨x, hx⟩ : ∃ x, (L ++ S)[kk]? = some x := ⟨_, List.getElem?_eq_getElem (by rw [LSL.out]; exact hlt)⟩
                                rcases RLS.out with ⟨h, _⟩ | ⟨b, off, c', hb, hv, hc⟩
                                · rw [h] at hx; simp at hx
                                simp only [Value.slice.injEq, Option.some.injEq, Addr.mk.injEq] at hv
                                obtain ⟨⟨rfl, rfl, -⟩, -, rfl⟩ := hv
                                have c0 := held_keep GV.out (hc kk x hx 0 _ rfl)
                                have c1 := held_keep GV.out (hc kk x hx 1 _ rfl)
                                have c2 := held_keep GV.out (hc kk x hx 2 _ rfl)
                                have c3 := held_keep GV.out (hc kk x hx 3 _ rfl)
                                simp only [Nat.zero_add, Nat.add_zero] at c0 c1 c2 c3
                                have hbr := block_lt_of_cell c0
                                have SEND : ∀ W, Calls Try.prog 23 #[.agg #[.int .i64 x.o, .int .i64 x.d], .int .i64 slot] W fun e w' => e = .returned (.tuple #[.int .i64 (Ru.sn x slot), .int .i64 (Ru.snE x slot)]) ∧ Gr W w' := fun W => send_any x.o x.d slot W
                                have STEP := Lib.hid (fun (he : Ru.snE x slot = 0) (hp : 0 < Ru.sn x slot) (t' : Int) (ht : t' = if t < 0 ∨ Ru.sn x slot < t then Ru.sn x slot else t) => SIk.out.step hx he hp t' ht)
                                have SB := Lib.hid (fun (he : Ru.snE x slot = 0) => Ru.sn_bd he)
                                generalize Ru.sn x slot = v at SEND STEP SB
                                generalize Ru.snE x slot = ve at SEND STEP SB
                                clear hb hc hx
                                go_wp2_with fail
                                refine (SEND _).mono ?_
                                rintro e w9 ⟨rfl, g9⟩
                                have G9 : Aside (Gr w8 w9) := (Gr.alloc GV.out _).trans g9
                                clear g9 SEND c0 c1 c2 c3 hbr
                                by_cases he : ve = 0
                                · subst he
                                  obtain ⟨v0, v1⟩ := SB.out rfl
                                  by_cases hv : v = 0
                                  · have hb : (v == 0) = true := by simpa using hv
                                    go_wp2_with fail
                                    go_ret
                                    exact ⟨rfl, G5.out.trans (G8.out.trans G9.out)⟩
                                  · have hb : (v == 0) = false := by simpa using hv
                                    by_cases ht : t < 0
                                    · have ST := Lib.hid (STEP.out rfl (by omega) v (by rw [if_pos (.inl ht)]))
                                      have b1 : decide (t < 0) = true := bt ht
                                      clear hv
                                      go_wp2_with fail
                                      go_roundg (m2 - (kk + 1))
                                      case measure => omega
                                      case rel => exact ⟨kk + 1, v, max u v, by omega, by omega, by go_num, rfl, rfl, G9.out, ST.out⟩
                                    · have b1 : decide (t < 0) = false := bf ht
                                      by_cases hvt : v < t
                                      · have ST := Lib.hid (STEP.out rfl (by omega) v (by rw [if_pos (.inr hvt)]))
                                        have b2 : decide (v < t) = true := bt hvt
                                        clear hv
                                        go_wp2_with fail
                                        go_roundg (m2 - (kk + 1))
                                        case measure => omega
                                        case rel => exact ⟨kk + 1, v, max u v, by omega, by omega, by go_num, rfl, rfl, G9.out, ST.out⟩
                                      · have ST := Lib.hid (STEP.out rfl (by omega) t (by rw [if_neg (by omega)]))
                                        have b2 : decide (v < t) = false := bf hvt
                                        clear hv
                                        go_wp2_with fail
                                        go_roundg (m2 - (kk + 1))
                                        case measure => omega
                                        case rel => exact ⟨kk + 1, t, max u v, by omega, by omega, by go_num, rfl, rfl, G9.out, ST.out⟩
                                · have hb : (ve != 0) = true := by simpa using he
                                  go_wp2_with fail
                                  go_ret
                                  exact ⟨rfl, G5.out.trans (G8.out.trans G9.out)⟩
                              · have hltz : ¬ (kk : Int) < (m2 : Int) := by omega
                                have hkm2 : kk = m2 := by omega
                                obtain ⟨t0, tu, umax, sx⟩ := Ru.SI.done (slot := slot) (l := L ++ S) (t := t) (u := u) (by rw [LSL.out, ← hkm2]; exact SIk.out) (by rw [LSL.out]; exact m20)
                                have SX := Lib.hid sx
                                clear sx hkm2 RLS SIk
                                by_cases hq : later < u - t
                                · obtain ⟨g, hg⟩ : ∃ g, u - t = g := ⟨_, rfl⟩
                                  have hqb : decide (later < u - t) = true := bt hq
                                  have g0 : 0 ≤ g := by omega
                                  have g1 : g ≤ 1099511627776 := by omega
                                  have gu : u ≤ t + g := by omega
                                  rw [hg] at hq hqb
                                  obtain ⟨T, hT⟩ : ∃ T, t + g = T := ⟨_, rfl⟩
                                  have H := LAW2.out t g (fun x hx => by obtain ⟨a1, a2, a3, a4⟩ := SX.out x hx; exact ⟨a1, a2, by omega, a4⟩)
                                  rw [hT] at H
                                  have HH := Lib.hid H
                                  have GRB := Gd.gr_bd g 100000 g0 g1 (by decide) (by decide)
                                  obtain ⟨gr0, gr1⟩ := GRB
                                  have GW := fun W => growthE_any g W g0 g1
                                  generalize Gd.gr g 100000 = gq2 at GW gr0 gr1 HH
                                  have T0 : 0 ≤ T := by omega
                                  clear H
                                  go_wp2_with fail
                                  refine (GW _).mono ?_
                                  rintro e w10 ⟨rfl, g10⟩
                                  have G10 : Aside (Gr w5 w10) := GZ.out.trans g10
                                  clear g10 GW
                                  go_wp2_with fail
                                  refine ((cloneCloneS_any (.slice A5 n1 C5) L _ (R6.out.gr G10.out) (by rw [LEH.out]; omega)).mono fun e w' h => rows_cloneS h).mono ?_
                                  rintro e w11 ⟨A11, C11, rfl, ⟨q11, c11⟩, g11⟩
                                  have G11 : Aside (Gr w5 w11) := G10.out.trans g11
                                  clear g11
                                  go_wp2_with fail
                                  refine (spread_any _ L T _ q11 (by rw [LEH.out]; omega) (by intro A m c he; simp only [Value.slice.injEq] at he; obtain ⟨_, rfl, rfl⟩ := he; exact c11)).mono ?_
                                  rintro e w12 ⟨rfl, g12⟩
                                  have G12 : Aside (Gr w5 w12) := G11.out.trans g12
                                  clear g12 q11
                                  by_cases hTm : T ≤ 1099511627776
                                  · have SE : Ru.sprE L T = 0 := by unfold Ru.sprE; rw [if_pos ⟨by rw [LEH.out]; omega, OL.out⟩, if_pos ⟨T0, hTm⟩]
                                    have SV : Ru.sprN L T = Ru.spr L T := if_pos ⟨by rw [LEH.out]; omega, OL.out, T0, hTm⟩
                                    rw [SE, SV]
                                    have d1 := DG.out (n1 - 1) (by omega)
                                    have d2 := DG.out (n1 - 2) (by omega)
                                    obtain ⟨e1, e2⟩ := DNB.out (n1 - 1) (by omega)
                                    obtain ⟨e3, e4⟩ := DNB.out (n1 - 2) (by omega)
                                    generalize Dp.dN p (n1 - 1) = D1 at d1 e1 e2 HH
                                    generalize Dp.dN p (n1 - 2) = D2 at d2 e3 e4 HH
                                    obtain ⟨pb0, pb1⟩ := Ru.prod_bd (D := D1 + D2) (g := 1 + gq2) (by omega) (by omega) (by omega) (by omega)
                                    obtain ⟨P, hP⟩ : ∃ P, (D1 + D2) * (1 + gq2) = P := ⟨_, rfl⟩
                                    have HP : Ru.spr L T ≤ P := by rw [← hP]; exact HH.out
                                    rw [hP] at pb0 pb1
                                    generalize Ru.spr L T = sv at HP
                                    rcases (QD6.out.gr G12.out) with ⟨h, _⟩ | ⟨bd', od, cd, hbd, hvd, hcd⟩
                                    · rw [h] at d1; simp at d1
                                    simp only [Value.slice.injEq] at hvd
                                    obtain ⟨rfl, -, rfl⟩ := hvd
                                    have k1 := hcd _ _ d1 0 _ rfl
                                    have k2 := hcd _ _ d2 0 _ rfl
                                    rw [Nat.mul_one, Nat.add_zero] at k1 k2
                                    have z11 : IntKind.i64.wrap ((n1 : Int) - 1) = ((n1 - 1 : Nat) : Int) := by rw [IntWalk.i64_in _ (by omega)]; omega
                                    have z12 : IntKind.i64.wrap ((n1 : Int) - 2) = ((n1 - 2 : Nat) : Int) := by rw [IntWalk.i64_in _ (by omega)]; omega
                                    have z13 : ((n1 - 1 : Nat) : Int) < (n1 : Int) := by omega
                                    have z14 : ((n1 - 2 : Nat) : Int) < (n1 : Int) := by omega
                                    have z15 : IntKind.i64.wrap (D1 + D2) = D1 + D2 := IntWalk.i64_in _ (by omega)
                                    clear hbd hcd d1 d2 SE SV
                                    go_wp2_with fail
                                    go_quiet (fail)
                                    clear z11 z12 k1 k2
                                    go_wp2_with fail
                                    go_ret
                                    exact ⟨by first | rfl | (exact ret_bool (by simp; omega)), by have hgg := G5.out.trans G12.out; repeat (first | (with_reducible exact Gr.refl _) | (with_reducible assumption) | (with_reducible refine Gr.alloc ?_ _) | (with_reducible refine Gr.drewN ?_ _) | (with_reducible refine Gr.drew ?_) | (with_reducible refine Gr.grown ?_ _ _) | (with_reducible refine Gr.regrown ?_ _ _) | (with_reducible refine Gr.setCell ?_ (by first | omega | (simp; omega) | simp) _) | (with_reducible refine Gr.trans ?_ (by with_reducible assumption)))⟩
                                  · have SE : Ru.sprE L T = 2 := by unfold Ru.sprE; rw [if_pos ⟨by rw [LEH.out]; omega, OL.out⟩, if_neg (fun k => hTm k.2)]
                                    rw [SE]
                                    have hTb : decide (1099511627776 < T) = true := bt (by omega)
                                    clear SE
                                    go_wp2_with fail
                                    go_ret
                                    exact ⟨by first | rfl | (exact ret_bool (by simp; omega)), G5.out.trans G12.out⟩
                                · obtain ⟨g, hg⟩ : ∃ g, later = g := ⟨_, rfl⟩
                                  have hqb : decide (later < u - t) = false := bf hq
                                  rw [hg] at hqb hq
                                  have g0 : 0 ≤ g := by omega
                                  have g1 : g ≤ 1099511627776 := by omega
                                  have gu : u ≤ t + g := by omega
                                  subst hg
                                  obtain ⟨T, hT⟩ : ∃ T, t + later = T := ⟨_, rfl⟩
                                  have H := LAW2.out t later (fun x hx => by obtain ⟨a1, a2, a3, a4⟩ := SX.out x hx; exact ⟨a1, a2, by omega, a4⟩)
                                  rw [hT] at H
                                  have HH := Lib.hid H
                                  have GRB := Gd.gr_bd later 100000 g0 g1 (by decide) (by decide)
                                  obtain ⟨gr0, gr1⟩ := GRB
                                  have GW := fun W => growthE_any later W g0 g1
                                  generalize Gd.gr later 100000 = gq2 at GW gr0 gr1 HH
                                  have T0 : 0 ≤ T := by omega
                                  clear H
                                  go_wp2_with fail
                                  refine (GW _).mono ?_
                                  rintro e w10 ⟨rfl, g10⟩
                                  have G10 : Aside (Gr w5 w10) := GZ.out.trans g10
                                  clear g10 GW
                                  go_wp2_with fail
                                  refine ((cloneCloneS_any (.slice A5 n1 C5) L _ (R6.out.gr G10.out) (by rw [LEH.out]; omega)).mono fun e w' h => rows_cloneS h).mono ?_
                                  rintro e w11 ⟨A11, C11, rfl, ⟨q11, c11⟩, g11⟩
                                  have G11 : Aside (Gr w5 w11) := G10.out.trans g11
                                  clear g11
                                  go_wp2_with fail
                                  refine (spread_any _ L T _ q11 (by rw [LEH.out]; omega) (by intro A m c he; simp only [Value.slice.injEq] at he; obtain ⟨_, rfl, rfl⟩ := he; exact c11)).mono ?_
                                  rintro e w12 ⟨rfl, g12⟩
                                  have G12 : Aside (Gr w5 w12) := G11.out.trans g12
                                  clear g12 q11
                                  by_cases hTm : T ≤ 1099511627776
                                  · have SE : Ru.sprE L T = 0 := by unfold Ru.sprE; rw [if_pos ⟨by rw [LEH.out]; omega, OL.out⟩, if_pos ⟨T0, hTm⟩]
                                    have SV : Ru.sprN L T = Ru.spr L T := if_pos ⟨by rw [LEH.out]; omega, OL.out, T0, hTm⟩
                                    rw [SE, SV]
                                    have d1 := DG.out (n1 - 1) (by omega)
                                    have d2 := DG.out (n1 - 2) (by omega)
                                    obtain ⟨e1, e2⟩ := DNB.out (n1 - 1) (by omega)
                                    obtain ⟨e3, e4⟩ := DNB.out (n1 - 2) (by omega)
                                    generalize Dp.dN p (n1 - 1) = D1 at d1 e1 e2 HH
                                    generalize Dp.dN p (n1 - 2) = D2 at d2 e3 e4 HH
                                    obtain ⟨pb0, pb1⟩ := Ru.prod_bd (D := D1 + D2) (g := 1 + gq2) (by omega) (by omega) (by omega) (by omega)
                                    obtain ⟨P, hP⟩ : ∃ P, (D1 + D2) * (1 + gq2) = P := ⟨_, rfl⟩
                                    have HP : Ru.spr L T ≤ P := by rw [← hP]; exact HH.out
                                    rw [hP] at pb0 pb1
                                    generalize Ru.spr L T = sv at HP
                                    rcases (QD6.out.gr G12.out) with ⟨h, _⟩ | ⟨bd', od, cd, hbd, hvd, hcd⟩
                                    · rw [h] at d1; simp at d1
                                    simp only [Value.slice.injEq] at hvd
                                    obtain ⟨rfl, -, rfl⟩ := hvd
                                    have k1 := hcd _ _ d1 0 _ rfl
                                    have k2 := hcd _ _ d2 0 _ rfl
                                    rw [Nat.mul_one, Nat.add_zero] at k1 k2
                                    have z11 : IntKind.i64.wrap ((n1 : Int) - 1) = ((n1 - 1 : Nat) : Int) := by rw [IntWalk.i64_in _ (by omega)]; omega
                                    have z12 : IntKind.i64.wrap ((n1 : Int) - 2) = ((n1 - 2 : Nat) : Int) := by rw [IntWalk.i64_in _ (by omega)]; omega
                                    have z13 : ((n1 - 1 : Nat) : Int) < (n1 : Int) := by omega
                                    have z14 : ((n1 - 2 : Nat) : Int) < (n1 : Int) := by omega
                                    have z15 : IntKind.i64.wrap (D1 + D2) = D1 + D2 := IntWalk.i64_in _ (by omega)
                                    clear hbd hcd d1 d2 SE SV
                                    go_wp2_with fail
                                    go_quiet (fail)
                                    clear z11 z12 k1 k2
                                    go_wp2_with fail
                                    go_ret
                                    exact ⟨by first | rfl | (exact ret_bool (by simp; omega)), by have hgg := G5.out.trans G12.out; repeat (first | (with_reducible exact Gr.refl _) | (with_reducible assumption) | (with_reducible refine Gr.alloc ?_ _) | (with_reducible refine Gr.drewN ?_ _) | (with_reducible refine Gr.drew ?_) | (with_reducible refine Gr.grown ?_ _ _) | (with_reducible refine Gr.regrown ?_ _ _) | (with_reducible refine Gr.setCell ?_ (by first | omega | (simp; omega) | simp) _) | (with_reducible refine Gr.trans ?_ (by with_reducible assumption)))⟩
                                  · have SE : Ru.sprE L T = 2 := by unfold Ru.sprE; rw [if_pos ⟨by rw [LEH.out]; omega, OL.out⟩, if_neg (fun k => hTm k.2)]
                                    rw [SE]
                                    have hTb : decide (1099511627776 < T) = true := bt (by omega)
                                    clear SE
                                    go_wp2_with fail
                                    go_ret
                                    exact ⟨by first | rfl | (exact ret_bool (by simp; omega)), G5.out.trans G12.out⟩
                          · have hb : (re != 0) = true := by simpa using hre
                            go_wp2_with fail
                            go_ret
                            exact ⟨rfl, G5.out⟩
                · rw [(Dp.d_no hD).1]
                  rw [(Dp.d_no hD).2] at qD
                  obtain ⟨AD, CD, rfl⟩ := qD.slice
                  rw [show ([] : List Int).length = 0 from rfl]
                  clear qD hD
                  go_wp2_with fail
                  go_ret
                  exact ⟨rfl, G3.out⟩
end Go.Proofs.Ytjiaemmhjkhdhaa.timesyncSpreads
