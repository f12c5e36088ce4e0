/- The walk of AllocatePasses: the Go text returns true. -/
import Derived.Test.YtkhanjhjcfhhiaaAlcAwake
import Derived.Test.YtkhanjhjcfhhiaaAlcF
import Derived.Test.YtkhanjhjcfhhiaaAlcEq
import Derived.Test.YtkhanjhjcfhhiaaAlcPs
import Derived.Test.YtkhanjhjcfhhiaaAlcLong
import Derived.Test.YtkhanjhjcfhhiaaAlcOk
import Derived.Laws.BitsAllLaws
namespace Go.Proofs.Ytkhanjhjcfhhiaa
/-- a pass: three bytes -/
structure Ps where
  a : Int
  b : Int
  c : Int
  deriving Inhabited
abbrev encPs (x : Ps) : List Value := [.int .u8 x.a, .int .u8 x.b, .int .u8 x.c]
theorem encPs_len (x : Ps) : (encPs x).length = 3 := rfl
def okPs (x : Ps) : Prop := (0 ≤ x.a ∧ x.a ≤ 255) ∧ (0 ≤ x.b ∧ x.b ≤ 255) ∧ (0 ≤ x.c ∧ x.c ≤ 255)
theorem wf_u8 {n : Int} (h : (Lit.int .u8 n).wf = true) : 0 ≤ n ∧ n ≤ 255 := by
  simp only [Lit.wf, decide_eq_true_eq, Bool.and_eq_true] at h
  have m1 : IntKind.u8.min = 0 := by decide
  have m2 : IntKind.u8.max = 255 := by decide
  omega
theorem openPs (cs : List Value) (h : Leaf.All [some .u8, some .u8, some .u8] cs) : ∃ x, cs = encPs x ∧ okPs x := by
  obtain ⟨a, u, rfl, ha, h⟩ := h.int
  obtain ⟨b, u, rfl, hb, h⟩ := h.int
  obtain ⟨c, u, rfl, hc, h⟩ := h.int
  obtain rfl := h.nil
  exact ⟨⟨a, b, c⟩, rfl, wf_u8 ha, wf_u8 hb, wf_u8 hc⟩
theorem and_bit {b c : Nat} (h : (b &&& c) &&& 1 = 1) : b &&& 1 = 1 := by
  rw [Nat.and_one_is_mod] at h ⊢
  have h0 : (b &&& c).testBit 0 = true := by rw [Nat.testBit_zero]; simpa using h
  rw [Nat.testBit_and, Bool.and_eq_true, Nat.testBit_zero] at h0
  simpa using h0.1
/-- what worked was used -/
theorem bits_imp {b c : Int} (b0 : 0 ≤ b) (b1 : b ≤ 255) (c0 : 0 ≤ c) (c1 : c ≤ 255) : ((bits BinOp.and IntKind.u8 (bits BinOp.and IntKind.u8 b c) 1 == 1) && !(bits BinOp.and IntKind.u8 b 1 == 1)) = false := by
  have e1 := u8_and b c b0 (by omega) c0 (by omega)
  have hl : b.toNat &&& c.toNat ≤ b.toNat := Nat.and_le_left
  have e2 := u8_and (((b.toNat &&& c.toNat : Nat)) : Int) 1 (by omega) (by omega) (by decide) (by decide)
  have e3 := u8_and b 1 b0 (by omega) (by decide) (by decide)
  rw [e1, e2, e3]
  simp only [Int.toNat_natCast]
  cases h : ((((b.toNat &&& c.toNat) &&& (1 : Int).toNat : Nat) : Int) == 1) with
  | false => rfl
  | true =>
    have h1 : (b.toNat &&& c.toNat) &&& 1 = 1 := by
      have : ((((b.toNat &&& c.toNat) &&& (1 : Int).toNat : Nat) : Int)) = 1 := by simpa using h
      have q : (1 : Int).toNat = 1 := rfl
      rw [q] at this
      omega
    have h2 := and_bit h1
    have q : (1 : Int).toNat = 1 := rfl
    rw [q, h2]
    rfl
open Go.RowKit Go.Sort in
set_option maxHeartbeats 400000 in
theorem passes1_any (x : Us) (a : Int) (a0 : 0 ≤ a) (a1 : a ≤ 255) (C : Nat) (w : World) (cC : w.cell? ⟨C, 0, none⟩ = some (.int .u8 a)) :
    Calls Try.prog 34 #[.agg #[.int .i64 x.c.s, .int .i64 x.c.o, .int .i64 x.c.k, .bool x.c.b, .int .i64 x.c.p, .int .i64 x.c.f, .int .i64 x.pa, .int .i64 x.us, .int .i64 x.wo], .pointer (some ⟨C, 0, none⟩)] w fun e w' => e = .returned (.bool (Al.atSlot a x)) ∧ Gr w w' := by
  have hC := block_lt_of_cell cC
  go_enter Try.func34, Try.ntmps34
  go_wp2_with fail
  go_ret
  exact ⟨rfl, by repeat (first | (with_reducible exact Gr.refl _) | (with_reducible assumption) | (with_reducible refine Gr.alloc ?_ _) | (with_reducible refine Gr.drewN ?_ _) | (with_reducible refine Gr.drew ?_) | (with_reducible refine Gr.grown ?_ _ _) | (with_reducible refine Gr.regrown ?_ _ _) | (with_reducible refine Gr.setCell ?_ (by first | omega | (simp; omega) | simp) _) | (with_reducible refine Gr.trans ?_ (by with_reducible assumption)))⟩
end Go.Proofs.Ytkhanjhjcfhhiaa
namespace Go.Proofs.Ytkhanjhjcfhhiaa.allocatePasses
open Go.RowKit Go.Sort
set_option linter.unusedVariables false

set_option maxHeartbeats 8000000 in
set_option maxRecDepth 100000 in
theorem walk (v0 : Value) (l : List Us) (v1 : Value) (ps : List Ps) (w : World) (rl : Rows 9 encU w v0 l) (bl : (l.length : Int) ≤ 9223372036854775807) (kl : ∀ A n c, v0 = .slice A n c → n ≤ c ∧ c ≤ 9223372036854775807) (wl : ∀ x ∈ l, okUs x) (rp : Rows 3 encPs w v1 ps) (bp : (ps.length : Int) ≤ 9223372036854775807) (kp : ∀ A n c, v1 = .slice A n c → n ≤ c ∧ c ≤ 9223372036854775807) (wp : ∀ x ∈ ps, okPs x) :
    Calls Try.prog 9 #[v0, v1] w fun e w' => e = .returned (.bool true) ∧ Gr w w' := by
  obtain ⟨A, c, rfl⟩ := rl.slice
  obtain ⟨A1, c1, rfl⟩ := rp.slice
  have HR := Lib.hid rl
  have HP := Lib.hid rp
  have WP := Lib.hid wp
  clear kl wl kp wp
  by_cases hn : l.length ≤ 70
  · have bb : (l.length : Int) ≤ 4611686018427387904 := by omega
    have hf : decide ((l.length : Int) ≤ 70) = true := bt (by omega)
    by_cases hm : ps.length ≤ 100
    · have hz : decide ((100 : Int) < (ps.length : Int)) = false := bf (by omega)
      rcases Al.chk_cases l with hc | hc
      · have HC := Lib.hid hc
        have C1 := fun W g => check_any _ l W (HR.out.gr (w := W) g) bb
        rw [hc] at C1
        have C1' := Lib.hid C1
        obtain ⟨m, hmm⟩ : ∃ m, ps.length = m := ⟨_, rfl⟩
        have HM := Lib.hid hmm
        have HLN := Lib.hid hn
        rw [hmm] at hm hz bp ⊢
        obtain ⟨n, hnn⟩ : ∃ n, l.length = n := ⟨_, rfl⟩
        have HN := Lib.hid hnn
        rw [hnn] at hf bl ⊢
        have PC : Aside (m = 0 ∨ ∃ b off, A1 = some ⟨b, off, none⟩ ∧ b < w.heap.size ∧ ∀ i x, ps[i]? = some x → ∀ j u, (encPs x)[j]? = some u → w.cell? ⟨b, off + i * 3 + j, none⟩ = some u) := by
          rcases rp with ⟨rfl, _⟩ | ⟨b, off, c', hb, hv, hc⟩
          · left; simpa using hmm.symm
          · simp only [Value.slice.injEq] at hv
            exact .inr ⟨b, off, hv.1, hb, hc⟩
        clear hc C1 rl rp hmm hnn hn bb
        rw [HN.out] at C1'
        go_enter Try.func9, Try.ntmps9
        go_wp2_with fail
        refine (awake_any _).mono ?_
        rintro e w1 ⟨rfl, g1⟩
        have G1 : Aside (Gr w w1) := g1
        clear g1
        go_wp2_with fail
        refine (few_any _ _ _ _).mono ?_
        rintro e w' ⟨rfl, rfl⟩
        go_wp2_with fail
        refine (C1'.out _ G1.out).mono ?_
        rintro e w2 ⟨rfl, g2⟩
        have G2 : Aside (Gr w w2) := G1.out.trans g2
        clear g2
        go_wp2_with fail
        go_loopg [0, 4, 6, 7, 8, 9, 10, 11, 12, 13, 31] m (fun gg s0 _ _ _ _ _ _ _ _ _ s31 wr => ∃ kk : Nat, ∃ L : List Us, ∃ A' c', kk ≤ m ∧ m - kk ≤ gg ∧ s31 = .int .i64 (kk : Int) ∧ s0 = .slice A' n c' ∧ Aside (Gr w wr) ∧ Aside (Rows 9 encU wr (.slice A' n c') L) ∧ Aside (L.length = n) ∧ Aside (Al.chk L = 0))
        case atStart => exact ⟨0, l, A, c, Nat.zero_le _, by omega, rfl, rfl, G2.out, (show Rows _ _ _ _ _ by have := HR.out.gr G2.out; rw [HN.out] at this; exact this), HN.out, HC.out⟩
        case round =>
          obtain ⟨kk, L, A', c', hkk, hgg, rfl, rfl, G, RL, EL, CL⟩ := hrel
          by_cases hlt : kk < m
          · have hltz : (kk : Int) < (m : Int) := by omega
            obtain ⟨p, hp⟩ : ∃ p, ps[kk]? = some p := ⟨_, List.getElem?_eq_getElem (by rw [HM.out]; exact hlt)⟩
            rcases PC.out with h0 | ⟨b, off, rfl, hb, hU⟩
            · omega
            have l0 := (G.out.cell (p := ⟨b, off + kk * 3 + 0, none⟩) hb).trans (hU kk p hp 0 _ rfl)
            have l1 := (G.out.cell (p := ⟨b, off + kk * 3 + 1, none⟩) hb).trans (hU kk p hp 1 _ rfl)
            have l2 := (G.out.cell (p := ⟨b, off + kk * 3 + 2, none⟩) hb).trans (hU kk p hp 2 _ rfl)
            simp only [Nat.add_zero] at l0
            obtain ⟨⟨p0, p1⟩, ⟨p2, p3⟩, ⟨p4, p5⟩⟩ := WP.out p (List.mem_of_getElem? hp)
            have hbr := block_lt_of_cell l0
            clear hU hp hb
            go_wp2_with fail
            go_quiet (fail)
            go_wp2_with fail
            generalize hUU : (bits BinOp.and IntKind.u8 p.b 1 == 1) = U
            generalize hWW : (bits BinOp.and IntKind.u8 (bits BinOp.and IntKind.u8 p.b p.c) 1 == 1) = W
            have HUW : Hid ((W && !U) = false) := (show _ = _ by rw [← hUU, ← hWW]; exact bits_imp p2 p3 p4 p5)
            generalize hW1 : (wr.alloc (Obj.cells #[.int .u8 p.a, .int .u8 p.b, .int .u8 p.c] 53)).drewN nq = W1
            have G1x : Aside (Gr w W1) := by rw [← hW1]; exact (G.out.alloc _).drewN _
            have K1 : Aside (W1.cell? ⟨wr.heap.size, 0, none⟩ = some (.int .u8 p.a)) := by rw [← hW1]; show _ = _; rw [show ((wr.alloc (Obj.cells #[.int .u8 p.a, .int .u8 p.b, .int .u8 p.c] 53)).drewN nq).cell? ⟨wr.heap.size, 0, none⟩ = (wr.alloc (Obj.cells #[.int .u8 p.a, .int .u8 p.b, .int .u8 p.c] 53)).cell? ⟨wr.heap.size, 0, none⟩ from rfl]; go_simp
            have RL1 : Aside (Rows 9 encU W1 (.slice A' n c') L) := by rw [← hW1]; exact RL.out.gr ((Gr.alloc (Gr.refl _) _).drewN _)
            clear hW1 hUU hWW l0 l1 l2 hbr p2 p3 p4 p5 RL
            have n70 : n ≤ 70 := by have := HLN.out; rw [HN.out] at this; exact this
            have IX := indexU_any 34 #[.pointer (some ⟨wr.heap.size, 0, none⟩)] (Al.atSlot p.a) (.slice A' n c') L W1 RL1.out (by rw [EL.out]; omega) (enters_of Try.func34 (by kernel_rfl) rfl) (fun W2 i x g2 hi => passes1_any x p.a p0 p1 wr.heap.size W2 (held_keep g2 K1.out))
            have PS := fun W2 g2 => pass_any (.slice A' n c') L p.a U W W2 (RL1.out.gr (w := W2) g2) (by rw [EL.out]; omega)
            rcases pas_cases L p.a with ⟨ha, hix⟩ | ⟨k, x, hx, hs, ha, hix⟩
            · have R := Al.pas_not (u := U) (w := W) CL.out ha
              rw [R.1] at PS
              have PS' := Lib.hid PS
              rw [hix] at IX
              clear R PS hix ha
              refine IX.mono ?_
              rintro e w3 ⟨rfl, g3⟩
              have G3 : Aside (Gr w w3) := G1x.out.trans g3
              have GX : Aside (Gr W1 w3) := g3
              have k3 := held_keep g3 K1.out
              have hz3 := block_lt_of_cell k3
              clear g3 IX
              go_wp2_with fail
              refine (PS'.out _ GX.out).mono ?_
              rintro e w4 ⟨vn, rfl, rn, g4⟩
              have G4 : Aside (Gr w w4) := G3.out.trans g4
              have GX4 : Aside (Gr W1 w4) := GX.out.trans g4
              clear g4 rn k3 hz3
              go_wp2_with fail
              go_roundg (m - (kk + 1))
              case measure => omega
              case rel => exact ⟨kk + 1, L, A', c', by omega, by omega, by go_num, rfl, G4.out, (show Rows _ _ _ _ _ from RL1.out.gr GX4.out), EL.out, CL.out⟩
            · have R := Al.pas_ok CL.out hx hs HUW.out
              have nm := Al.chk_num CL.out hx
              have CK2 : Aside (Al.chk (L.set k (Al.bump x U W)) = 0) := Al.chk_set CL.out hx (Al.bump_c _ _ _) (Al.bump_ok nm HUW.out)
              rw [R.1, R.2] at PS
              have PS' := Lib.hid PS
              rw [hix] at IX
              have HX := Lib.hid hx
              have hk : k < n := by rw [← EL.out]; exact (List.getElem?_eq_some_iff.1 hx).1
              have HKL : Hid (k < L.length) := (show _ < _ by rw [EL.out]; exact hk)
              have i1 : decide ((k : Int) < 0) = false := bf (by omega)
              have i2 : (k : Int) < (n : Int) := by omega
              obtain ⟨xc, pa, us, wo⟩ := x
              unfold Al.okN at nm
              dsimp only at nm hs
              obtain ⟨-, -, ⟨n1, n2⟩, ⟨n3, n4⟩, ⟨n5, n6⟩⟩ := nm
              have n4' : us ≤ 64 := by omega
              have n6' : wo ≤ 64 := by omega
              have eqn := fun W (a b : Us) => neq_us W a b
              clear R PS hix ha hx hs n4 n6
              refine IX.mono ?_
              rintro e w3 ⟨rfl, g3⟩
              have G3 : Aside (Gr w w3) := G1x.out.trans g3
              have GX3 : Aside (Gr W1 w3) := g3
              have k3 := held_keep g3 K1.out
              have hz3 := block_lt_of_cell k3
              clear g3 IX
              go_wp2_with fail
              refine (PS'.out _ GX3.out).mono ?_
              rintro e w4 ⟨vn, rfl, rn, g4⟩
              have G4 : Aside (Gr w w4) := G3.out.trans g4
              have GX4 : Aside (Gr W1 w4) := GX3.out.trans g4
              obtain ⟨A2, c2, rfl⟩ := rn.slice
              rw [List.length_set, EL.out] at rn ⊢
              have RN := Lib.hid rn
              clear g4 rn k3 hz3
              go_wp2_with fail
              refine (check_any _ _ _ RN.out (by rw [List.length_set, EL.out]; omega)).mono ?_
              rw [CK2.out]
              rintro e w5 ⟨rfl, g5⟩
              have G5 : Aside (Gr w w5) := G4.out.trans g5
              have GX : Aside (Gr W1 w5) := GX4.out.trans g5
              have R2 : Aside (Rows 9 encU w5 (.slice A2 n c2) (L.set k (Al.bump ⟨xc, pa, us, wo⟩ U W))) := RN.out.gr g5
              clear g5 RN
              have US1 := RL1.out.usl
              have US2 := R2.out.usl
              rcases US1 with h0 | ⟨b1, o1, ⟨c1', hv1⟩, hb1, hU1⟩
              · rw [EL.out] at h0; omega
              rcases US2 with h0 | ⟨b2, o2, ⟨c2', hv2⟩, hb2, hU2⟩
              · rw [List.length_set, EL.out] at h0; omega
              simp only [Value.slice.injEq] at hv1 hv2
              obtain ⟨rfl, -, rfl⟩ := hv1
              obtain ⟨rfl, -, rfl⟩ := hv2
              have UU1 := Lib.hid hU1
              have UU2 := Lib.hid hU2
              clear hb1 hb2 hU1 hU2
              go_wp2_with fail
              go_loopg [4, 12, 79] n (fun gg _ _ s79 wz => ∃ jj : Nat, jj ≤ n ∧ n - jj ≤ gg ∧ s79 = .int .i64 (jj : Int) ∧ Aside (Gr w5 wz))
              case atStart => exact ⟨0, Nat.zero_le _, by omega, rfl, Gr.refl _⟩
              case round =>
                obtain ⟨jj, hjj, hgj, rfl, GI⟩ := hrel
                have GE : Aside (Gr w wr) := G5.out.trans GI.out
                by_cases hlj : jj < n
                · have hljz : (jj : Int) < (n : Int) := by omega
                  by_cases hjk : jj = k
                  · subst hjk
                    have e0 : ((jj : Int) != (jj : Int)) = false := by simp
                    go_wp2_with fail
                    go_quiet (fail)
                    go_wp2_with fail
                    go_roundg (n - (jj + 1))
                    case measure => omega
                    case rel => exact ⟨jj + 1, by omega, by omega, by go_num, (show Gr _ _ from GI.out.drewN _)⟩
                  · have e0 : ((jj : Int) != (k : Int)) = true := by simp; omega
                    obtain ⟨z, hz⟩ : ∃ z, L[jj]? = some z := ⟨_, List.getElem?_eq_getElem (by rw [EL.out]; exact hlj)⟩
                    have hz2 : (L.set k (Al.bump ⟨xc, pa, us, wo⟩ U W))[jj]? = some z := by rw [List.getElem?_set, if_neg (fun q => hjk q.symm)]; exact hz
                    have q0 := ((UU2.out jj _ hz2).gr GI.out) 0 _ rfl; have q1 := ((UU2.out jj _ hz2).gr GI.out) 1 _ rfl; have q2 := ((UU2.out jj _ hz2).gr GI.out) 2 _ rfl; have q3 := ((UU2.out jj _ hz2).gr GI.out) 3 _ rfl; have q4 := ((UU2.out jj _ hz2).gr GI.out) 4 _ rfl; have q5 := ((UU2.out jj _ hz2).gr GI.out) 5 _ rfl; have q6 := ((UU2.out jj _ hz2).gr GI.out) 6 _ rfl; have q7 := ((UU2.out jj _ hz2).gr GI.out) 7 _ rfl; have q8 := ((UU2.out jj _ hz2).gr GI.out) 8 _ rfl; (try simp only [Nat.add_zero] at q0); (try simp only [Nat.zero_add] at q0 q1 q2 q3 q4 q5 q6 q7 q8)
                    have t0 := ((UU1.out jj _ hz).gr (GX.out.trans GI.out)) 0 _ rfl; have t1 := ((UU1.out jj _ hz).gr (GX.out.trans GI.out)) 1 _ rfl; have t2 := ((UU1.out jj _ hz).gr (GX.out.trans GI.out)) 2 _ rfl; have t3 := ((UU1.out jj _ hz).gr (GX.out.trans GI.out)) 3 _ rfl; have t4 := ((UU1.out jj _ hz).gr (GX.out.trans GI.out)) 4 _ rfl; have t5 := ((UU1.out jj _ hz).gr (GX.out.trans GI.out)) 5 _ rfl; have t6 := ((UU1.out jj _ hz).gr (GX.out.trans GI.out)) 6 _ rfl; have t7 := ((UU1.out jj _ hz).gr (GX.out.trans GI.out)) 7 _ rfl; have t8 := ((UU1.out jj _ hz).gr (GX.out.trans GI.out)) 8 _ rfl; (try simp only [Nat.add_zero] at t0); (try simp only [Nat.zero_add] at t0 t1 t2 t3 t4 t5 t6 t7 t8)
                    have heq : ∀ W, (binOp .neq 39 (.agg (encU z).toArray) (.agg (encU z).toArray)).run Try.prog W = .ok (.bool false) W := fun W => by rw [neq_us]; simp
                    clear hz hz2 eqn hjk
                    go_wp2_with fail
                    go_quiet (fail)
                    go_wp2_with fail
                    go_roundg (n - (jj + 1))
                    case measure => omega
                    case rel => exact ⟨jj + 1, by omega, by omega, by go_num, (show Gr _ _ from GI.out.drewN _)⟩
                · have hljz : ¬ (jj : Int) < (n : Int) := by omega
                  have hU1 := UU1.out
                  have hU2 := UU2.out
                  by_cases hlt64 : pa < 64
                  · have hne : ¬ pa = 64 := by omega
                    cases U <;> cases W
                    · have BU : Hid (Al.bump ⟨xc, pa, us, wo⟩ false false = ⟨xc, pa + 1, us, wo⟩) := (show _ = _ by unfold Al.bump; simp [hne])
                      have HZ2 : Hid ((L.set k (Al.bump ⟨xc, pa, us, wo⟩ false false))[k]? = some ⟨xc, pa + 1, us, wo⟩) := (show _ = _ by rw [BU.out, List.getElem?_set, if_pos rfl, if_pos HKL.out])
                      have q0 := ((hU2 k _ HZ2.out).gr GI.out) 0 _ rfl; have q1 := ((hU2 k _ HZ2.out).gr GI.out) 1 _ rfl; have q2 := ((hU2 k _ HZ2.out).gr GI.out) 2 _ rfl; have q3 := ((hU2 k _ HZ2.out).gr GI.out) 3 _ rfl; have q4 := ((hU2 k _ HZ2.out).gr GI.out) 4 _ rfl; have q5 := ((hU2 k _ HZ2.out).gr GI.out) 5 _ rfl; have q6 := ((hU2 k _ HZ2.out).gr GI.out) 6 _ rfl; have q7 := ((hU2 k _ HZ2.out).gr GI.out) 7 _ rfl; have q8 := ((hU2 k _ HZ2.out).gr GI.out) 8 _ rfl; (try simp only [Nat.add_zero] at q0); (try dsimp only at q0 q1 q2 q3 q4 q5 q6 q7 q8)
                      have t0 := ((hU1 k _ HX.out).gr (GX.out.trans GI.out)) 0 _ rfl; have t1 := ((hU1 k _ HX.out).gr (GX.out.trans GI.out)) 1 _ rfl; have t2 := ((hU1 k _ HX.out).gr (GX.out.trans GI.out)) 2 _ rfl; have t3 := ((hU1 k _ HX.out).gr (GX.out.trans GI.out)) 3 _ rfl; have t4 := ((hU1 k _ HX.out).gr (GX.out.trans GI.out)) 4 _ rfl; have t5 := ((hU1 k _ HX.out).gr (GX.out.trans GI.out)) 5 _ rfl; have t6 := ((hU1 k _ HX.out).gr (GX.out.trans GI.out)) 6 _ rfl; have t7 := ((hU1 k _ HX.out).gr (GX.out.trans GI.out)) 7 _ rfl; have t8 := ((hU1 k _ HX.out).gr (GX.out.trans GI.out)) 8 _ rfl; (try simp only [Nat.add_zero] at t0); (try dsimp only at t0 t1 t2 t3 t4 t5 t6 t7 t8)
                      have hbq := block_lt_of_cell q0
                      have hbt := block_lt_of_cell t0
                      have heq : ∀ W, (binOp .neq 39 (.agg (encU ⟨xc, pa + 1, us, wo⟩).toArray) (.agg (encU ⟨xc, pa + 1, us, wo⟩).toArray)).run Try.prog W = .ok (.bool false) W := fun W => by rw [neq_us]; simp
                      clear hne
                      clear BU eqn
                      go_wp2_with fail
                      go_quiet (fail)
                      go_wp2_with fail
                      go_roundg (m - (kk + 1))
                      case measure => omega
                      case rel => exact ⟨kk + 1, _, _, _, by omega, by omega, by go_num, rfl, (show Gr _ _ from by have hgg := GE.out; repeat (first | (with_reducible exact Gr.refl _) | (with_reducible assumption) | (with_reducible refine Gr.alloc ?_ _) | (with_reducible refine Gr.drewN ?_ _) | (with_reducible refine Gr.drew ?_) | (with_reducible refine Gr.grown ?_ _ _) | (with_reducible refine Gr.regrown ?_ _ _) | (with_reducible refine Gr.setCell ?_ (by first | omega | (simp; omega) | simp) _) | (with_reducible refine Gr.trans ?_ (by with_reducible assumption)))), (show Rows _ _ _ _ _ from R2.out.gr (by have hgg := GI.out; repeat (first | (with_reducible exact Gr.refl _) | (with_reducible assumption) | (with_reducible refine Gr.alloc ?_ _) | (with_reducible refine Gr.drewN ?_ _) | (with_reducible refine Gr.drew ?_) | (with_reducible refine Gr.grown ?_ _ _) | (with_reducible refine Gr.regrown ?_ _ _) | (with_reducible refine Gr.setCell ?_ (by first | omega | (simp; omega) | simp) _) | (with_reducible refine Gr.trans ?_ (by with_reducible assumption))))), (show _ = _ by rw [List.length_set]; exact EL.out), CK2.out⟩
                    · exact absurd HUW.out (by decide)
                    · have BU : Hid (Al.bump ⟨xc, pa, us, wo⟩ true false = ⟨xc, pa + 1, us + 1, wo⟩) := (show _ = _ by unfold Al.bump; simp [hne])
                      have HZ2 : Hid ((L.set k (Al.bump ⟨xc, pa, us, wo⟩ true false))[k]? = some ⟨xc, pa + 1, us + 1, wo⟩) := (show _ = _ by rw [BU.out, List.getElem?_set, if_pos rfl, if_pos HKL.out])
                      have q0 := ((hU2 k _ HZ2.out).gr GI.out) 0 _ rfl; have q1 := ((hU2 k _ HZ2.out).gr GI.out) 1 _ rfl; have q2 := ((hU2 k _ HZ2.out).gr GI.out) 2 _ rfl; have q3 := ((hU2 k _ HZ2.out).gr GI.out) 3 _ rfl; have q4 := ((hU2 k _ HZ2.out).gr GI.out) 4 _ rfl; have q5 := ((hU2 k _ HZ2.out).gr GI.out) 5 _ rfl; have q6 := ((hU2 k _ HZ2.out).gr GI.out) 6 _ rfl; have q7 := ((hU2 k _ HZ2.out).gr GI.out) 7 _ rfl; have q8 := ((hU2 k _ HZ2.out).gr GI.out) 8 _ rfl; (try simp only [Nat.add_zero] at q0); (try dsimp only at q0 q1 q2 q3 q4 q5 q6 q7 q8)
                      have t0 := ((hU1 k _ HX.out).gr (GX.out.trans GI.out)) 0 _ rfl; have t1 := ((hU1 k _ HX.out).gr (GX.out.trans GI.out)) 1 _ rfl; have t2 := ((hU1 k _ HX.out).gr (GX.out.trans GI.out)) 2 _ rfl; have t3 := ((hU1 k _ HX.out).gr (GX.out.trans GI.out)) 3 _ rfl; have t4 := ((hU1 k _ HX.out).gr (GX.out.trans GI.out)) 4 _ rfl; have t5 := ((hU1 k _ HX.out).gr (GX.out.trans GI.out)) 5 _ rfl; have t6 := ((hU1 k _ HX.out).gr (GX.out.trans GI.out)) 6 _ rfl; have t7 := ((hU1 k _ HX.out).gr (GX.out.trans GI.out)) 7 _ rfl; have t8 := ((hU1 k _ HX.out).gr (GX.out.trans GI.out)) 8 _ rfl; (try simp only [Nat.add_zero] at t0); (try dsimp only at t0 t1 t2 t3 t4 t5 t6 t7 t8)
                      have hbq := block_lt_of_cell q0
                      have hbt := block_lt_of_cell t0
                      have heq : ∀ W, (binOp .neq 39 (.agg (encU ⟨xc, pa + 1, us + 1, wo⟩).toArray) (.agg (encU ⟨xc, pa + 1, us + 1, wo⟩).toArray)).run Try.prog W = .ok (.bool false) W := fun W => by rw [neq_us]; simp
                      clear hne
                      clear BU eqn
                      go_wp2_with fail
                      go_quiet (fail)
                      go_wp2_with fail
                      go_roundg (m - (kk + 1))
                      case measure => omega
                      case rel => exact ⟨kk + 1, _, _, _, by omega, by omega, by go_num, rfl, (show Gr _ _ from by have hgg := GE.out; repeat (first | (with_reducible exact Gr.refl _) | (with_reducible assumption) | (with_reducible refine Gr.alloc ?_ _) | (with_reducible refine Gr.drewN ?_ _) | (with_reducible refine Gr.drew ?_) | (with_reducible refine Gr.grown ?_ _ _) | (with_reducible refine Gr.regrown ?_ _ _) | (with_reducible refine Gr.setCell ?_ (by first | omega | (simp; omega) | simp) _) | (with_reducible refine Gr.trans ?_ (by with_reducible assumption)))), (show Rows _ _ _ _ _ from R2.out.gr (by have hgg := GI.out; repeat (first | (with_reducible exact Gr.refl _) | (with_reducible assumption) | (with_reducible refine Gr.alloc ?_ _) | (with_reducible refine Gr.drewN ?_ _) | (with_reducible refine Gr.drew ?_) | (with_reducible refine Gr.grown ?_ _ _) | (with_reducible refine Gr.regrown ?_ _ _) | (with_reducible refine Gr.setCell ?_ (by first | omega | (simp; omega) | simp) _) | (with_reducible refine Gr.trans ?_ (by with_reducible assumption))))), (show _ = _ by rw [List.length_set]; exact EL.out), CK2.out⟩
                    · have BU : Hid (Al.bump ⟨xc, pa, us, wo⟩ true true = ⟨xc, pa + 1, us + 1, wo + 1⟩) := (show _ = _ by unfold Al.bump; simp [hne])
                      have HZ2 : Hid ((L.set k (Al.bump ⟨xc, pa, us, wo⟩ true true))[k]? = some ⟨xc, pa + 1, us + 1, wo + 1⟩) := (show _ = _ by rw [BU.out, List.getElem?_set, if_pos rfl, if_pos HKL.out])
                      have q0 := ((hU2 k _ HZ2.out).gr GI.out) 0 _ rfl; have q1 := ((hU2 k _ HZ2.out).gr GI.out) 1 _ rfl; have q2 := ((hU2 k _ HZ2.out).gr GI.out) 2 _ rfl; have q3 := ((hU2 k _ HZ2.out).gr GI.out) 3 _ rfl; have q4 := ((hU2 k _ HZ2.out).gr GI.out) 4 _ rfl; have q5 := ((hU2 k _ HZ2.out).gr GI.out) 5 _ rfl; have q6 := ((hU2 k _ HZ2.out).gr GI.out) 6 _ rfl; have q7 := ((hU2 k _ HZ2.out).gr GI.out) 7 _ rfl; have q8 := ((hU2 k _ HZ2.out).gr GI.out) 8 _ rfl; (try simp only [Nat.add_zero] at q0); (try dsimp only at q0 q1 q2 q3 q4 q5 q6 q7 q8)
                      have t0 := ((hU1 k _ HX.out).gr (GX.out.trans GI.out)) 0 _ rfl; have t1 := ((hU1 k _ HX.out).gr (GX.out.trans GI.out)) 1 _ rfl; have t2 := ((hU1 k _ HX.out).gr (GX.out.trans GI.out)) 2 _ rfl; have t3 := ((hU1 k _ HX.out).gr (GX.out.trans GI.out)) 3 _ rfl; have t4 := ((hU1 k _ HX.out).gr (GX.out.trans GI.out)) 4 _ rfl; have t5 := ((hU1 k _ HX.out).gr (GX.out.trans GI.out)) 5 _ rfl; have t6 := ((hU1 k _ HX.out).gr (GX.out.trans GI.out)) 6 _ rfl; have t7 := ((hU1 k _ HX.out).gr (GX.out.trans GI.out)) 7 _ rfl; have t8 := ((hU1 k _ HX.out).gr (GX.out.trans GI.out)) 8 _ rfl; (try simp only [Nat.add_zero] at t0); (try dsimp only at t0 t1 t2 t3 t4 t5 t6 t7 t8)
                      have hbq := block_lt_of_cell q0
                      have hbt := block_lt_of_cell t0
                      have heq : ∀ W, (binOp .neq 39 (.agg (encU ⟨xc, pa + 1, us + 1, wo + 1⟩).toArray) (.agg (encU ⟨xc, pa + 1, us + 1, wo + 1⟩).toArray)).run Try.prog W = .ok (.bool false) W := fun W => by rw [neq_us]; simp
                      clear hne
                      clear BU eqn
                      go_wp2_with fail
                      go_quiet (fail)
                      go_wp2_with fail
                      go_roundg (m - (kk + 1))
                      case measure => omega
                      case rel => exact ⟨kk + 1, _, _, _, by omega, by omega, by go_num, rfl, (show Gr _ _ from by have hgg := GE.out; repeat (first | (with_reducible exact Gr.refl _) | (with_reducible assumption) | (with_reducible refine Gr.alloc ?_ _) | (with_reducible refine Gr.drewN ?_ _) | (with_reducible refine Gr.drew ?_) | (with_reducible refine Gr.grown ?_ _ _) | (with_reducible refine Gr.regrown ?_ _ _) | (with_reducible refine Gr.setCell ?_ (by first | omega | (simp; omega) | simp) _) | (with_reducible refine Gr.trans ?_ (by with_reducible assumption)))), (show Rows _ _ _ _ _ from R2.out.gr (by have hgg := GI.out; repeat (first | (with_reducible exact Gr.refl _) | (with_reducible assumption) | (with_reducible refine Gr.alloc ?_ _) | (with_reducible refine Gr.drewN ?_ _) | (with_reducible refine Gr.drew ?_) | (with_reducible refine Gr.grown ?_ _ _) | (with_reducible refine Gr.regrown ?_ _ _) | (with_reducible refine Gr.setCell ?_ (by first | omega | (simp; omega) | simp) _) | (with_reducible refine Gr.trans ?_ (by with_reducible assumption))))), (show _ = _ by rw [List.length_set]; exact EL.out), CK2.out⟩
                  · have h64 : pa = 64 := by omega
                    subst h64
                    clear hlt64
                    cases U <;> cases W
                    · have BU : Hid (Al.bump ⟨xc, 64, us, wo⟩ false false = ⟨xc, 33, us / 2, wo / 2⟩) := (show _ = _ by unfold Al.bump; simp)
                      have HZ2 : Hid ((L.set k (Al.bump ⟨xc, 64, us, wo⟩ false false))[k]? = some ⟨xc, 33, us / 2, wo / 2⟩) := (show _ = _ by rw [BU.out, List.getElem?_set, if_pos rfl, if_pos HKL.out])
                      have q0 := ((hU2 k _ HZ2.out).gr GI.out) 0 _ rfl; have q1 := ((hU2 k _ HZ2.out).gr GI.out) 1 _ rfl; have q2 := ((hU2 k _ HZ2.out).gr GI.out) 2 _ rfl; have q3 := ((hU2 k _ HZ2.out).gr GI.out) 3 _ rfl; have q4 := ((hU2 k _ HZ2.out).gr GI.out) 4 _ rfl; have q5 := ((hU2 k _ HZ2.out).gr GI.out) 5 _ rfl; have q6 := ((hU2 k _ HZ2.out).gr GI.out) 6 _ rfl; have q7 := ((hU2 k _ HZ2.out).gr GI.out) 7 _ rfl; have q8 := ((hU2 k _ HZ2.out).gr GI.out) 8 _ rfl; (try simp only [Nat.add_zero] at q0); (try dsimp only at q0 q1 q2 q3 q4 q5 q6 q7 q8)
                      have t0 := ((hU1 k _ HX.out).gr (GX.out.trans GI.out)) 0 _ rfl; have t1 := ((hU1 k _ HX.out).gr (GX.out.trans GI.out)) 1 _ rfl; have t2 := ((hU1 k _ HX.out).gr (GX.out.trans GI.out)) 2 _ rfl; have t3 := ((hU1 k _ HX.out).gr (GX.out.trans GI.out)) 3 _ rfl; have t4 := ((hU1 k _ HX.out).gr (GX.out.trans GI.out)) 4 _ rfl; have t5 := ((hU1 k _ HX.out).gr (GX.out.trans GI.out)) 5 _ rfl; have t6 := ((hU1 k _ HX.out).gr (GX.out.trans GI.out)) 6 _ rfl; have t7 := ((hU1 k _ HX.out).gr (GX.out.trans GI.out)) 7 _ rfl; have t8 := ((hU1 k _ HX.out).gr (GX.out.trans GI.out)) 8 _ rfl; (try simp only [Nat.add_zero] at t0); (try dsimp only at t0 t1 t2 t3 t4 t5 t6 t7 t8)
                      have hbq := block_lt_of_cell q0
                      have hbt := block_lt_of_cell t0
                      clear BU eqn
                      go_wp2_with fail
                      go_quiet (fail)
                      go_wp2_with fail
                      go_roundg (m - (kk + 1))
                      case measure => omega
                      case rel => exact ⟨kk + 1, _, _, _, by omega, by omega, by go_num, rfl, (show Gr _ _ from by have hgg := GE.out; repeat (first | (with_reducible exact Gr.refl _) | (with_reducible assumption) | (with_reducible refine Gr.alloc ?_ _) | (with_reducible refine Gr.drewN ?_ _) | (with_reducible refine Gr.drew ?_) | (with_reducible refine Gr.grown ?_ _ _) | (with_reducible refine Gr.regrown ?_ _ _) | (with_reducible refine Gr.setCell ?_ (by first | omega | (simp; omega) | simp) _) | (with_reducible refine Gr.trans ?_ (by with_reducible assumption)))), (show Rows _ _ _ _ _ from R2.out.gr (by have hgg := GI.out; repeat (first | (with_reducible exact Gr.refl _) | (with_reducible assumption) | (with_reducible refine Gr.alloc ?_ _) | (with_reducible refine Gr.drewN ?_ _) | (with_reducible refine Gr.drew ?_) | (with_reducible refine Gr.grown ?_ _ _) | (with_reducible refine Gr.regrown ?_ _ _) | (with_reducible refine Gr.setCell ?_ (by first | omega | (simp; omega) | simp) _) | (with_reducible refine Gr.trans ?_ (by with_reducible assumption))))), (show _ = _ by rw [List.length_set]; exact EL.out), CK2.out⟩
                    · exact absurd HUW.out (by decide)
                    · have BU : Hid (Al.bump ⟨xc, 64, us, wo⟩ true false = ⟨xc, 33, us / 2 + 1, wo / 2⟩) := (show _ = _ by unfold Al.bump; simp)
                      have HZ2 : Hid ((L.set k (Al.bump ⟨xc, 64, us, wo⟩ true false))[k]? = some ⟨xc, 33, us / 2 + 1, wo / 2⟩) := (show _ = _ by rw [BU.out, List.getElem?_set, if_pos rfl, if_pos HKL.out])
                      have q0 := ((hU2 k _ HZ2.out).gr GI.out) 0 _ rfl; have q1 := ((hU2 k _ HZ2.out).gr GI.out) 1 _ rfl; have q2 := ((hU2 k _ HZ2.out).gr GI.out) 2 _ rfl; have q3 := ((hU2 k _ HZ2.out).gr GI.out) 3 _ rfl; have q4 := ((hU2 k _ HZ2.out).gr GI.out) 4 _ rfl; have q5 := ((hU2 k _ HZ2.out).gr GI.out) 5 _ rfl; have q6 := ((hU2 k _ HZ2.out).gr GI.out) 6 _ rfl; have q7 := ((hU2 k _ HZ2.out).gr GI.out) 7 _ rfl; have q8 := ((hU2 k _ HZ2.out).gr GI.out) 8 _ rfl; (try simp only [Nat.add_zero] at q0); (try dsimp only at q0 q1 q2 q3 q4 q5 q6 q7 q8)
                      have t0 := ((hU1 k _ HX.out).gr (GX.out.trans GI.out)) 0 _ rfl; have t1 := ((hU1 k _ HX.out).gr (GX.out.trans GI.out)) 1 _ rfl; have t2 := ((hU1 k _ HX.out).gr (GX.out.trans GI.out)) 2 _ rfl; have t3 := ((hU1 k _ HX.out).gr (GX.out.trans GI.out)) 3 _ rfl; have t4 := ((hU1 k _ HX.out).gr (GX.out.trans GI.out)) 4 _ rfl; have t5 := ((hU1 k _ HX.out).gr (GX.out.trans GI.out)) 5 _ rfl; have t6 := ((hU1 k _ HX.out).gr (GX.out.trans GI.out)) 6 _ rfl; have t7 := ((hU1 k _ HX.out).gr (GX.out.trans GI.out)) 7 _ rfl; have t8 := ((hU1 k _ HX.out).gr (GX.out.trans GI.out)) 8 _ rfl; (try simp only [Nat.add_zero] at t0); (try dsimp only at t0 t1 t2 t3 t4 t5 t6 t7 t8)
                      have hbq := block_lt_of_cell q0
                      have hbt := block_lt_of_cell t0
                      clear BU eqn
                      go_wp2_with fail
                      go_quiet (fail)
                      go_wp2_with fail
                      go_roundg (m - (kk + 1))
                      case measure => omega
                      case rel => exact ⟨kk + 1, _, _, _, by omega, by omega, by go_num, rfl, (show Gr _ _ from by have hgg := GE.out; repeat (first | (with_reducible exact Gr.refl _) | (with_reducible assumption) | (with_reducible refine Gr.alloc ?_ _) | (with_reducible refine Gr.drewN ?_ _) | (with_reducible refine Gr.drew ?_) | (with_reducible refine Gr.grown ?_ _ _) | (with_reducible refine Gr.regrown ?_ _ _) | (with_reducible refine Gr.setCell ?_ (by first | omega | (simp; omega) | simp) _) | (with_reducible refine Gr.trans ?_ (by with_reducible assumption)))), (show Rows _ _ _ _ _ from R2.out.gr (by have hgg := GI.out; repeat (first | (with_reducible exact Gr.refl _) | (with_reducible assumption) | (with_reducible refine Gr.alloc ?_ _) | (with_reducible refine Gr.drewN ?_ _) | (with_reducible refine Gr.drew ?_) | (with_reducible refine Gr.grown ?_ _ _) | (with_reducible refine Gr.regrown ?_ _ _) | (with_reducible refine Gr.setCell ?_ (by first | omega | (simp; omega) | simp) _) | (with_reducible refine Gr.trans ?_ (by with_reducible assumption))))), (show _ = _ by rw [List.length_set]; exact EL.out), CK2.out⟩
                    · have BU : Hid (Al.bump ⟨xc, 64, us, wo⟩ true true = ⟨xc, 33, us / 2 + 1, wo / 2 + 1⟩) := (show _ = _ by unfold Al.bump; simp)
                      have HZ2 : Hid ((L.set k (Al.bump ⟨xc, 64, us, wo⟩ true true))[k]? = some ⟨xc, 33, us / 2 + 1, wo / 2 + 1⟩) := (show _ = _ by rw [BU.out, List.getElem?_set, if_pos rfl, if_pos HKL.out])
                      have q0 := ((hU2 k _ HZ2.out).gr GI.out) 0 _ rfl; have q1 := ((hU2 k _ HZ2.out).gr GI.out) 1 _ rfl; have q2 := ((hU2 k _ HZ2.out).gr GI.out) 2 _ rfl; have q3 := ((hU2 k _ HZ2.out).gr GI.out) 3 _ rfl; have q4 := ((hU2 k _ HZ2.out).gr GI.out) 4 _ rfl; have q5 := ((hU2 k _ HZ2.out).gr GI.out) 5 _ rfl; have q6 := ((hU2 k _ HZ2.out).gr GI.out) 6 _ rfl; have q7 := ((hU2 k _ HZ2.out).gr GI.out) 7 _ rfl; have q8 := ((hU2 k _ HZ2.out).gr GI.out) 8 _ rfl; (try simp only [Nat.add_zero] at q0); (try dsimp only at q0 q1 q2 q3 q4 q5 q6 q7 q8)
                      have t0 := ((hU1 k _ HX.out).gr (GX.out.trans GI.out)) 0 _ rfl; have t1 := ((hU1 k _ HX.out).gr (GX.out.trans GI.out)) 1 _ rfl; have t2 := ((hU1 k _ HX.out).gr (GX.out.trans GI.out)) 2 _ rfl; have t3 := ((hU1 k _ HX.out).gr (GX.out.trans GI.out)) 3 _ rfl; have t4 := ((hU1 k _ HX.out).gr (GX.out.trans GI.out)) 4 _ rfl; have t5 := ((hU1 k _ HX.out).gr (GX.out.trans GI.out)) 5 _ rfl; have t6 := ((hU1 k _ HX.out).gr (GX.out.trans GI.out)) 6 _ rfl; have t7 := ((hU1 k _ HX.out).gr (GX.out.trans GI.out)) 7 _ rfl; have t8 := ((hU1 k _ HX.out).gr (GX.out.trans GI.out)) 8 _ rfl; (try simp only [Nat.add_zero] at t0); (try dsimp only at t0 t1 t2 t3 t4 t5 t6 t7 t8)
                      have hbq := block_lt_of_cell q0
                      have hbt := block_lt_of_cell t0
                      clear BU eqn
                      go_wp2_with fail
                      go_quiet (fail)
                      go_wp2_with fail
                      go_roundg (m - (kk + 1))
                      case measure => omega
                      case rel => exact ⟨kk + 1, _, _, _, by omega, by omega, by go_num, rfl, (show Gr _ _ from by have hgg := GE.out; repeat (first | (with_reducible exact Gr.refl _) | (with_reducible assumption) | (with_reducible refine Gr.alloc ?_ _) | (with_reducible refine Gr.drewN ?_ _) | (with_reducible refine Gr.drew ?_) | (with_reducible refine Gr.grown ?_ _ _) | (with_reducible refine Gr.regrown ?_ _ _) | (with_reducible refine Gr.setCell ?_ (by first | omega | (simp; omega) | simp) _) | (with_reducible refine Gr.trans ?_ (by with_reducible assumption)))), (show Rows _ _ _ _ _ from R2.out.gr (by have hgg := GI.out; repeat (first | (with_reducible exact Gr.refl _) | (with_reducible assumption) | (with_reducible refine Gr.alloc ?_ _) | (with_reducible refine Gr.drewN ?_ _) | (with_reducible refine Gr.drew ?_) | (with_reducible refine Gr.grown ?_ _ _) | (with_reducible refine Gr.regrown ?_ _ _) | (with_reducible refine Gr.setCell ?_ (by first | omega | (simp; omega) | simp) _) | (with_reducible refine Gr.trans ?_ (by with_reducible assumption))))), (show _ = _ by rw [List.length_set]; exact EL.out), CK2.out⟩
          · have hltz : ¬ (kk : Int) < (m : Int) := by omega
            go_wp2_with fail
            go_ret
            exact ⟨by first | rfl | simp, G.out⟩
      · have C1 := fun W g => check_any _ l W (HR.out.gr (w := W) g) bb
        generalize Al.chk l = E at hc C1
        have C1' := Lib.hid C1
        clear C1 rl rp
        go_enter Try.func9, Try.ntmps9
        go_wp2_with fail
        refine (awake_any _).mono ?_
        rintro e w1 ⟨rfl, g1⟩
        have G1 : Aside (Gr w w1) := g1
        clear g1
        go_wp2_with fail
        refine (few_any _ _ _ _).mono ?_
        rintro e w' ⟨rfl, rfl⟩
        go_wp2_with fail
        refine (C1'.out _ G1.out).mono ?_
        rintro e w2 ⟨rfl, g2⟩
        have G2 : Aside (Gr w w2) := G1.out.trans g2
        clear g2
        go_wp2_with fail
        go_ret
        exact ⟨by first | rfl | simp, G2.out⟩
    · have hz : decide ((100 : Int) < (ps.length : Int)) = true := bt (by omega)
      clear rl rp
      go_enter Try.func9, Try.ntmps9
      go_wp2_with fail
      refine (awake_any _).mono ?_
      rintro e w1 ⟨rfl, g1⟩
      have G1 : Aside (Gr w w1) := g1
      clear g1
      go_wp2_with fail
      refine (few_any _ _ _ _).mono ?_
      rintro e w' ⟨rfl, rfl⟩
      go_wp2_with fail
      go_ret
      exact ⟨by first | rfl | simp, G1.out⟩
  · have hf : decide ((l.length : Int) ≤ 70) = false := bf (by omega)
    clear rl rp
    go_enter Try.func9, Try.ntmps9
    go_wp2_with fail
    refine (awake_any _).mono ?_
    rintro e w1 ⟨rfl, g1⟩
    have G1 : Aside (Gr w w1) := g1
    clear g1
    go_wp2_with fail
    refine (few_any _ _ _ _).mono ?_
    rintro e w' ⟨rfl, rfl⟩
    go_wp2_with fail
    go_ret
    exact ⟨by first | rfl | simp, G1.out⟩
end Go.Proofs.Ytkhanjhjcfhhiaa.allocatePasses
