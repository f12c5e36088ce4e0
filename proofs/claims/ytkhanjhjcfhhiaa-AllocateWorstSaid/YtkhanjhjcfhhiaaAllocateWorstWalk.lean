/- The walk of AllocateWorst: the Go text returns true. -/
import Derived.Test.YtkhanjhjcfhhiaaAlcMore
import Derived.Test.YtkhanjhjcfhhiaaAlcOk
import Derived.Test.YtkhanjhjcfhhiaaAlcLong
namespace Go.Proofs.Ytkhanjhjcfhhiaa.allocateWorst
open Go.RowKit Go.Sort
set_option linter.unusedVariables false

set_option maxHeartbeats 8000000 in
set_option maxRecDepth 100000 in
theorem walk (v0 : Value) (l : List Us) (w : World) (rl : Rows 9 encU w v0 l) (bl : (l.length : Int) ≤ 9223372036854775807) (kl : ∀ A n c, v0 = .slice A n c → n ≤ c ∧ c ≤ 9223372036854775807) (wl : ∀ x ∈ l, okUs x) :
    Calls Try.prog 6 #[v0] w fun e w' => e = .returned (.bool true) ∧ Gr w w' := by
  obtain ⟨A, c, rfl⟩ := rl.slice
  have HR := Lib.hid rl
  clear rl kl wl
  by_cases hn : l.length ≤ 70
  · have bb : (l.length : Int) ≤ 4611686018427387904 := by omega
    have hf : decide ((l.length : Int) ≤ 70) = true := bt (by omega)
    rcases Al.chk_cases l with hc | hc
    · have HC := Lib.hid hc
      have NUM := Lib.hid (fun (j : Nat) x (hx : l[j]? = some x) => Al.chk_num hc hx)
      have C1 := fun W g => check_any _ l W (HR.out.gr (w := W) g) bb
      rw [hc] at C1
      have C1' := Lib.hid C1
      cases hb : Al.worB l with
      | false =>
        have WN := Lib.hid (Al.worst_no hc hb)
        have C2 := fun W g => worst_any _ l W (HR.out.gr (w := W) g) bb
        rw [hb] at C2
        have C2' := Lib.hid C2
        clear hb hc C1 C2
        go_enter Try.func6, Try.ntmps6
        go_wp2_with fail
        have K0 : Aside ((w.alloc (Obj.cells #[.slice A l.length c] 22)).cell? ⟨w.heap.size, 0, none⟩ = some (.slice A l.length c)) := by show _ = _; go_simp
        refine (awake_any _).mono ?_
        rintro e w1 ⟨rfl, g1⟩
        have G1 : Aside (Gr w w1) := (Gr.alloc (Gr.refl _) _).trans g1
        have K1 : Aside (w1.cell? ⟨w.heap.size, 0, none⟩ = some (.slice A l.length c)) := held_keep g1 K0.out
        have k1 := K1.out
        clear g1 K0
        go_wp2_with fail
        refine (C2'.out _ G1.out).mono ?_
        rintro e w2 ⟨rfl, g2⟩
        have G2 : Aside (Gr w w2) := G1.out.trans g2
        have K2 : Aside (w2.cell? ⟨w.heap.size, 0, none⟩ = some (.slice A l.length c)) := held_keep g2 K1.out
        have k2 := K2.out
        have hz : w.heap.size < w2.heap.size := block_lt_of_cell k2
        clear g2 k1 K1
        go_wp2_with fail
        refine (few_any _ _ _ _).mono ?_
        rintro e w' ⟨rfl, rfl⟩
        go_wp2_with fail
        generalize hW3 : w2.alloc (Obj.cells #[.int .i64 (Al.worN l)] 3) = W3
        have G3 : Aside (Gr w W3) := by rw [← hW3]; exact Gr.alloc G2.out _
        have K3 : Aside (W3.cell? ⟨w.heap.size, 0, none⟩ = some (.slice A l.length c)) := by rw [← hW3]; exact held_keep (Gr.alloc (Gr.refl _) _) K2.out
        clear hW3 k2 K2 hz
        refine (C1'.out _ G3.out).mono ?_
        rintro e w4 ⟨rfl, g4⟩
        have G4 : Aside (Gr w w4) := G3.out.trans g4
        have K4 : Aside (w4.cell? ⟨w.heap.size, 0, none⟩ = some (.slice A l.length c)) := held_keep g4 K3.out
        have k4 := K4.out
        have hz4 : w.heap.size < w4.heap.size := block_lt_of_cell k4
        clear g4 K3
        go_wp2_with fail
        generalize hW5 : w4.alloc (Obj.cells #[moreV] 40) = W5
        have G5 : Aside (Gr w W5) := by rw [← hW5]; exact Gr.alloc G4.out _
        have K5 : Aside (W5.cell? ⟨w.heap.size, 0, none⟩ = some (.slice A l.length c)) := by rw [← hW5]; exact held_keep (Gr.alloc (Gr.refl _) _) K4.out
        have M5 : Aside (W5.cell? ⟨w4.heap.size, 0, none⟩ = some moreV) := by rw [← hW5, World.cell?_alloc_new]; rfl
        clear hW5 k4 K4 hz4
        refine (containsU_any 21 #[.pointer (some ⟨w.heap.size, 0, none⟩), .pointer (some ⟨w4.heap.size, 0, none⟩)] (fun a => decide (8 ≤ a.us) && l.any (fun b => Al.more a b 2)) _ l _ (HR.out.gr G5.out) bb (enters_of Try.func21 (by kernel_rfl) rfl) (fun W i a g hi => worst2_any a l _ NUM.out (NUM.out i a hi) w.heap.size w4.heap.size W (HR.out.gr (G5.out.trans g)) bb (held_keep g K5.out) (held_keep g M5.out))).mono ?_
        rw [WN.out]
        rintro e w6 ⟨rfl, g6⟩
        have G6 : Aside (Gr w w6) := G5.out.trans g6
        clear g6
        go_wp2_with fail
        go_ret
        exact ⟨by first | rfl | simp, G6.out⟩
      | true =>
        obtain ⟨k, hk, hkl, h8, HJ, HB⟩ := Al.worst_yes hc hb
        obtain ⟨x, hx⟩ : ∃ x, l[k]? = some x := ⟨_, List.getElem?_eq_getElem hkl⟩
        rw [Al.at_eq hx] at h8 HJ HB
        have HB' := Lib.hid HB
        have HJ' := Lib.hid HJ
        have HX := Lib.hid hx
        have C2 := fun W g => worst_any _ l W (HR.out.gr (w := W) g) bb
        rw [hb, hk] at C2
        have C2' := Lib.hid C2
        have US : Aside (USl w (.slice A l.length c) l) := HR.out.usl
        have i1 : (k : Int) < (l.length : Int) := by omega
        have i2 : decide ((k : Int) < 0) = false := bf (by omega)
        have i3 : decide (l.length ≤ k) = false := bf (by omega)
        have i4 : decide (x.us < 8) = false := bf (by omega)
        clear hb hc C1 C2 HB HJ hx hk hkl
        go_enter Try.func6, Try.ntmps6
        go_wp2_with fail
        have K0 : Aside ((w.alloc (Obj.cells #[.slice A l.length c] 22)).cell? ⟨w.heap.size, 0, none⟩ = some (.slice A l.length c)) := by show _ = _; go_simp
        refine (awake_any _).mono ?_
        rintro e w1 ⟨rfl, g1⟩
        have G1 : Aside (Gr w w1) := (Gr.alloc (Gr.refl _) _).trans g1
        have K1 : Aside (w1.cell? ⟨w.heap.size, 0, none⟩ = some (.slice A l.length c)) := held_keep g1 K0.out
        have k1 := K1.out
        clear g1 K0
        go_wp2_with fail
        refine (C2'.out _ G1.out).mono ?_
        rintro e w2 ⟨rfl, g2⟩
        have G2 : Aside (Gr w w2) := G1.out.trans g2
        have K2 : Aside (w2.cell? ⟨w.heap.size, 0, none⟩ = some (.slice A l.length c)) := held_keep g2 K1.out
        have k2 := K2.out
        have hz : w.heap.size < w2.heap.size := block_lt_of_cell k2
        clear g2 k1 K1
        go_wp2_with fail
        refine (few_any _ _ _ _).mono ?_
        rintro e w' ⟨rfl, rfl⟩
        go_wp2_with fail
        generalize hW3 : w2.alloc (Obj.cells #[.int .i64 (k : Int)] 3) = W3
        have G3 : Aside (Gr w W3) := by rw [← hW3]; exact Gr.alloc G2.out _
        have K3 : Aside (W3.cell? ⟨w.heap.size, 0, none⟩ = some (.slice A l.length c)) := by rw [← hW3]; exact held_keep (Gr.alloc (Gr.refl _) _) K2.out
        have I3 : Aside (W3.cell? ⟨w2.heap.size, 0, none⟩ = some (.int .i64 (k : Int))) := by rw [← hW3, World.cell?_alloc_new]; rfl
        clear hW3 k2 K2 hz
        refine (C1'.out _ G3.out).mono ?_
        rintro e w4 ⟨rfl, g4⟩
        have G4 : Aside (Gr w w4) := G3.out.trans g4
        have K4 : Aside (w4.cell? ⟨w.heap.size, 0, none⟩ = some (.slice A l.length c)) := held_keep g4 K3.out
        have I4 : Aside (w4.cell? ⟨w2.heap.size, 0, none⟩ = some (.int .i64 (k : Int))) := held_keep g4 I3.out
        rcases US.out with h0 | ⟨b, off, ⟨c', hv⟩, hb, hU⟩
        · omega
        simp only [Value.slice.injEq] at hv
        obtain ⟨rfl, -, rfl⟩ := hv
        have UU : Aside (∀ (i : Nat) x, l[i]? = some x → UAt w b (off + i * 9) x) := hU
        have k4 := K4.out
        have j4 := I4.out
        have u4 := (UU.out k x HX.out).gr G4.out 7 _ rfl
        have hz4 : w.heap.size < w4.heap.size := block_lt_of_cell k4
        have hz5 : w2.heap.size < w4.heap.size := block_lt_of_cell j4
        have hz6 : b < w4.heap.size := block_lt_of_cell u4
        clear g4 K3 I3 hU hb
        go_wp2_with fail
        generalize hW5 : w4.alloc (Obj.cells #[moreV] 40) = W5
        have G5 : Aside (Gr w W5) := by rw [← hW5]; exact Gr.alloc G4.out _
        have K5 : Aside (W5.cell? ⟨w.heap.size, 0, none⟩ = some (.slice (some ⟨b, off, none⟩) l.length c)) := by rw [← hW5]; exact held_keep (Gr.alloc (Gr.refl _) _) K4.out
        have I5 : Aside (W5.cell? ⟨w2.heap.size, 0, none⟩ = some (.int .i64 (k : Int))) := by rw [← hW5]; exact held_keep (Gr.alloc (Gr.refl _) _) I4.out
        have M5 : Aside (W5.cell? ⟨w4.heap.size, 0, none⟩ = some moreV) := by rw [← hW5, World.cell?_alloc_new]; rfl
        clear hW5 k4 K4 j4 I4 u4 hz4 hz5 hz6 US C1' C2' i2 i3 i4
        go_loopg [6, 7, 54] l.length (fun gg _ _ s54 wr => ∃ j : Nat, j ≤ l.length ∧ l.length - j ≤ gg ∧ s54 = .int .i64 (j : Int) ∧ Aside (Gr W5 wr))
        case atStart => exact ⟨0, Nat.zero_le _, by omega, rfl, Gr.refl _⟩
        case round =>
          obtain ⟨j, hj, hgg, rfl, G⟩ := hrel
          have KR : Aside (wr.cell? ⟨w.heap.size, 0, none⟩ = some (.slice (some ⟨b, off, none⟩) l.length c)) := held_keep G.out K5.out
          have IR : Aside (wr.cell? ⟨w2.heap.size, 0, none⟩ = some (.int .i64 (k : Int))) := held_keep G.out I5.out
          have MR : Aside (wr.cell? ⟨w4.heap.size, 0, none⟩ = some moreV) := held_keep G.out M5.out
          by_cases hlt : j < l.length
          · have hltz : (j : Int) < (l.length : Int) := by omega
            obtain ⟨u, hu⟩ : ∃ u, l[j]? = some u := ⟨_, List.getElem?_eq_getElem hlt⟩
            have UR : Aside (UAt wr b (off + j * 9) u) := (UU.out j u hu).gr (G5.out.trans G.out)
            have XR : Aside (UAt wr b (off + k * 9) x) := (UU.out k x HX.out).gr (G5.out.trans G.out)
            have HJJ := HJ'.out j hlt
            rw [Al.at_eq hu] at HJJ
            have HJ2 := Lib.hid HJJ
            have NU := Lib.hid (NUM.out j u hu)
            have NX := Lib.hid (NUM.out k x HX.out)
            have l0 := (UR.out) 0 _ rfl; have l1 := (UR.out) 1 _ rfl; have l2 := (UR.out) 2 _ rfl; have l3 := (UR.out) 3 _ rfl; have l4 := (UR.out) 4 _ rfl; have l5 := (UR.out) 5 _ rfl; have l6 := (UR.out) 6 _ rfl; have l7 := (UR.out) 7 _ rfl; have l8 := (UR.out) 8 _ rfl; (try simp only [Nat.add_zero] at l0); (try simp only [Nat.zero_add] at l0 l1 l2 l3 l4 l5 l6 l7 l8)
            have hbr : b < wr.heap.size := block_lt_of_cell l1
            clear hu HJJ
            go_wp2_with fail
            generalize hW6 : wr.alloc (Obj.cells #[.int .i64 u.c.s, .int .i64 u.c.o, .int .i64 u.c.k, .bool u.c.b, .int .i64 u.c.p, .int .i64 u.c.f, .int .i64 u.pa, .int .i64 u.us, .int .i64 u.wo] 39) = W6
            have U6 : Aside (UAt W6 wr.heap.size 0 u) := by rw [← hW6]; exact UAt.new _ _ _
            have G6 : Aside (Gr wr W6) := by rw [← hW6]; exact Gr.alloc (Gr.refl _) _
            clear hW6 l0 l1 l2 l3 l4 l5 l6 l7 l8 hbr
            have mixed : Try.prog.follows .mixedOrders = true := by kernel_rfl
            have u0 := fun dq oq => cell_regrown ((U6.out) 0 _ rfl) dq oq; have u1 := fun dq oq => cell_regrown ((U6.out) 1 _ rfl) dq oq; have u2 := fun dq oq => cell_regrown ((U6.out) 2 _ rfl) dq oq; have u3 := fun dq oq => cell_regrown ((U6.out) 3 _ rfl) dq oq; have u4 := fun dq oq => cell_regrown ((U6.out) 4 _ rfl) dq oq; have u5 := fun dq oq => cell_regrown ((U6.out) 5 _ rfl) dq oq; have u6 := fun dq oq => cell_regrown ((U6.out) 6 _ rfl) dq oq; have u7 := fun dq oq => cell_regrown ((U6.out) 7 _ rfl) dq oq; have u8 := fun dq oq => cell_regrown ((U6.out) 8 _ rfl) dq oq; (try simp only [Nat.add_zero] at u0); (try simp only [Nat.zero_add] at u0 u1 u2 u3 u4 u5 u6 u7 u8)
            have v0 := fun dq oq => cell_regrown ((XR.out.gr G6.out) 0 _ rfl) dq oq; have v1 := fun dq oq => cell_regrown ((XR.out.gr G6.out) 1 _ rfl) dq oq; have v2 := fun dq oq => cell_regrown ((XR.out.gr G6.out) 2 _ rfl) dq oq; have v3 := fun dq oq => cell_regrown ((XR.out.gr G6.out) 3 _ rfl) dq oq; have v4 := fun dq oq => cell_regrown ((XR.out.gr G6.out) 4 _ rfl) dq oq; have v5 := fun dq oq => cell_regrown ((XR.out.gr G6.out) 5 _ rfl) dq oq; have v6 := fun dq oq => cell_regrown ((XR.out.gr G6.out) 6 _ rfl) dq oq; have v7 := fun dq oq => cell_regrown ((XR.out.gr G6.out) 7 _ rfl) dq oq; have v8 := fun dq oq => cell_regrown ((XR.out.gr G6.out) 8 _ rfl) dq oq; (try simp only [Nat.add_zero] at v0); (try simp only [Nat.zero_add] at v0 v1 v2 v3 v4 v5 v6 v7 v8)
            have ca := fun dq oq => cell_regrown (held_keep G6.out KR.out) dq oq
            have cb := fun dq oq => cell_regrown (held_keep G6.out MR.out) dq oq
            have cc := fun dq oq => cell_regrown (held_keep G6.out IR.out) dq oq
            have L1 := fun W => more1_any u x NU.out NX.out W
            have L2 := fun W => more1_any x u NX.out NU.out W
            by_cases q8 : 8 ≤ u.us
            · have b8 := bt q8
              have hm := HJ2.out q8
              rw [hm.1] at L1
              by_cases jk : j < k
              · have bj : decide (j < k) = true := bt jk
                rw [hm.2 jk] at L2
                clear hm q8 jk
                refine wp_region_quiet_below (by assumption) (by kernel_rfl) ?_; (repeat (first | go_big_quiet_skip | quiet_step ((first | (go_at_call 19; with_reducible exact Gr.meet (L1 _)) | (go_at_call 19; with_reducible exact Gr.meet (L2 _)))))); refine wpQuiet_nil ?_; intro _ hw'; obtain ⟨⟨nq, osq⟩, hw''⟩ := hw'; subst hw''
                go_wp2_with fail
                go_roundg (l.length - (j + 1))
                case measure => omega
                case rel => exact ⟨j + 1, by omega, by omega, by go_num, by have hgg := G.out.trans G6.out; show Gr _ _; repeat (first | (with_reducible exact Gr.refl _) | (with_reducible assumption) | (with_reducible refine Gr.alloc ?_ _) | (with_reducible refine Gr.drewN ?_ _) | (with_reducible refine Gr.drew ?_) | (with_reducible refine Gr.grown ?_ _ _) | (with_reducible refine Gr.regrown ?_ _ _) | (with_reducible refine Gr.setCell ?_ (by first | omega | (simp; omega) | simp) _) | (with_reducible refine Gr.trans ?_ (by with_reducible assumption)))⟩
              · have bj : decide (j < k) = false := bf jk
                clear hm q8 jk L2
                refine wp_region_quiet_below (by assumption) (by kernel_rfl) ?_; (repeat (first | go_big_quiet_skip | quiet_step ((first | (go_at_call 19; with_reducible exact Gr.meet (L1 _)))))); refine wpQuiet_nil ?_; intro _ hw'; obtain ⟨⟨nq, osq⟩, hw''⟩ := hw'; subst hw''
                go_wp2_with fail
                go_roundg (l.length - (j + 1))
                case measure => omega
                case rel => exact ⟨j + 1, by omega, by omega, by go_num, by have hgg := G.out.trans G6.out; show Gr _ _; repeat (first | (with_reducible exact Gr.refl _) | (with_reducible assumption) | (with_reducible refine Gr.alloc ?_ _) | (with_reducible refine Gr.drewN ?_ _) | (with_reducible refine Gr.drew ?_) | (with_reducible refine Gr.grown ?_ _ _) | (with_reducible refine Gr.regrown ?_ _ _) | (with_reducible refine Gr.setCell ?_ (by first | omega | (simp; omega) | simp) _) | (with_reducible refine Gr.trans ?_ (by with_reducible assumption)))⟩
            · have b8 := bf q8
              clear q8 L1 L2 u0 u1 u2 u3 u4 u5 u6 u7 u8 v0 v1 v2 v3 v4 v5 v6 v7 v8 ca cb cc
              have u0 := (U6.out) 0 _ rfl; have u1 := (U6.out) 1 _ rfl; have u2 := (U6.out) 2 _ rfl; have u3 := (U6.out) 3 _ rfl; have u4 := (U6.out) 4 _ rfl; have u5 := (U6.out) 5 _ rfl; have u6 := (U6.out) 6 _ rfl; have u7 := (U6.out) 7 _ rfl; have u8 := (U6.out) 8 _ rfl; (try simp only [Nat.add_zero] at u0); (try simp only [Nat.zero_add] at u0 u1 u2 u3 u4 u5 u6 u7 u8)
              go_quiet (fail)
              go_wp2_with fail
              go_roundg (l.length - (j + 1))
              case measure => omega
              case rel => exact ⟨j + 1, by omega, by omega, by go_num, by have hgg := G.out.trans G6.out; show Gr _ _; repeat (first | (with_reducible exact Gr.refl _) | (with_reducible assumption) | (with_reducible refine Gr.alloc ?_ _) | (with_reducible refine Gr.drewN ?_ _) | (with_reducible refine Gr.drew ?_) | (with_reducible refine Gr.grown ?_ _ _) | (with_reducible refine Gr.regrown ?_ _ _) | (with_reducible refine Gr.setCell ?_ (by first | omega | (simp; omega) | simp) _) | (with_reducible refine Gr.trans ?_ (by with_reducible assumption)))⟩
          · have hltz : ¬ (j : Int) < (l.length : Int) := by omega
            have kr := KR.out
            have HRR : Hid (Rows 9 encU w (.slice (some ⟨b, off, none⟩) l.length c) l) := (show Rows _ _ _ _ _ from HR.out)
            go_wp2_with fail
            refine (containsU_any 23 #[.pointer (some ⟨w4.heap.size, 0, none⟩), .pointer (some ⟨w.heap.size, 0, none⟩), .pointer (some ⟨w2.heap.size, 0, none⟩)] (fun b => Al.more x b 2) _ l _ (HRR.out.gr (G5.out.trans G.out)) (by omega) (enters_of Try.func23 (by kernel_rfl) rfl) (fun W i a g hi => worst3_any a l _ k x HX.out (NUM.out k x HX.out) (NUM.out i a hi) w.heap.size w4.heap.size w2.heap.size W (HRR.out.gr ((G5.out.trans G.out).trans g)) (by omega) (held_keep g KR.out) (held_keep g MR.out) (held_keep g IR.out))).mono ?_
            rw [HB'.out]
            rintro e w6 ⟨rfl, g6⟩
            have G6 : Aside (Gr w w6) := (G5.out.trans G.out).trans g6
            clear g6
            go_wp2_with fail
            go_ret
            exact ⟨by first | rfl | simp, G6.out⟩
    · have WN := Al.wor_no (l := l) (by simpa using hc)
      have C2 := fun W g => worst_any _ l W (HR.out.gr (w := W) g) bb
      have C1 := fun W g => check_any _ l W (HR.out.gr (w := W) g) bb
      rw [WN.1, WN.2] at C2
      have C1' := Lib.hid C1
      have C2' := Lib.hid C2
      clear WN C1 C2
      go_enter Try.func6, Try.ntmps6
      go_wp2_with fail
      have K0 : Aside ((w.alloc (Obj.cells #[.slice A l.length c] 22)).cell? ⟨w.heap.size, 0, none⟩ = some (.slice A l.length c)) := by show _ = _; go_simp
      refine (awake_any _).mono ?_
      rintro e w1 ⟨rfl, g1⟩
      have G1 : Aside (Gr w w1) := (Gr.alloc (Gr.refl _) _).trans g1
      have K1 : Aside (w1.cell? ⟨w.heap.size, 0, none⟩ = some (.slice A l.length c)) := held_keep g1 K0.out
      have k1 := K1.out
      clear g1 K0
      go_wp2_with fail
      refine (C2'.out _ G1.out).mono ?_
      rintro e w2 ⟨rfl, g2⟩
      have G2 : Aside (Gr w w2) := G1.out.trans g2
      have K2 : Aside (w2.cell? ⟨w.heap.size, 0, none⟩ = some (.slice A l.length c)) := held_keep g2 K1.out
      have k2 := K2.out
      have hz : w.heap.size < w2.heap.size := block_lt_of_cell k2
      clear g2 k1 K1
      go_wp2_with fail
      refine (few_any _ _ _ _).mono ?_
      rintro e w' ⟨rfl, rfl⟩
      go_wp2_with fail
      refine (C1'.out _ (Gr.alloc G2.out _)).mono ?_
      rintro e w4 ⟨rfl, g4⟩
      have G4 : Aside (Gr w w4) := (Gr.alloc G2.out _).trans g4
      clear g4
      go_wp2_with fail
      go_ret
      exact ⟨by first | rfl | simp, G4.out⟩
  · have hf : decide ((l.length : Int) ≤ 70) = false := bf (by omega)
    have WN := Al.wor_no (l := l) (by rw [Al.chk_big (by omega)]; decide)
    have C2 := fun W g => worst_all _ l W (HR.out.gr (w := W) g)
    rw [WN.1, WN.2] at C2
    have C2' := Lib.hid C2
    clear WN C2 hn
    go_enter Try.func6, Try.ntmps6
    go_wp2_with fail
    have K0 : Aside ((w.alloc (Obj.cells #[.slice A l.length c] 22)).cell? ⟨w.heap.size, 0, none⟩ = some (.slice A l.length c)) := by show _ = _; go_simp
    refine (awake_any _).mono ?_
    rintro e w1 ⟨rfl, g1⟩
    have G1 : Aside (Gr w w1) := (Gr.alloc (Gr.refl _) _).trans g1
    have K1 : Aside (w1.cell? ⟨w.heap.size, 0, none⟩ = some (.slice A l.length c)) := held_keep g1 K0.out
    have k1 := K1.out
    clear g1 K0
    go_wp2_with fail
    refine (C2'.out _ G1.out).mono ?_
    rintro e w2 ⟨rfl, g2⟩
    have G2 : Aside (Gr w w2) := G1.out.trans g2
    have K2 : Aside (w2.cell? ⟨w.heap.size, 0, none⟩ = some (.slice A l.length c)) := held_keep g2 K1.out
    have k2 := K2.out
    have hz : w.heap.size < w2.heap.size := block_lt_of_cell k2
    clear g2 k1 K1
    go_wp2_with fail
    refine (few_any _ _ _ _).mono ?_
    rintro e w' ⟨rfl, rfl⟩
    go_wp2_with fail
    go_ret
    exact ⟨by first | rfl | simp, by have hgg := G2.out; repeat (first | (with_reducible exact Gr.refl _) | (with_reducible assumption) | (with_reducible refine Gr.alloc ?_ _) | (with_reducible refine Gr.drewN ?_ _) | (with_reducible refine Gr.drew ?_) | (with_reducible refine Gr.grown ?_ _ _) | (with_reducible refine Gr.regrown ?_ _ _) | (with_reducible refine Gr.setCell ?_ (by first | omega | (simp; omega) | simp) _) | (with_reducible refine Gr.trans ?_ (by with_reducible assumption)))⟩
end Go.Proofs.Ytkhanjhjcfhhiaa.allocateWorst
