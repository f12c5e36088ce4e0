/- The contract of the reference's Carries. -/
import Derived.Test.YtckkjiaoaeaaoaaR50C
namespace Go.Proofs.Ytckkjiaoaeaaoaa
open Go.RowKit Go.Sort
set_option linter.unusedVariables false

namespace Lp
/-- the error of the arguments of Carries -/
def carE (l : Lo) (s : Sp) (k : Int) : Int := if rgt l s = 0 then (if 0 ≤ k ∧ k ≤ 4096 then 0 else 2) else rgt l s
theorem carE_rgt {l : Lo} {s : Sp} {k : Int} (h : ¬ rgt l s = 0) : carE l s k = rgt l s := if_neg h
theorem carE_rng {l : Lo} {s : Sp} {k : Int} (h : rgt l s = 0) (h2 : ¬ (0 ≤ k ∧ k ≤ 4096)) : carE l s k = 2 := by unfold carE; rw [if_pos h, if_neg h2]
theorem carE_ok {l : Lo} {s : Sp} {k : Int} (h : rgt l s = 0) (h2 : 0 ≤ k ∧ k ≤ 4096) : carE l s k = 0 := by unfold carE; rw [if_pos h, if_pos h2]
def carM (l : Lo) (s : Sp) (ds : List Dv) (k : Int) : Int := if carE l s k = 0 then car (fa l s) ds (rl (fb l s) k) else -1
end Lp
/-- what Carries returns -/
def CaPost (E M : Int) (w : World) (e : Ending) (w' : World) : Prop := e = .returned (.tuple #[.int .i64 (max M 0), .bool (decide (0 ≤ M)), .int .i64 E]) ∧ Gr w w'
theorem ret_ibi {k l : IntKind} {a b e f : Int} {c d : Bool} (h : a = b) (h' : c = d) (h'' : e = f) : Ending.returned (.tuple #[.int k a, .bool c, .int l e]) = .returned (.tuple #[.int k b, .bool d, .int l f]) := by rw [h, h', h'']

set_option maxHeartbeats 2000000 in
theorem rcarriesE_any (l : Lo) (s : Sp) (v : Value) (ds : List Dv) (k : Int) (w : World) (h : Rows 3 encD w v ds) (hl : ds.length ≤ 1048575) :
    Calls Try.prog 32 #[.agg #[.int .i64 l.id, .int .i64 l.se, .int .i64 l.co, .int .i64 l.ac, .int .i64 l.pe, .int .i64 l.ph, .int .i64 l.ag], .agg #[.int .i64 s.s, .int .i64 s.a], v, .int .i64 k] w (CaPost (Lp.carE l s k) (Lp.carM l s ds k) w) := by
  have HD := Lib.hid h
  have HL := Lib.hid hl
  obtain ⟨A, c, rfl⟩ := h.slice
  have C1 := fun W => rright_any l s W
  clear h hl
  rcases Lp.rgt_cases l s with hr | hr
  · by_cases hk : 0 ≤ k ∧ k ≤ 4096
    · have E0 := Lp.carE_ok hr hk
      have M0 : Hid (Lp.car (Lp.fa l s) ds (Lp.rl (Lp.fb l s) k) = Lp.carM l s ds k) := (show _ = _ from (if_pos E0).symm)
      have C2 := fun W => rflows_any l s W hr
      have C3 := fun v2 v W => fun h1 h2 => rcarries_any (Lp.fa l s) (Lp.fb l s) v2 v ds k W (Lp.fa_ok hr) (Lp.fb_ok hr) h1 h2 HL.out hk.1 (by omega)
      rw [E0]
      have CB := Lp.car_bd (Lp.fa l s) ds (Lp.rl (Lp.fb l s) k)
      generalize Lp.car (Lp.fa l s) ds (Lp.rl (Lp.fb l s) k) = M at M0 C3 CB
      rw [hr] at C1
      generalize [Lp.fa l s, Lp.fb l s] = L at C2 C3
      obtain ⟨k0, k1⟩ := hk
      obtain ⟨cb0, cb1⟩ := CB
      have C3' := Lib.hid C3
      clear hr E0 C3
      go_enter Try.func32, Try.ntmps32
      go_wp2_with fail
      refine (C1 _).mono ?_
      rintro e w1 ⟨rfl, g1⟩
      obtain ⟨L1, S1⟩ := boxed2 (enc := encL) (enc2 := encP) (x := l) (y := s) g1
      have u0 := (L1) 0 _ rfl; have u1 := (L1) 1 _ rfl; have u2 := (L1) 2 _ rfl; have u3 := (L1) 3 _ rfl; have u4 := (L1) 4 _ rfl; have u5 := (L1) 5 _ rfl; have u6 := (L1) 6 _ rfl; (try simp only [Nat.add_zero] at u0); (try simp only [Nat.zero_add] at u0 u1 u2 u3 u4 u5 u6)
      have v0 := (S1) 0 _ rfl; have v1 := (S1) 1 _ rfl; (try simp only [Nat.add_zero] at v0); (try simp only [Nat.zero_add] at v0 v1)
      have hz := L1.lt rfl
      have hz2 := S1.lt rfl
      have G1 : Aside (Gr w w1) := (Gr.alloc (Gr.alloc (Gr.refl _) _) _).trans g1
      clear g1 L1 S1 C1
      go_wp2_with fail
      refine (C2 _).mono ?_
      rintro e w2 ⟨vr, rfl, rr, g2⟩
      have G2 : Aside (Gr w w2) := G1.out.trans g2
      clear g2 C2 u0 u1 u2 u3 u4 u5 u6 v0 v1 hz hz2
      go_wp2_with fail
      refine (C3'.out _ _ _ rr (HD.out.gr G2.out)).mono ?_
      rintro e w3 ⟨rfl, g3⟩
      have G3 : Aside (Gr w w3) := G2.out.trans g3
      clear g3 rr
      by_cases hm : M < 0
      · have e1 : Hid (0 = max M 0) := (show _ = _ by omega)
        have e2 : Hid (false = decide (0 ≤ M)) := (show _ = _ from (bf (by omega)).symm)
        go_wp2_with fail
        go_ret3
        exact ⟨by rw [← M0.out]; exact ret_ibi e1.out e2.out rfl, G3.out⟩
      · have e1 : Hid (M = max M 0) := (show _ = _ by omega)
        have e2 : Hid (true = decide (0 ≤ M)) := (show _ = _ from (bt (by omega)).symm)
        go_wp2_with fail
        go_ret3
        exact ⟨by rw [← M0.out]; exact ret_ibi e1.out e2.out rfl, G3.out⟩
    · have E0 := Lp.carE_rng hr hk
      have M0 : Hid (Lp.carM l s ds k = -1) := (show _ = _ from if_neg (by rw [E0]; decide))
      rw [E0]
      rw [hr] at C1
      clear hr E0
      go_enter Try.func32, Try.ntmps32
      go_wp2_with fail
      refine (C1 _).mono ?_
      rintro e w1 ⟨rfl, g1⟩
      have G1 : Aside (Gr w w1) := (Gr.alloc (Gr.alloc (Gr.refl _) _) _).trans g1
      clear g1 C1
      go_wp2_with fail
      all_goals first | (go_ret3; exact ⟨by rw [M0.out]; rfl, G1.out⟩) | (exfalso; omega)
  · have E0 := Lp.carE_rgt (k := k) (show ¬ Lp.rgt l s = 0 by simpa using hr)
    have M0 : Hid (Lp.carM l s ds k = -1) := (show _ = _ from if_neg (by rw [E0]; simpa using hr))
    rw [E0]
    generalize Lp.rgt l s = E at *
    clear E0
    go_enter Try.func32, Try.ntmps32
    go_wp2_with fail
    refine (C1 _).mono ?_
    rintro e w1 ⟨rfl, g1⟩
    have G1 : Aside (Gr w w1) := (Gr.alloc (Gr.alloc (Gr.refl _) _) _).trans g1
    clear g1 C1
    go_wp2_with fail
    go_ret3
    exact ⟨by rw [M0.out]; rfl, G1.out⟩
end Go.Proofs.Ytckkjiaoaeaaoaa
