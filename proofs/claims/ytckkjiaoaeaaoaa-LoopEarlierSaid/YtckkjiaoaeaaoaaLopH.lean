/- The contracts of package loop's check, Ages; awake. -/
import Derived.Test.YtckkjiaoaeaaoaaLopG
import Derived.Test.YtckkjiaoaeaaoaaLopD
import Derived.Laws.StructEq
namespace Go.Proofs.Ytckkjiaoaeaaoaa
open Go.RowKit Go.Sort Go.Maps
set_option linter.unusedVariables false

namespace Lp
def chkA (l : Lo) (s : Sp) (n : Nat) (t : Int) : Int := if rgt l s = 0 then (if 0 ≤ t ∧ t ≤ 4096 then (if n ≤ 1024 then 0 else 8) else 2) else rgt l s
theorem chkA_rgt {l : Lo} {s : Sp} {n : Nat} {t : Int} (h : ¬ rgt l s = 0) : chkA l s n t = rgt l s := if_neg h
theorem chkA_rng {l : Lo} {s : Sp} {n : Nat} {t : Int} (h : rgt l s = 0) (h2 : ¬ (0 ≤ t ∧ t ≤ 4096)) : chkA l s n t = 2 := by unfold chkA; rw [if_pos h, if_neg h2]
theorem chkA_big {l : Lo} {s : Sp} {n : Nat} {t : Int} (h : rgt l s = 0) (h2 : 0 ≤ t ∧ t ≤ 4096) (h3 : ¬ n ≤ 1024) : chkA l s n t = 8 := by unfold chkA; rw [if_pos h, if_pos h2, if_neg h3]
theorem chkA_ok {l : Lo} {s : Sp} {n : Nat} {t : Int} (h : rgt l s = 0) (h2 : 0 ≤ t ∧ t ≤ 4096) (h3 : n ≤ 1024) : chkA l s n t = 0 := by unfold chkA; rw [if_pos h, if_pos h2, if_pos h3]
theorem chkA_inv {l : Lo} {s : Sp} {n : Nat} {t : Int} (h : chkA l s n t = 0) : rgt l s = 0 ∧ (0 ≤ t ∧ t ≤ 4096) ∧ n ≤ 1024 := by
  unfold chkA at h
  split at h
  · split at h
    · split at h
      · exact ⟨by assumption, by assumption, by assumption⟩
      · exact absurd h (by decide)
    · exact absurd h (by decide)
  · rename_i h1; exact absurd h h1
theorem chkA_cases (l : Lo) (s : Sp) (n : Nat) (t : Int) : chkA l s n t = 0 ∨ (chkA l s n t != 0) = true := by
  by_cases h : chkA l s n t = 0
  · exact .inl h
  · exact .inr (by simpa using h)
def ageR (l : Lo) (s : Sp) (ds : List Dv) (t : Int) : List Int := if chkA l s ds.length t = 0 then ageL (fa l s) (fb l s) ds t.toNat else []
end Lp

set_option maxHeartbeats 1000000 in
theorem lcheckA_any (l : Lo) (s : Sp) (A : Option Addr) (n c : Nat) (t : Int) (w : World) :
    Calls Try.prog 38 #[.agg #[.int .i64 l.id, .int .i64 l.se, .int .i64 l.co, .int .i64 l.ac, .int .i64 l.pe, .int .i64 l.ph, .int .i64 l.ag], .agg #[.int .i64 s.s, .int .i64 s.a], .slice A n c, .int .i64 t] w fun e w' => e = .returned (.int .i64 (Lp.chkA l s n t)) ∧ Gr w w' := by
  have C1 := fun W => right_any l s W
  rcases Lp.rgt_cases l s with h | h
  · rw [h] at C1
    by_cases ht : 0 ≤ t ∧ t ≤ 4096
    · by_cases hn : n ≤ 1024
      · have R := Lib.hid (Lp.chkA_ok h ht hn)
        have hz : decide ((1024 : Int) < (n : Int)) = false := bf (by omega)
        obtain ⟨t0, t1⟩ := ht
        clear h hn
        go_enter Try.func38, Try.ntmps38
        go_wp2_with fail
        refine (C1 _).mono ?_
        rintro e w1 ⟨rfl, g1⟩
        have G1 : Aside (Gr w w1) := (Gr.alloc (Gr.alloc (Gr.refl _) _) _).trans g1
        clear g1 C1
        go_wp2_with fail
        go_ret
        exact ⟨ret_int R.out.symm, G1.out⟩
      · have R := Lib.hid (Lp.chkA_big h ht hn)
        have hz : decide ((1024 : Int) < (n : Int)) = true := bt (by omega)
        obtain ⟨t0, t1⟩ := ht
        clear h hn
        go_enter Try.func38, Try.ntmps38
        go_wp2_with fail
        refine (C1 _).mono ?_
        rintro e w1 ⟨rfl, g1⟩
        have G1 : Aside (Gr w w1) := (Gr.alloc (Gr.alloc (Gr.refl _) _) _).trans g1
        clear g1 C1
        go_wp2_with fail
        go_ret
        exact ⟨ret_int R.out.symm, G1.out⟩
    · have R := Lib.hid (Lp.chkA_rng (n := n) h ht)
      clear h
      go_enter Try.func38, Try.ntmps38
      go_wp2_with fail
      refine (C1 _).mono ?_
      rintro e w1 ⟨rfl, g1⟩
      have G1 : Aside (Gr w w1) := (Gr.alloc (Gr.alloc (Gr.refl _) _) _).trans g1
      clear g1 C1
      go_wp2_with fail
      all_goals first | (go_ret; exact ⟨ret_int R.out.symm, G1.out⟩) | (exfalso; omega)
  · have R := Lib.hid (Lp.chkA_rgt (n := n) (t := t) (show ¬ Lp.rgt l s = 0 by simpa using h))
    generalize Lp.rgt l s = E at *
    go_enter Try.func38, Try.ntmps38
    go_wp2_with fail
    refine (C1 _).mono ?_
    rintro e w1 ⟨rfl, g1⟩
    have G1 : Aside (Gr w w1) := (Gr.alloc (Gr.alloc (Gr.refl _) _) _).trans g1
    clear g1 C1
    go_wp2_with fail
    go_ret
    exact ⟨ret_int R.out.symm, G1.out⟩

/-- ints and an error come back -/
def IePost (E : Int) (L : List Int) (w : World) (e : Ending) (w' : World) : Prop := ∃ v, e = .returned (.tuple #[v, .int .i64 E]) ∧ Rows 1 encI w' v L ∧ Gr w w'

set_option maxHeartbeats 1000000 in
theorem agesE_any (l : Lo) (s : Sp) (v : Value) (ds : List Dv) (t : Int) (w : World) (h : Rows 3 encD w v ds) :
    Calls Try.prog 13 #[.agg #[.int .i64 l.id, .int .i64 l.se, .int .i64 l.co, .int .i64 l.ac, .int .i64 l.pe, .int .i64 l.ph, .int .i64 l.ag], .agg #[.int .i64 s.s, .int .i64 s.a], v, .int .i64 t] w (IePost (Lp.chkA l s ds.length t) (Lp.ageR l s ds t) w) := by
  have HD := Lib.hid h
  obtain ⟨A, c, rfl⟩ := h.slice
  have C1 := fun W => lcheckA_any l s A ds.length c t W
  clear h
  rcases Lp.chkA_cases l s ds.length t with hk | hk
  · obtain ⟨hr, ⟨t0, t1⟩, hn⟩ := Lp.chkA_inv hk
    obtain ⟨N, rfl⟩ : ∃ N : Nat, t = (N : Int) := ⟨t.toNat, by omega⟩
    have C2 := fun W g => ages_any l s (.slice A ds.length c) ds N W hr (HD.out.gr (w := W) g) (by omega) (by omega)
    have R : Hid (Lp.ageR l s ds (N : Int) = Lp.ageL (Lp.fa l s) (Lp.fb l s) ds N) := (show _ = _ from if_pos hk)
    rw [hk] at C1 ⊢
    have C2' := Lib.hid C2
    clear hk hr C2
    go_enter Try.func13, Try.ntmps13
    go_wp2_with fail
    refine (C1 _).mono ?_
    rintro e w1 ⟨rfl, g1⟩
    obtain ⟨L1, S1⟩ := boxed2 (enc := encL) (enc2 := encP) (x := l) (y := s) g1
    have u0 := (L1) 0 _ rfl; have u1 := (L1) 1 _ rfl; have u2 := (L1) 2 _ rfl; have u3 := (L1) 3 _ rfl; have u4 := (L1) 4 _ rfl; have u5 := (L1) 5 _ rfl; have u6 := (L1) 6 _ rfl; (try simp only [Nat.add_zero] at u0); (try simp only [Nat.zero_add] at u0 u1 u2 u3 u4 u5 u6)
    have v0 := (S1) 0 _ rfl; have v1 := (S1) 1 _ rfl; (try simp only [Nat.add_zero] at v0); (try simp only [Nat.zero_add] at v0 v1)
    have hz := L1.lt rfl
    have hz2 := S1.lt rfl
    have G1 : Aside (Gr w w1) := (Gr.alloc (Gr.alloc (Gr.refl _) _) _).trans g1
    clear g1 L1 S1 C1
    go_wp2_with fail
    refine (C2'.out _ G1.out).mono ?_
    rintro e w2 ⟨vr, rfl, rr, g2⟩
    have G2 : Aside (Gr w w2) := G1.out.trans g2
    have RR := Lib.hid rr
    clear g2 u0 u1 u2 u3 u4 u5 u6 v0 v1 hz hz2 rr
    go_wp2_with fail
    go_ret2
    exact ⟨vr, rfl, by rw [R.out]; exact RR.out, G2.out⟩
  · have R : Hid (Lp.ageR l s ds t = []) := (show _ = _ from if_neg (by simpa using hk))
    generalize Lp.chkA l s ds.length t = E at *
    go_enter Try.func13, Try.ntmps13
    go_wp2_with fail
    refine (C1 _).mono ?_
    rintro e w1 ⟨rfl, g1⟩
    have G1 : Aside (Gr w w1) := (Gr.alloc (Gr.alloc (Gr.refl _) _) _).trans g1
    clear g1 C1
    go_wp2_with fail
    go_ret2
    exact ⟨.slice none 0 0, rfl, by rw [R.out]; exact Rows.nil _ _, G1.out⟩

theorem eql_fl (w : World) (a b : Fl) : (binOp .eql 47 (.agg (encF a).toArray) (.agg (encF b).toArray)).run Try.prog w = .ok (.bool (decide (a.id = b.id) && decide (a.fr = b.fr) && decide (a.to = b.to) && decide (a.pe = b.pe) && decide (a.ph = b.ph) && decide (a.de = b.de))) w := by
  simp only [binOp]
  have h : (Op.equalIn 10000 47 (.agg (encF a).toArray) (.agg (encF b).toArray)).run Try.prog w = .ok (decide (a.id = b.id) && decide (a.fr = b.fr) && decide (a.to = b.to) && decide (a.pe = b.pe) && decide (a.ph = b.ph) && decide (a.de = b.de)) w := by
    rw [run_equalIn_struct w 9999 47 _ _ (by kernel_rfl) (by kernel_rfl)]
    simp [Program.fieldsOf, Try.underlying47, Op.eqFields, go_sem]
    repeat' split
    all_goals simp_all
  simp [Op.equal, Op.maxDepth, h]
theorem eql_sp (w : World) (a b : Sp) : (binOp .eql 25 (.agg (encP a).toArray) (.agg (encP b).toArray)).run Try.prog w = .ok (.bool (decide (a.s = b.s) && decide (a.a = b.a))) w := by
  simp only [binOp]
  have h : (Op.equalIn 10000 25 (.agg (encP a).toArray) (.agg (encP b).toArray)).run Try.prog w = .ok (decide (a.s = b.s) && decide (a.a = b.a)) w := by
    rw [run_equalIn_struct w 9999 25 _ _ (by kernel_rfl) (by kernel_rfl)]
    simp [Program.fieldsOf, Try.underlying25, Op.eqFields, go_sem]
    repeat' split
    all_goals simp_all
  simp [Op.equal, Op.maxDepth, h]
end Go.Proofs.Ytckkjiaoaeaaoaa
