/- The contracts of allocate's Load and Worst. -/
import Derived.Test.YtkhanjhjcfhhiaaAlcA
import Derived.Test.YtkhanjhjcfhhiaaHeld
namespace Go.Proofs.Ytkhanjhjcfhhiaa
open Go.RowKit Go.Sort
set_option linter.unusedVariables false

/-- a usage lies at a place -/
def UAt (W : World) (b o : Nat) (x : Us) : Prop := ∀ (j : Nat) u, (encU x)[j]? = some u → W.cell? ⟨b, o + j, none⟩ = some u
theorem UAt.gr {W W' : World} {b o : Nat} {x : Us} (h : UAt W b o x) (g : Gr W W') : UAt W' b o x := fun j u hj => held_keep g (h j u hj)
theorem UAt.new (W : World) (x : Us) (t) : UAt (W.alloc (Obj.cells (encU x).toArray t)) W.heap.size 0 x := fun j u hj => by
  rw [World.cell?_alloc_new, Nat.zero_add]
  simpa using hj
/-- a slice of usages: nothing, or a block -/
def USl (w : World) (v : Value) (l : List Us) : Prop := (l.length = 0 ∨ ∃ b off, (∃ c, v = .slice (some ⟨b, off, none⟩) l.length c) ∧ b < w.heap.size ∧ ∀ (i : Nat) x, l[i]? = some x → UAt w b (off + i * 9) x)
theorem Rows.usl {w : World} {v : Value} {l : List Us} (h : Rows 9 encU w v l) : USl w v l := by
  rcases h with ⟨rfl, _⟩ | ⟨b, off, c, hb, hv, hc⟩
  · exact .inl rfl
  · exact .inr ⟨b, off, ⟨c, hv⟩, hb, fun i x hi j u hj => hc i x hi j u hj⟩

set_option maxHeartbeats 2000000 in
theorem load_any (v : Value) (l : List Us) (w : World) (h : Rows 9 encU w v l) (hbig : (l.length : Int) ≤ 4611686018427387904) :
    Calls Try.prog 30 #[v] w fun e w' => e = .returned (.tuple #[.int .i64 (Al.ldU l), .int .i64 (Al.ldP l)]) ∧ Gr w w' := by
  have C1 := check_any v l w h hbig
  rcases Al.chk_cases l with hc | hc
  · have RU : Hid (Al.ldU l = Al.sU l ∧ Al.ldP l = Al.sP l) := (show _ ∧ _ from ⟨if_pos hc, if_pos hc⟩)
    have BD := Lib.hid (Al.s_bd (l := l) (fun j x hx => Al.chk_num hc hx))
    have NUM := Lib.hid (fun (j : Nat) x (hx : l[j]? = some x) => Al.chk_num hc hx)
    have HL := Lib.hid (Al.chk_inv hc).1
    obtain ⟨A, c, rfl⟩ := h.slice
    have US : Aside (USl w (.slice A l.length c) l) := h.usl
    obtain ⟨n, hn⟩ : ∃ n, l.length = n := ⟨_, rfl⟩
    have HN := Lib.hid hn
    rw [hc] at C1
    rw [hn] at hbig C1 ⊢
    clear h hn hc
    go_enter Try.func30, Try.ntmps30
    go_wp2_with fail
    refine C1.mono ?_
    rintro e w1 ⟨rfl, g1⟩
    clear C1
    go_wp2_with fail
    go_loopg [4, 5, 7, 13] n (fun gg s4 s5 _ s13 wr => ∃ kk : Nat, kk ≤ n ∧ n - kk ≤ gg ∧ s13 = .int .i64 (kk : Int) ∧ s4 = .int .i64 (Al.sU (l.take kk)) ∧ s5 = .int .i64 (Al.sP (l.take kk)) ∧ Aside (Gr w wr))
    case atStart => exact ⟨0, Nat.zero_le _, by omega, rfl, rfl, rfl, g1⟩
    case round =>
      obtain ⟨kk, hkk, hgg, rfl, rfl, rfl, G⟩ := hrel
      by_cases hlt : kk < n
      · have hltz : (kk : Int) < (n : Int) := by omega
        obtain ⟨x, hx⟩ : ∃ x, l[kk]? = some x := ⟨_, List.getElem?_eq_getElem (by rw [HN.out]; exact hlt)⟩
        rcases US.out with h0 | ⟨b, off, ⟨c', hv⟩, hb, hU⟩
        · rw [HN.out] at h0; omega
        simp only [Value.slice.injEq] at hv
        obtain ⟨rfl, -, rfl⟩ := hv
        have HU : Aside (UAt wr b (off + kk * 9) x) := (hU kk x hx).gr G.out
        have HB := Lib.hid hb
        clear hU hb
        have l0 := (HU.out) 0 _ rfl; have l1 := (HU.out) 1 _ rfl; have l2 := (HU.out) 2 _ rfl; have l3 := (HU.out) 3 _ rfl; have l4 := (HU.out) 4 _ rfl; have l5 := (HU.out) 5 _ rfl; have l6 := (HU.out) 6 _ rfl; have l7 := (HU.out) 7 _ rfl; have l8 := (HU.out) 8 _ rfl; (try simp only [Nat.add_zero] at l0); (try simp only [Nat.zero_add] at l0 l1 l2 l3 l4 l5 l6 l7 l8)
        have bd := BD.out kk
        have nm := NUM.out kk x hx
        unfold Al.okN at nm
        have hL := HL.out
        rw [HN.out] at hL
        have S1 := Lib.hid (Al.sU_take hx)
        have S2 := Lib.hid (Al.sP_take hx)
        generalize Al.sU (l.take kk) = su at bd S1 ⊢
        generalize Al.sP (l.take kk) = sp at bd S2 ⊢
        obtain ⟨⟨bd1, bd2⟩, ⟨bd3, bd4⟩, -⟩ := bd
        have n1 := nm.2.2.1
        have n2 := nm.2.2.2.1
        have bd5 : su ≤ 4096 := by omega
        have bd6 : sp ≤ 4096 := by omega
        clear nm hx bd2 bd4
        go_wp2_with fail
        go_roundg (n - (kk + 1))
        case measure => omega
        case rel => exact ⟨kk + 1, by omega, by omega, by go_num, by rw [S1.out], by rw [S2.out], by have hgg := G.out; show Gr _ _; repeat (first | (with_reducible exact Gr.refl _) | (with_reducible assumption) | (with_reducible refine Gr.alloc ?_ _) | (with_reducible refine Gr.drewN ?_ _) | (with_reducible refine Gr.drew ?_) | (with_reducible refine Gr.grown ?_ _ _) | (with_reducible refine Gr.regrown ?_ _ _) | (with_reducible refine Gr.setCell ?_ (by first | omega | (simp; omega) | simp) _) | (with_reducible refine Gr.trans ?_ (by with_reducible assumption)))⟩
      · have hltz : ¬ (kk : Int) < (n : Int) := by omega
        have e : l.take kk = l := List.take_of_length_le (by rw [HN.out]; omega)
        rw [e]
        clear e
        go_wp2_with fail
        go_ret2
        exact ⟨ret_int2 RU.out.1.symm RU.out.2.symm, G.out⟩
  · have RU : Hid (Al.ldU l = 0 ∧ Al.ldP l = 0) := (show _ ∧ _ from ⟨if_neg (by simpa using hc), if_neg (by simpa using hc)⟩)
    clear h hbig
    go_enter Try.func30, Try.ntmps30
    go_wp2_with fail
    refine C1.mono ?_
    rintro e w1 ⟨rfl, g1⟩
    clear C1
    go_wp2_with fail
    go_ret2
    exact ⟨ret_int2 RU.out.1.symm RU.out.2.symm, by repeat (first | (with_reducible exact Gr.refl _) | (with_reducible assumption) | (with_reducible refine Gr.alloc ?_ _) | (with_reducible refine Gr.drewN ?_ _) | (with_reducible refine Gr.drew ?_) | (with_reducible refine Gr.grown ?_ _ _) | (with_reducible refine Gr.regrown ?_ _ _) | (with_reducible refine Gr.setCell ?_ (by first | omega | (simp; omega) | simp) _) | (with_reducible refine Gr.trans ?_ (by with_reducible assumption)))⟩

theorem pr_bd {a b : Us} (ha : Al.okN a) (hb : Al.okN b) : 0 ≤ a.wo * b.us ∧ a.wo * b.us ≤ 4096 := by
  unfold Al.okN at ha hb
  refine ⟨Int.mul_nonneg (by omega) (by omega), ?_⟩
  have h1 := Int.mul_le_mul_of_nonneg_right (show a.wo ≤ 64 by omega) (show 0 ≤ b.us by omega)
  omega
set_option maxHeartbeats 400000 in
theorem less1_any (a b : Us) (ha : Al.okN a) (hb : Al.okN b) (w : World) :
    Calls Try.prog 36 #[.agg #[.int .i64 a.c.s, .int .i64 a.c.o, .int .i64 a.c.k, .bool a.c.b, .int .i64 a.c.p, .int .i64 a.c.f, .int .i64 a.pa, .int .i64 a.us, .int .i64 a.wo], .agg #[.int .i64 b.c.s, .int .i64 b.c.o, .int .i64 b.c.k, .bool b.c.b, .int .i64 b.c.p, .int .i64 b.c.f, .int .i64 b.pa, .int .i64 b.us, .int .i64 b.wo], .int .i64 1] w fun e w' => e = .returned (.bool (Al.ls a b)) ∧ Gr w w' := by
  obtain ⟨p1, p2⟩ := pr_bd ha hb
  obtain ⟨q1, q2⟩ := pr_bd hb ha
  have a1 : 0 ≤ a.wo := ha.2.2.2.2.1
  have a2 : a.wo ≤ 64 := by unfold Al.okN at ha; omega
  clear ha hb
  go_enter Try.func36, Try.ntmps36
  go_wp2_with fail
  go_ret
  exact ⟨ret_bool (by unfold Al.ls; simp), by repeat (first | (with_reducible exact Gr.refl _) | (with_reducible assumption) | (with_reducible refine Gr.alloc ?_ _) | (with_reducible refine Gr.drewN ?_ _) | (with_reducible refine Gr.drew ?_) | (with_reducible refine Gr.grown ?_ _ _) | (with_reducible refine Gr.regrown ?_ _ _) | (with_reducible refine Gr.setCell ?_ (by first | omega | (simp; omega) | simp) _) | (with_reducible refine Gr.trans ?_ (by with_reducible assumption)))⟩
set_option maxHeartbeats 400000 in
theorem less2_any (a b : Us) (ha : Al.okN a) (hb : Al.okN b) (w : World) :
    Calls Try.prog 36 #[.agg #[.int .i64 a.c.s, .int .i64 a.c.o, .int .i64 a.c.k, .bool a.c.b, .int .i64 a.c.p, .int .i64 a.c.f, .int .i64 a.pa, .int .i64 a.us, .int .i64 a.wo], .agg #[.int .i64 b.c.s, .int .i64 b.c.o, .int .i64 b.c.k, .bool b.c.b, .int .i64 b.c.p, .int .i64 b.c.f, .int .i64 b.pa, .int .i64 b.us, .int .i64 b.wo], .int .i64 2] w fun e w' => e = .returned (.bool (Al.ls2 a b)) ∧ Gr w w' := by
  obtain ⟨p1, p2⟩ := pr_bd ha hb
  obtain ⟨q1, q2⟩ := pr_bd hb ha
  have a1 : 0 ≤ a.wo := ha.2.2.2.2.1
  have a2 : a.wo ≤ 64 := by unfold Al.okN at ha; omega
  have e : 2 * a.wo * b.us = 2 * (a.wo * b.us) := Int.mul_assoc _ _ _
  have p3 : 0 ≤ 2 * a.wo * b.us := by omega
  have p4 : 2 * a.wo * b.us ≤ 8192 := by omega
  clear ha hb e
  go_enter Try.func36, Try.ntmps36
  go_wp2_with fail
  go_ret
  exact ⟨ret_bool (by unfold Al.ls2; simp), by repeat (first | (with_reducible exact Gr.refl _) | (with_reducible assumption) | (with_reducible refine Gr.alloc ?_ _) | (with_reducible refine Gr.drewN ?_ _) | (with_reducible refine Gr.drew ?_) | (with_reducible refine Gr.grown ?_ _ _) | (with_reducible refine Gr.regrown ?_ _ _) | (with_reducible refine Gr.setCell ?_ (by first | omega | (simp; omega) | simp) _) | (with_reducible refine Gr.trans ?_ (by with_reducible assumption)))⟩
end Go.Proofs.Ytkhanjhjcfhhiaa
