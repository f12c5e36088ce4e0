/- The contracts of package loop's flows and Flows. -/
import Derived.Test.YtckkjiaoaeaaoaaLopB
import Derived.Deep.RegionHeld3
namespace Go.Proofs.Ytckkjiaoaeaaoaa
open Go.RowKit Go.Sort
set_option linter.unusedVariables false

theorem run_rem_pos (x y : Int) (h0 : 0 ≤ x) (h1 : 1 ≤ y) (w : World) : (binOp .rem 3 (.int .i64 x) (.int .i64 y)).run Try.prog w = .ok (.int .i64 (x % y)) w := by
  simp only [binOp]
  go_simp
  rw [if_neg (by omega), Int.tmod_eq_emod_of_nonneg h0]
/-- the zero flow -/
abbrev z0 : Fl := ⟨0, 0, 0, 0, 0, 0⟩
/-- what lies in memory before the second flow is made: the loop, the split, the two results, the first flow -/
def Five (W : World) (h : Nat) (l : Lo) (s : Sp) (a : Fl) : Prop := At encL W h 0 l ∧ At encP W (h + 1) 0 s ∧ At encF W (h + 1 + 1) 0 z0 ∧ At encF W (h + 1 + 1 + 1) 0 z0 ∧ At encF W (h + 1 + 1 + 1 + 1) 0 a
theorem Five.gr {W W' : World} {h : Nat} {l : Lo} {s : Sp} {a : Fl} (k : Five W h l s a) (g : Gr W W') : Five W' h l s a := ⟨k.1.gr g, k.2.1.gr g, k.2.2.1.gr g, k.2.2.2.1.gr g, k.2.2.2.2.gr g⟩
theorem five_new (w : World) (l : Lo) (s : Sp) (a : Fl) (tl ts tf : TypeId) :
    Five (((((w.alloc (Obj.cells (encL l).toArray tl)).alloc (Obj.cells (encP s).toArray ts)).alloc (Obj.cells (encF z0).toArray tf)).alloc (Obj.cells (encF z0).toArray tf)).alloc (Obj.cells (encF a).toArray tf)) w.heap.size l s a := by
  have n1 := At.new encL w l tl
  have n2 := At.new encP (w.alloc (Obj.cells (encL l).toArray tl)) s ts
  have n3 := At.new encF ((w.alloc (Obj.cells (encL l).toArray tl)).alloc (Obj.cells (encP s).toArray ts)) z0 tf
  have n4 := At.new encF (((w.alloc (Obj.cells (encL l).toArray tl)).alloc (Obj.cells (encP s).toArray ts)).alloc (Obj.cells (encF z0).toArray tf)) z0 tf
  have n5 := At.new encF ((((w.alloc (Obj.cells (encL l).toArray tl)).alloc (Obj.cells (encP s).toArray ts)).alloc (Obj.cells (encF z0).toArray tf)).alloc (Obj.cells (encF z0).toArray tf)) a tf
  simp only [World.size_alloc] at n2 n3 n4 n5
  have g : ∀ {a : World} (o : Obj), Gr a (a.alloc o) := fun o => Gr.alloc (Gr.refl _) o
  exact ⟨(((n1.gr (g _)).gr (g _)).gr (g _)).gr (g _), ((n2.gr (g _)).gr (g _)).gr (g _), (n3.gr (g _)).gr (g _), n4.gr (g _), n5⟩

set_option maxHeartbeats 2000000 in
set_option maxRecDepth 100000 in
theorem flows_any (l : Lo) (s : Sp) (w : World) (h : Lp.rgt l s = 0) :
    Calls Try.prog 46 #[.agg #[.int .i64 l.id, .int .i64 l.se, .int .i64 l.co, .int .i64 l.ac, .int .i64 l.pe, .int .i64 l.ph, .int .i64 l.ag], .agg #[.int .i64 s.s, .int .i64 s.a]] w fun e w' => e = .returned (.tuple #[.agg #[.int .i64 (Lp.fa l s).id, .int .i64 (Lp.fa l s).fr, .int .i64 (Lp.fa l s).to, .int .i64 (Lp.fa l s).pe, .int .i64 (Lp.fa l s).ph, .int .i64 (Lp.fa l s).de], .agg #[.int .i64 (Lp.fb l s).id, .int .i64 (Lp.fb l s).fr, .int .i64 (Lp.fb l s).to, .int .i64 (Lp.fb l s).pe, .int .i64 (Lp.fb l s).ph, .int .i64 (Lp.fb l s).de]]) ∧ Gr w w' := by
  obtain ⟨⟨⟨⟨⟨i1, i2⟩, -⟩, ⟨p1, p2⟩, ⟨p3, p4⟩, -⟩, -⟩, f1, f2, f3, f4, -⟩ := Lp.rgt_inv h
  clear h
  have e1 : IntKind.i64.wrap (2 * l.id) = 2 * l.id := IntWalk.i64_in _ (by omega)
  have e2 : IntKind.i64.wrap (2 * l.id + 1) = 2 * l.id + 1 := IntWalk.i64_in _ (by omega)
  have e3 : IntKind.i64.wrap (l.ph + s.s) = l.ph + s.s := IntWalk.i64_in _ (by omega)
  have e4 : 0 ≤ l.ph + s.s := by omega
  have e5 : (l.ph + s.s).tmod l.pe = (l.ph + s.s) % l.pe := Int.tmod_eq_emod_of_nonneg e4
  have e6 : ¬ l.pe = 0 := by omega
  have mixed : Try.prog.follows .mixedOrders = true := by kernel_rfl
  simp only [Lp.fa, Lp.fb]
  go_enter Try.func46, Try.ntmps46
  go_wp2_with fail
  have F5 := Lib.hid (five_new w l s ⟨2 * l.id, l.se, l.co, l.pe, l.ph, s.s⟩ 23 25 47)
  have G5 : Aside (Gr w (((((w.alloc (Obj.cells (encL l).toArray 23)).alloc (Obj.cells (encP s).toArray 25)).alloc (Obj.cells (encF z0).toArray 47)).alloc (Obj.cells (encF z0).toArray 47)).alloc (Obj.cells (encF ⟨2 * l.id, l.se, l.co, l.pe, l.ph, s.s⟩).toArray 47))) := Gr.alloc (Gr.alloc (Gr.alloc (Gr.alloc (Gr.alloc (Gr.refl _) _) _) _) _) _
  have Z5 : Aside (∀ j, (((((w.alloc (Obj.cells (encL l).toArray 23)).alloc (Obj.cells (encP s).toArray 25)).alloc (Obj.cells (encF z0).toArray 47)).alloc (Obj.cells (encF z0).toArray 47)).alloc (Obj.cells (encF ⟨2 * l.id, l.se, l.co, l.pe, l.ph, s.s⟩).toArray 47)).frozen? ⟨w.heap.size + 1 + 1, j, none⟩ = false ∧ (((((w.alloc (Obj.cells (encL l).toArray 23)).alloc (Obj.cells (encP s).toArray 25)).alloc (Obj.cells (encF z0).toArray 47)).alloc (Obj.cells (encF z0).toArray 47)).alloc (Obj.cells (encF ⟨2 * l.id, l.se, l.co, l.pe, l.ph, s.s⟩).toArray 47)).frozen? ⟨w.heap.size + 1 + 1 + 1, j, none⟩ = false) := fun j => by constructor <;> go_simp
  have HS : Aside ((((((w.alloc (Obj.cells (encL l).toArray 23)).alloc (Obj.cells (encP s).toArray 25)).alloc (Obj.cells (encF z0).toArray 47)).alloc (Obj.cells (encF z0).toArray 47)).alloc (Obj.cells (encF ⟨2 * l.id, l.se, l.co, l.pe, l.ph, s.s⟩).toArray 47)).heap.size = w.heap.size + 1 + 1 + 1 + 1 + 1) := by show _ = _; simp only [World.size_alloc]
  generalize ((((w.alloc (Obj.cells (encL l).toArray 23)).alloc (Obj.cells (encP s).toArray 25)).alloc (Obj.cells (encF z0).toArray 47)).alloc (Obj.cells (encF z0).toArray 47)).alloc (Obj.cells (encF ⟨2 * l.id, l.se, l.co, l.pe, l.ph, s.s⟩).toArray 47) = W5 at F5 G5 Z5 HS ⊢
  have KG : Aside (∀ W, Gr W5 W → (Gr W5 W ∧ W.cell? ⟨w.heap.size, 0, none⟩ = some (.int .i64 l.id) ∧ W.cell? ⟨w.heap.size, 2, none⟩ = some (.int .i64 l.co) ∧ W.cell? ⟨w.heap.size, 3, none⟩ = some (.int .i64 l.ac) ∧ W.cell? ⟨w.heap.size, 4, none⟩ = some (.int .i64 l.pe) ∧ W.cell? ⟨w.heap.size, 5, none⟩ = some (.int .i64 l.ph) ∧ W.cell? ⟨w.heap.size + 1, 0, none⟩ = some (.int .i64 s.s) ∧ W.cell? ⟨w.heap.size + 1, 1, none⟩ = some (.int .i64 s.a))) := fun W gW => by
    have q := F5.out.gr gW
    exact ⟨gW, by simpa using q.1 0 _ rfl, by simpa using q.1 2 _ rfl, by simpa using q.1 3 _ rfl, by simpa using q.1 4 _ rfl, by simpa using q.1 5 _ rfl, by simpa using q.2.1 0 _ rfl, by simpa using q.2.1 1 _ rfl⟩
  go_region_held3 (fun W => Gr W5 W ∧ W.cell? ⟨w.heap.size, 0, none⟩ = some (.int .i64 l.id) ∧ W.cell? ⟨w.heap.size, 2, none⟩ = some (.int .i64 l.co) ∧ W.cell? ⟨w.heap.size, 3, none⟩ = some (.int .i64 l.ac) ∧ W.cell? ⟨w.heap.size, 4, none⟩ = some (.int .i64 l.pe) ∧ W.cell? ⟨w.heap.size, 5, none⟩ = some (.int .i64 l.ph) ∧ W.cell? ⟨w.heap.size + 1, 0, none⟩ = some (.int .i64 s.s) ∧ W.cell? ⟨w.heap.size + 1, 1, none⟩ = some (.int .i64 s.a)) ((refine KG.out _ ?_; (repeat (first | assumption | exact And.left (by assumption) | exact Gr.refl _ | refine Gr.drew ?_ | refine Gr.alloc ?_ _ | refine Gr.setCell ?_ (by first | exact Nat.le_refl _ | omega) _ | refine Gr.trans ?_ (by assumption))))) ((fail))
  have G6 : Aside (Gr w (W5.alloc (Obj.cells (encF ⟨2 * l.id + 1, l.co, l.ac, l.pe, (l.ph + s.s) % l.pe, s.a⟩).toArray 47)).drew) := Gr.drew (Gr.alloc G5.out _)
  have F6 : Aside (Five (W5.alloc (Obj.cells (encF ⟨2 * l.id + 1, l.co, l.ac, l.pe, (l.ph + s.s) % l.pe, s.a⟩).toArray 47)).drew w.heap.size l s ⟨2 * l.id, l.se, l.co, l.pe, l.ph, s.s⟩) := F5.out.gr (Gr.drew (Gr.alloc (Gr.refl _) _))
  have B6 : Aside (At encF (W5.alloc (Obj.cells (encF ⟨2 * l.id + 1, l.co, l.ac, l.pe, (l.ph + s.s) % l.pe, s.a⟩).toArray 47)).drew W5.heap.size 0 ⟨2 * l.id + 1, l.co, l.ac, l.pe, (l.ph + s.s) % l.pe, s.a⟩) := (At.new encF _ _ _).gr (Gr.drew (Gr.refl _))
  have Z6 : Aside (∀ j, (W5.alloc (Obj.cells (encF ⟨2 * l.id + 1, l.co, l.ac, l.pe, (l.ph + s.s) % l.pe, s.a⟩).toArray 47)).drew.frozen? ⟨w.heap.size + 1 + 1, j, none⟩ = false ∧ (W5.alloc (Obj.cells (encF ⟨2 * l.id + 1, l.co, l.ac, l.pe, (l.ph + s.s) % l.pe, s.a⟩).toArray 47)).drew.frozen? ⟨w.heap.size + 1 + 1 + 1, j, none⟩ = false) := fun j => by
    have hz := HS.out
    have g6 : Gr W5 (W5.alloc (Obj.cells (encF ⟨2 * l.id + 1, l.co, l.ac, l.pe, (l.ph + s.s) % l.pe, s.a⟩).toArray 47)).drew := Gr.drew (Gr.alloc (Gr.refl _) _)
    exact ⟨(g6.frozen (p := ⟨w.heap.size + 1 + 1, j, none⟩) (by show w.heap.size + 1 + 1 < W5.heap.size; omega)).trans (Z5.out j).1, (g6.frozen (p := ⟨w.heap.size + 1 + 1 + 1, j, none⟩) (by show w.heap.size + 1 + 1 + 1 < W5.heap.size; omega)).trans (Z5.out j).2⟩
  have HB := HS.out
  generalize (W5.alloc (Obj.cells (encF ⟨2 * l.id + 1, l.co, l.ac, l.pe, (l.ph + s.s) % l.pe, s.a⟩).toArray 47)).drew = W6 at G6 F6 B6 Z6 ⊢
  generalize W5.heap.size = b6 at B6 HB ⊢
  subst HB
  clear F5 G5 Z5 HS KG
  have fa := F6.out.2.2.1
  have fb := F6.out.2.2.2.1
  have fc := F6.out.2.2.2.2
  have c0 := (fa) 0 _ rfl; have c1 := (fa) 1 _ rfl; have c2 := (fa) 2 _ rfl; have c3 := (fa) 3 _ rfl; have c4 := (fa) 4 _ rfl; have c5 := (fa) 5 _ rfl; (try simp only [Nat.add_zero] at c0); (try simp only [Nat.zero_add] at c0 c1 c2 c3 c4 c5)
  have d0 := (fb) 0 _ rfl; have d1 := (fb) 1 _ rfl; have d2 := (fb) 2 _ rfl; have d3 := (fb) 3 _ rfl; have d4 := (fb) 4 _ rfl; have d5 := (fb) 5 _ rfl; (try simp only [Nat.add_zero] at d0); (try simp only [Nat.zero_add] at d0 d1 d2 d3 d4 d5)
  have u0 := (fc) 0 _ rfl; have u1 := (fc) 1 _ rfl; have u2 := (fc) 2 _ rfl; have u3 := (fc) 3 _ rfl; have u4 := (fc) 4 _ rfl; have u5 := (fc) 5 _ rfl; (try simp only [Nat.add_zero] at u0); (try simp only [Nat.zero_add] at u0 u1 u2 u3 u4 u5)
  have v0 := (B6.out) 0 _ rfl; have v1 := (B6.out) 1 _ rfl; have v2 := (B6.out) 2 _ rfl; have v3 := (B6.out) 3 _ rfl; have v4 := (B6.out) 4 _ rfl; have v5 := (B6.out) 5 _ rfl; (try simp only [Nat.add_zero] at v0); (try simp only [Nat.zero_add] at v0 v1 v2 v3 v4 v5)
  have y2 := fun j => (Z6.out j).1
  have y3 := fun j => (Z6.out j).2
  clear fa fb fc
  generalize hqr : (l.ph + s.s) % l.pe = qr at F6 G6 B6 v0 v1 v2 v3 v4 v5 ⊢
  have HQR := Lib.hid hqr
  clear hqr e4 e5 e6
  go_wp2_with fail
  go_region
  go_wp2_with fail
  refine bodyPost_ret (v := .tuple #[.agg #[.int .i64 (2 * l.id), .int .i64 l.se, .int .i64 l.co, .int .i64 l.pe, .int .i64 l.ph, .int .i64 s.s], .agg #[.int .i64 (2 * l.id + 1), .int .i64 l.co, .int .i64 l.ac, .int .i64 l.pe, .int .i64 qr, .int .i64 s.a]]) (by simp only [results, Try.results46]; go_simp) rfl ⟨by rw [HQR.out], ?_⟩
  refine Gr.drew ?_
  (repeat (first | (with_reducible exact (G6).out) | (with_reducible refine Gr.alloc ?_ _) | ((with_reducible refine Gr.setCell ?_ ?_ _); rotate_left; exact (by first | (show w.heap.size ≤ w.heap.size + 1 + 1; omega) | (show w.heap.size ≤ w.heap.size + 1 + 1 + 1; omega)))))

/-- flows and an error come back -/
def FlPost (E : Int) (L : List Fl) (w : World) (e : Ending) (w' : World) : Prop := ∃ v, e = .returned (.tuple #[v, .int .i64 E]) ∧ Rows 6 encF w' v L ∧ Gr w w'
theorem rows_two {α : Type} {k : Nat} {enc : α → List Value} {W : World} {b : Nat} {x y : α} (hk : ∀ x, (enc x).length = k) (hb : b < W.heap.size) (h : ∀ j u, (enc x ++ enc y)[j]? = some u → W.cell? ⟨b, j, none⟩ = some u) (c : Nat) : Rows k enc W (.slice (some ⟨b, 0, none⟩) 2 c) [x, y] := by
  refine Rows.take hb rfl fun i z hi j u hj => ?_
  have hjk : j < k := by
    have := (List.getElem?_eq_some_iff.1 hj).1
    rwa [hk] at this
  show W.cell? ⟨b, 0 + i * k + j, none⟩ = some u
  refine h _ u ?_
  match i, hi with
  | 0, hi =>
    simp only [List.getElem?_cons_zero, Option.some.injEq] at hi
    subst hi
    rw [Nat.zero_mul, Nat.add_zero, Nat.zero_add, List.getElem?_append_left (by rw [hk]; exact hjk)]
    exact hj
  | 1, hi =>
    simp only [List.getElem?_cons_succ, List.getElem?_cons_zero, Option.some.injEq] at hi
    subst hi
    rw [Nat.one_mul, Nat.zero_add, List.getElem?_append_right (by rw [hk]; omega), hk, Nat.add_sub_cancel_left]
    exact hj
  | i + 2, hi => simp at hi
theorem rows_new2 {α : Type} {k : Nat} {enc : α → List Value} (W : World) (x y : α) (hk : ∀ x, (enc x).length = k) (t : TypeId) (c : Nat) : Rows k enc (W.alloc (Obj.cells (enc x ++ enc y).toArray t)) (.slice (some ⟨W.heap.size, 0, none⟩) 2 c) [x, y] :=
  rows_two hk (by simp) (fun j u hj => by rw [World.cell?_alloc_new]; simpa using hj) c

set_option maxHeartbeats 2000000 in
theorem flowsE_any (l : Lo) (s : Sp) (w : World) :
    Calls Try.prog 19 #[.agg #[.int .i64 l.id, .int .i64 l.se, .int .i64 l.co, .int .i64 l.ac, .int .i64 l.pe, .int .i64 l.ph, .int .i64 l.ag], .agg #[.int .i64 s.s, .int .i64 s.a]] w (FlPost (Lp.rgt l s) (Lp.flwL l s) w) := by
  have C1 := fun W => right_any l s W
  rcases Lp.rgt_cases l s with h | h
  · have C2 := fun W => flows_any l s W h
    have R : Hid (Lp.flwL l s = [Lp.fa l s, Lp.fb l s]) := (show _ = _ from if_pos h)
    rw [h] at C1 ⊢
    generalize Lp.fa l s = fa at C2 R
    generalize Lp.fb l s = fb at C2 R
    clear h
    go_enter Try.func19, Try.ntmps19
    go_wp2_with fail
    refine (C1 _).mono ?_
    rintro e w1 ⟨rfl, g1⟩
    obtain ⟨L1, S1⟩ := boxed2 (enc := encL) (enc2 := encP) (x := l) (y := s) g1
    have u0 := (L1) 0 _ rfl; have u1 := (L1) 1 _ rfl; have u2 := (L1) 2 _ rfl; have u3 := (L1) 3 _ rfl; have u4 := (L1) 4 _ rfl; have u5 := (L1) 5 _ rfl; have u6 := (L1) 6 _ rfl; (try simp only [Nat.add_zero] at u0); (try simp only [Nat.zero_add] at u0 u1 u2 u3 u4 u5 u6)
    have v0 := (S1) 0 _ rfl; have v1 := (S1) 1 _ rfl; (try simp only [Nat.add_zero] at v0); (try simp only [Nat.zero_add] at v0 v1)
    have hz := L1.lt rfl
    have hz2 := S1.lt rfl
    have G1 : Aside (Gr w w1) := (Gr.alloc (Gr.alloc (Gr.refl _) _) _).trans g1
    clear g1 L1 S1 C1
    go_wp2_with fail
    refine (C2 _).mono ?_
    rintro e w2 ⟨rfl, g2⟩
    have G2 : Aside (Gr w w2) := G1.out.trans g2
    clear g2 C2 u0 u1 u2 u3 u4 u5 u6 v0 v1 hz hz2
    go_wp2_with fail
    go_ret2
    refine ⟨.slice (some ⟨w2.heap.size + 1 + 1, 0, none⟩) 2 2, ret_vi rfl rfl, ?_, by have hgg := G2.out; repeat (first | (with_reducible exact Gr.refl _) | (with_reducible assumption) | (with_reducible refine Gr.alloc ?_ _) | (with_reducible refine Gr.drewN ?_ _) | (with_reducible refine Gr.drew ?_) | (with_reducible refine Gr.grown ?_ _ _) | (with_reducible refine Gr.regrown ?_ _ _) | (with_reducible refine Gr.setCell ?_ (by first | omega | (simp; omega) | simp) _) | (with_reducible refine Gr.trans ?_ (by with_reducible assumption)))⟩
    have RW := rows_new2 ((w2.alloc (Obj.cells (encF fa).toArray 47)).alloc (Obj.cells (encF fb).toArray 47)) fa fb encF_len 47 2
    simp only [World.size_alloc] at RW
    rw [R.out]
    exact RW
  · have R : Hid (Lp.flwL l s = []) := (show _ = _ from if_neg (by simpa using h))
    generalize Lp.rgt l s = E at *
    go_enter Try.func19, Try.ntmps19
    go_wp2_with fail
    refine (C1 _).mono ?_
    rintro e w1 ⟨rfl, g1⟩
    have G1 : Aside (Gr w w1) := (Gr.alloc (Gr.alloc (Gr.refl _) _) _).trans g1
    clear g1 C1
    go_wp2_with fail
    go_ret2
    exact ⟨.slice none 0 0, rfl, by rw [R.out]; exact Rows.nil _ _, G1.out⟩
end Go.Proofs.Ytckkjiaoaeaaoaa
