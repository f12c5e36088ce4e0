/- The contract of the law's deliver: the deliveries of samples, with latencies. -/
import Derived.Test.YtckkjiaoaeaaoaaLopFew
import Derived.Test.YtckkjiaoaeaaoaaLopD
import Derived.Deep.AppendLies
import Derived.Deep.RegionHeld3
import Derived.Shelf.Abstract
namespace Go.Proofs.Ytckkjiaoaeaaoaa
open Go.RowKit Go.Sort
set_option linter.unusedVariables false

/-- a byte -/
abbrev encU (n : Int) : List Value := [.int .u8 n]
theorem encU_len (n : Int) : (encU n).length = 1 := rfl
def okU (n : Int) : Prop := 0 ≤ n ∧ n ≤ 255
namespace Lp
/-- the latency that is given, at most so much -/
def lat (m : Int) (xs : List Int) (i : Nat) : Int := match xs[i]? with | none => m | some x => 1 + x % m
theorem lat_bd {m : Int} (hm : 1 ≤ m) (xs : List Int) (i : Nat) : 1 ≤ lat m xs i ∧ lat m xs i ≤ m := by
  unfold lat
  cases xs[i]? with
  | none => simp only; omega
  | some x =>
    simp only
    have := Int.emod_nonneg x (show m ≠ 0 by omega)
    have := Int.emod_lt_of_pos x (show 0 < m by omega)
    omega
theorem lat_nil (m : Int) : lat m [] = fun _ => m := by funext i; rfl
theorem lat_no {m : Int} {xs : List Int} {i : Nat} (h : xs[i]? = none) : lat m xs i = m := by unfold lat; rw [h]
theorem lat_at {m : Int} {xs : List Int} {i : Nat} {x : Int} (h : xs[i]? = some x) : lat m xs i = 1 + x % m := by unfold lat; rw [h]
theorem dlv_succ (l : Lo) (s : Sp) (la lb : Nat → Int) (n : Nat) : dlv l s la lb (n + 1) = (dlv l s la lb n ++ [dA l s la n]) ++ [dB l s lb n] := rfl
end Lp

set_option maxHeartbeats 1000000 in
theorem at_any (v : Value) (xs : List Int) (i : Nat) (m : Int) (w : World) (h : Rows 1 encU w v xs) (hx : ∀ x ∈ xs, okU x) (hl : (xs.length : Int) ≤ 9223372036854775807) (h1 : 1 ≤ m) (h2 : m ≤ 512) (hi : i ≤ 1000) :
    Calls Try.prog 40 #[v, .int .i64 (i : Int), .int .i64 m] w fun e w' => e = .returned (.int .i64 (Lp.lat m xs i)) ∧ Gr w w' := by
  obtain ⟨n, hn⟩ : ∃ n, xs.length = n := ⟨_, rfl⟩
  cases q : xs[i]? with
  | none =>
    have R := Lib.hid (Lp.lat_no (m := m) q)
    obtain ⟨A, c, rfl⟩ := h.slice
    have hin : n ≤ i := by rw [← hn]; exact List.getElem?_eq_none_iff.1 q
    have hz : (n : Int) ≤ (i : Int) := by omega
    rw [hn] at hl ⊢
    clear h q hx hn hin
    go_enter Try.func40, Try.ntmps40
    go_wp2_with fail
    go_ret
    exact ⟨ret_int R.out.symm, Gr.refl _⟩
  | some x =>
    obtain ⟨x0, x1⟩ := hx x (List.mem_of_getElem? q)
    have R := Lib.hid (Lp.lat_at (m := m) q)
    have hin : i < n := by rw [← hn]; exact (List.getElem?_eq_some_iff.1 q).1
    have hz : (i : Int) < (n : Int) := by omega
    have hz2 : ¬ (n : Int) ≤ (i : Int) := by omega
    rcases h with ⟨rfl, _⟩ | ⟨b, off, c, hb, rfl, hc⟩
    · simp at q
    have c0 := hc i x q 0 _ rfl
    rw [Nat.mul_one, Nat.add_zero] at c0
    have hy0 := Int.emod_nonneg x (show m ≠ 0 by omega)
    have hy1 := Int.emod_lt_of_pos x (show 0 < m by omega)
    have hy2 : x.tmod m = x % m := Int.tmod_eq_emod_of_nonneg x0
    have hm0 : ¬ m = 0 := by omega
    generalize x % m = y at hy0 hy1 hy2 R
    rw [hn] at hl ⊢
    clear hc q hx hn hin
    go_enter Try.func40, Try.ntmps40
    go_wp2_with fail
    go_ret
    exact ⟨ret_int R.out.symm, Gr.refl _⟩

theorem infoD : (Try.prog.info? 56).map (fun i => (i.zero, i.size, i.bytes)) = some (some (.agg #[.int .i64 0, .int .i64 0, .int .i64 0]), 3, 24) := by kernel_rfl
/-- deliveries come back -/
def DsPost (L : List Dv) (w : World) (e : Ending) (w' : World) : Prop := ∃ v, e = .returned v ∧ Rows 3 encD w' v L ∧ Gr w w'

set_option maxHeartbeats 8000000 in
set_option maxRecDepth 100000 in
theorem deliver_any (l : Lo) (s : Sp) (N : Nat) (v3 v4 : Value) (xs ys : List Int) (w : World) (hr : Lp.rgt l s = 0) (hN : N ≤ 8) (h3 : Rows 1 encU w v3 xs) (h4 : Rows 1 encU w v4 ys)
    (b3 : (xs.length : Int) ≤ 9223372036854775807) (b4 : (ys.length : Int) ≤ 9223372036854775807) (k3 : ∀ x ∈ xs, okU x) (k4 : ∀ x ∈ ys, okU x) :
    Calls Try.prog 14 #[.agg #[.int .i64 l.id, .int .i64 l.se, .int .i64 l.co, .int .i64 l.ac, .int .i64 l.pe, .int .i64 l.ph, .int .i64 l.ag], .agg #[.int .i64 s.s, .int .i64 s.a], .int .i64 (N : Int), v3, v4] w (DsPost (Lp.dlv l s (Lp.lat s.s xs) (Lp.lat s.a ys) N) w) := by
  obtain ⟨i0, hi, hz0, hz1, hz2⟩ := info_parts infoD
  have PM := Lib.hid (fun (i : Nat) (h : i < N) => Lp.pe_mul hr h hN)
  obtain ⟨fb0, fb1⟩ := Lp.first_bd hr
  obtain ⟨⟨⟨⟨⟨i1, i2⟩, -⟩, ⟨p1, p2⟩, ⟨p3, p4⟩, -⟩, -⟩, f1, f2, f3, f4, f5, -⟩ := Lp.rgt_inv hr
  have AT3 := Lib.hid (fun (W : World) (g : Gr w W) (i : Nat) (hi : i ≤ 1000) => at_any v3 xs i s.s W (h3.gr g) k3 b3 f1 (by omega) hi)
  have AT4 := Lib.hid (fun (W : World) (g : Gr w W) (i : Nat) (hi : i ≤ 1000) => at_any v4 ys i s.a W (h4.gr g) k4 b4 f2 (by omega) hi)
  have LB3 := Lib.hid (fun i => Lp.lat_bd f1 xs i)
  have LB4 := Lib.hid (fun i => Lp.lat_bd f2 ys i)
  obtain ⟨la, hla⟩ : ∃ la, Lp.lat s.s xs = la := ⟨_, rfl⟩
  obtain ⟨lb, hlb⟩ : ∃ lb, Lp.lat s.a ys = lb := ⟨_, rfl⟩
  rw [hla] at AT3 LB3 ⊢
  rw [hlb] at AT4 LB4 ⊢
  have e3 : (l.ph + s.s).tdiv l.pe = (l.ph + s.s) / l.pe := Int.tdiv_eq_ediv_of_nonneg (by omega)
  obtain ⟨fi, hfi⟩ : ∃ fi, (l.ph + s.s) / l.pe = fi := ⟨_, rfl⟩
  have HFI := Lib.hid hfi
  rw [hfi] at e3 fb0 fb1
  have e4 : ¬ l.pe = 0 := by omega
  clear hr h3 h4 b3 b4 k3 k4 hla hlb hfi
  go_enter Try.func14, Try.ntmps14
  go_wp2_with fail
  obtain ⟨L0, S0⟩ := boxed2 (enc := encL) (enc2 := encP) (x := l) (y := s) (Gr.refl ((w.alloc (Obj.cells (encL l).toArray 23)).alloc (Obj.cells (encP s).toArray 25)))
  have G0 : Aside (Gr w ((w.alloc (Obj.cells (encL l).toArray 23)).alloc (Obj.cells (encP s).toArray 25))) := Gr.alloc (Gr.alloc (Gr.refl _) _) _
  generalize ((w.alloc (Obj.cells (encL l).toArray 23)).alloc (Obj.cells (encP s).toArray 25)) = w0 at L0 S0 G0 ⊢
  have LL := Lib.hid L0
  have SS := Lib.hid S0
  clear L0 S0 e3 e4
  go_loopg [11, 14, 15, 25] N (fun gg s11 _ _ s25 wr => ∃ kk : Nat, kk ≤ N ∧ N - kk ≤ gg ∧ s25 = .int .i64 (kk : Int) ∧ Aside (Gr w0 wr) ∧ Aside (wr.ownsRow w0.heap.size 56 3 s11 (2 * kk) (((Lp.dlv l s la lb kk).map encD).flatten)))
  case atStart => exact ⟨0, Nat.zero_le _, by omega, rfl, Gr.refl _, World.ownsRow_nil _ _ _ _⟩
  case round =>
    obtain ⟨kk, hkk, hgg, rfl, G, O⟩ := hrel
    have GW : Aside (Gr w wr) := G0.out.trans G.out
    by_cases hlt : kk < N
    · have hltz : (kk : Int) < (N : Int) := by omega
      obtain ⟨m0, m1⟩ := PM.out kk hlt
      obtain ⟨la0, la1⟩ := LB3.out kk
      obtain ⟨lb0, lb1⟩ := LB4.out kk
      have L1 := Lib.hid (LL.out.gr G.out)
      have S1 := Lib.hid (SS.out.gr G.out)
      have u0 := (L1.out) 0 _ rfl; have u1 := (L1.out) 1 _ rfl; have u2 := (L1.out) 2 _ rfl; have u3 := (L1.out) 3 _ rfl; have u4 := (L1.out) 4 _ rfl; have u5 := (L1.out) 5 _ rfl; have u6 := (L1.out) 6 _ rfl; (try simp only [Nat.add_zero] at u0); (try simp only [Nat.zero_add] at u0 u1 u2 u3 u4 u5 u6)
      have v0 := (S1.out) 0 _ rfl; have v1 := (S1.out) 1 _ rfl; (try simp only [Nat.add_zero] at v0); (try simp only [Nat.zero_add] at v0 v1)
      have hz := L1.out.lt rfl
      have hzs := S1.out.lt rfl
      obtain ⟨rv, hrv⟩ : ∃ rv, l.ph + (kk : Int) * l.pe = rv := ⟨_, rfl⟩
      have HRV := Lib.hid hrv
      have rv0 : 0 ≤ rv := by omega
      have rv1 : rv ≤ 5000 := by omega
      obtain ⟨lk, hlk⟩ : ∃ lk, la kk = lk := ⟨_, rfl⟩
      obtain ⟨bk, hbk⟩ : ∃ bk, lb kk = bk := ⟨_, rfl⟩
      have A3 := fun W g => AT3.out W g kk (by omega)
      have A4 := fun W g => AT4.out W g kk (by omega)
      rw [hlk] at A3 la0 la1
      rw [hbk] at A4 lb0 lb1
      have DV : Hid (((Lp.dlv l s la lb (kk + 1)).map encD).flatten = (((Lp.dlv l s la lb kk).map encD).flatten ++ [.int .i64 (2 * l.id), .int .i64 (kk : Int), .int .i64 (rv + lk - 1)]) ++ [.int .i64 (2 * l.id + 1), .int .i64 ((kk : Int) + fi), .int .i64 (rv + s.s + bk - 1)]) := by
        show _ = _
        rw [Lp.dlv_succ, snoc_flat, snoc_flat]
        unfold Lp.dA Lp.dB
        rw [hlk, hbk, HFI.out, hrv]
      obtain ⟨XS, hXS⟩ : ∃ XS, ((Lp.dlv l s la lb kk).map encD).flatten = XS := ⟨_, rfl⟩
      rw [hXS] at O DV
      have A3H := Lib.hid A3
      have A4H := Lib.hid A4
      clear hXS hlk hbk A3 A4
      go_wp2_with fail
      have mixed : Try.prog.follows .mixedOrders = true := by kernel_rfl
      have z1 : IntKind.i64.wrap (2 * l.id) = 2 * l.id := IntWalk.i64_in _ (by omega)
      have z2 : IntKind.i64.wrap (rv + lk) = rv + lk := IntWalk.i64_in _ (by omega)
      have z3 : IntKind.i64.wrap (rv + lk - 1) = rv + lk - 1 := IntWalk.i64_in _ (by omega)
      have z4 : IntKind.i64.wrap (2 * l.id + 1) = 2 * l.id + 1 := IntWalk.i64_in _ (by omega)
      have z5 : IntKind.i64.wrap ((kk : Int) + fi) = (kk : Int) + fi := IntWalk.i64_in _ (by omega)
      have z6 : IntKind.i64.wrap (rv + s.s) = rv + s.s := IntWalk.i64_in _ (by omega)
      have z7 : IntKind.i64.wrap (rv + s.s + bk) = rv + s.s + bk := IntWalk.i64_in _ (by omega)
      have z8 : IntKind.i64.wrap (rv + s.s + bk - 1) = rv + s.s + bk - 1 := IntWalk.i64_in _ (by omega)
      have eg := enters_of Try.func40 (by kernel_rfl) rfl
      have KG : Aside (∀ W, Gr w0 W → (Gr w0 W ∧ W.cell? ⟨w.heap.size, 0, none⟩ = some (.int .i64 l.id) ∧ W.cell? ⟨w.heap.size + 1, 0, none⟩ = some (.int .i64 s.s) ∧ W.cell? ⟨w.heap.size + 1, 1, none⟩ = some (.int .i64 s.a))) := fun W gW => by
        have q1 := LL.out.gr gW
        have q2 := SS.out.gr gW
        exact ⟨gW, by simpa using q1 0 _ rfl, by simpa using q2 0 _ rfl, by simpa using q2 1 _ rfl⟩
      have GG := G.out
      clear u0 u1 u2 u3 u4 u5 u6 v0 v1 hz hzs
      go_region_held3 (fun W => Gr w0 W ∧ W.cell? ⟨w.heap.size, 0, none⟩ = some (.int .i64 l.id) ∧ W.cell? ⟨w.heap.size + 1, 0, none⟩ = some (.int .i64 s.s) ∧ W.cell? ⟨w.heap.size + 1, 1, none⟩ = some (.int .i64 s.a)) ((refine KG.out _ ?_; (repeat (first | assumption | exact And.left (by assumption) | exact Gr.refl _ | refine Gr.drew ?_ | refine Gr.alloc ?_ _ | refine Gr.setCell ?_ (by first | exact Nat.le_refl _ | omega) _ | refine Gr.trans ?_ (by assumption)))))
        ((first
          | (go_at_call 40; refine (A3H.out _ (G0.out.trans (And.left (by assumption)))).mono ?_; rintro e w9 ⟨rfl, g9⟩)
          | (refine step_append_lies _ rfl _ _ 33 rfl w0.heap.size 56 i0 (.agg #[.int .i64 0, .int .i64 0, .int .i64 0]) 3 24 Try.underlying33 hi hz0 hz1 hz2 rfl (by decide) _ _ _ rfl ((owns_gr O.out (show Gr wr _ by (repeat (first | assumption | exact And.left (by assumption) | exact Gr.refl _ | refine Gr.drew ?_ | refine Gr.alloc ?_ _ | refine Gr.setCell ?_ (by first | exact Nat.le_refl _ | omega) _ | refine Gr.trans ?_ (by assumption))))).alloc _) _ 1 1 [.int .i64 (2 * l.id), .int .i64 (kk : Int), .int .i64 (rv + lk - 1)] rfl rfl (fun j u hj => by rw [Addr.add_lit, Nat.zero_add, World.cell?_alloc_new]; simpa using hj) (by simp [Value.oneCell']) (by decide) (by unfold maxLen; omega) (by omega) (Gr.size (show Gr w0 _ by (repeat (first | assumption | exact And.left (by assumption) | exact Gr.refl _ | refine Gr.drew ?_ | refine Gr.alloc ?_ _ | refine Gr.setCell ?_ (by first | exact Nat.le_refl _ | omega) _ | refine Gr.trans ?_ (by assumption))))) _ rfl ?_; intro gq cap w8 hown hgrow hat hltq; have gap := Gr.append (show Gr w0 _ by (repeat (first | assumption | exact And.left (by assumption) | exact Gr.refl _ | refine Gr.drew ?_ | refine Gr.alloc ?_ _ | refine Gr.setCell ?_ (by first | exact Nat.le_refl _ | omega) _ | refine Gr.trans ?_ (by assumption)))) hgrow (fun k hk => (O.out.lt k hk).1))))
      have HO := Lib.hid hown
      have GAP := Lib.hid gap
      clear hown hgrow hat hltq gap GG
      have GG8 : Gr w0 w8 := GAP.out
      have GW8 : Aside (Gr w w8) := G0.out.trans GG8
      go_wp2_with fail
      go_region_held3 (fun W => Gr w0 W ∧ W.cell? ⟨w.heap.size, 0, none⟩ = some (.int .i64 l.id) ∧ W.cell? ⟨w.heap.size + 1, 0, none⟩ = some (.int .i64 s.s) ∧ W.cell? ⟨w.heap.size + 1, 1, none⟩ = some (.int .i64 s.a)) ((refine KG.out _ ?_; (repeat (first | assumption | exact And.left (by assumption) | exact Gr.refl _ | refine Gr.drew ?_ | refine Gr.alloc ?_ _ | refine Gr.setCell ?_ (by first | exact Nat.le_refl _ | omega) _ | refine Gr.trans ?_ (by assumption)))))
        ((first
          | (go_at_call 40; refine (A4H.out _ (G0.out.trans (And.left (by assumption)))).mono ?_; rintro e w9 ⟨rfl, g9⟩)
          | (refine step_append_lies _ rfl _ _ 33 rfl w0.heap.size 56 i0 (.agg #[.int .i64 0, .int .i64 0, .int .i64 0]) 3 24 Try.underlying33 hi hz0 hz1 hz2 rfl (by decide) _ _ _ rfl ((owns_gr HO.out (show Gr w8 _ by (repeat (first | assumption | exact And.left (by assumption) | exact Gr.refl _ | refine Gr.drew ?_ | refine Gr.alloc ?_ _ | refine Gr.setCell ?_ (by first | exact Nat.le_refl _ | omega) _ | refine Gr.trans ?_ (by assumption))))).alloc _) _ 1 1 [.int .i64 (2 * l.id + 1), .int .i64 ((kk : Int) + fi), .int .i64 (rv + s.s + bk - 1)] rfl rfl (fun j u hj => by rw [Addr.add_lit, Nat.zero_add, World.cell?_alloc_new]; simpa using hj) (by simp [Value.oneCell']) (by decide) (by unfold maxLen; omega) (by omega) (Gr.size (show Gr w0 _ by (repeat (first | assumption | exact And.left (by assumption) | exact Gr.refl _ | refine Gr.drew ?_ | refine Gr.alloc ?_ _ | refine Gr.setCell ?_ (by first | exact Nat.le_refl _ | omega) _ | refine Gr.trans ?_ (by assumption))))) _ rfl ?_; intro gp cap2 w7 hown hgrow hat hltq; have gap := Gr.append (show Gr w0 _ by (repeat (first | assumption | exact And.left (by assumption) | exact Gr.refl _ | refine Gr.drew ?_ | refine Gr.alloc ?_ _ | refine Gr.setCell ?_ (by first | exact Nat.le_refl _ | omega) _ | refine Gr.trans ?_ (by assumption)))) hgrow (fun k hk => (HO.out.lt k hk).1))))
      have HO2 := Lib.hid hown
      have GAP2 := Lib.hid gap
      clear hown hgrow hat hltq gap GG8
      clear z1 z2 z3 z4 z5 z6 z7 z8
      go_wp2_with fail
      go_roundg (N - (kk + 1))
      case measure => omega
      case rel => exact ⟨kk + 1, by omega, by omega, by go_num, GAP2.out, (show World.ownsRow _ _ _ _ _ _ _ by rw [DV.out]; exact HO2.out)⟩
    · have hltz : ¬ (kk : Int) < (N : Int) := by omega
      have hkn : kk = N := by omega
      subst hkn
      go_wp2_with fail
      go_ret
      exact ⟨u11, rfl, owns_rows encD_len O.out (Lp.dlv_len _ _ _ _ _), GW.out⟩
end Go.Proofs.Ytckkjiaoaeaaoaa
