/- The contracts of the reference's Check and Find, and of flow.Find, over any slice of flows. -/
import Derived.Test.YtabckmanijcndaaR32A
import Derived.Test.YtabckmanijcndaaFlwN
namespace Go.Proofs.Ytabckmanijcndaa
open Go.RowKit Go.Sort
set_option linter.unusedVariables false

set_option maxHeartbeats 2000000 in
theorem rcheck_some (m : Int) (b off n c : Nat) (zs : Nat → Fl) (w : World) (hb : b < w.heap.size) (hrow : RowFl w b off n zs) (hbig : n ≤ 4611686018427387904) (wps : ∀ j, j < n → (zs j).pe ≤ 9223372036854775807 ∧ -9223372036854775808 ≤ (zs j).pe) :
    Calls Try.prog 20 #[.int .i64 m, .slice (some ⟨b, off, none⟩) n c] w fun e w' => e = .returned (.tuple #[.int .i64 (Fw.cI m n zs), .int .i64 (Fw.cE m n zs)]) ∧ Gr w w' := by
  by_cases hm : 2 ≤ m ∧ m ≤ 32
  · have bm := bt hm
    by_cases hn : n ≤ 16
    · have HM : Hid (Fw.okM m n) := ⟨hm.1, hm.2, hn⟩
      have HR := Lib.hid hrow
      have hg0 := Gr.refl w
      have HB := Lib.hid hb
      have HW := Lib.hid wps
      obtain ⟨m1, m2⟩ := hm
      clear hrow wps
      go_enter Try.func20, Try.ntmps20
      go_wp2_with (go_at_call 37; refine (in_any _ _ _ _).mono ?_; rintro e w' ⟨rfl, rfl⟩)
      go_loopg [4, 5, 6, 7] n (fun gg _ _ s6 _ wr => ∃ kk : Nat, kk ≤ n ∧ n - kk ≤ gg ∧ s6 = .int .i64 kk ∧ Aside (Gr w' wr) ∧ Aside (∀ j, j < kk → Fw.badB m zs j = false))
      case atStart => exact ⟨0, Nat.zero_le _, by omega, rfl, hg0, fun j hj => absurd hj (Nat.not_lt_zero _)⟩
      case round =>
        obtain ⟨kk, hkk, hgg, rfl, G, A⟩ := hrel
        by_cases hlt : kk < n
        · have hltz : (kk : Int) < (n : Int) := by omega
          obtain ⟨l0, l1, l2, l3, l4, l5⟩ := (HR.out.gr HB.out G.out) kk hlt
          have hwp := HW.out kk hlt
          rcases chk_cases m (zs kk) with hk | ⟨hk, hk2⟩
          · cases kk with
            | zero =>
              simp only [Nat.zero_mul, Nat.add_zero] at l0 l1 l2 l3 l4 l5
              have HZ := Lib.hid (Fw.bad_no hk (fun h => absurd h.1 (Nat.lt_irrefl 0)))
              go_wp2_with (go_at_call 38; refine (fault_any m (zs 0) _ (by omega) (by omega) hwp).mono ?_; rintro e w2 ⟨rfl, hn'⟩; have hg' := G.out.trans hn')
              go_quiet (fail)
              go_wp2_with fail
              go_roundg (n - (0 + 1))
              case measure => omega
              case rel => exact ⟨0 + 1, by omega, by omega, by go_num, hg'.drewN _, (show ∀ j, j < 0 + 1 → Fw.badB m zs j = false from fun j hj => by rw [show j = 0 by omega]; exact HZ.out)⟩
            | succ k =>
              by_cases hid : (zs (k + 1)).id ≤ (zs k).id
              · obtain ⟨z1, z2⟩ := Fw.bad_ord hk (Nat.succ_pos k) hid
                obtain ⟨r1, r2⟩ := Fw.c_hit HM.out A.out z2 hlt
                rw [z1] at r2
                have R1 := Lib.hid r1
                have R2 := Lib.hid r2
                clear r1 r2 z1 z2
                go_wp2_with (go_at_call 38; refine (fault_any m (zs (k + 1)) _ (by omega) (by omega) hwp).mono ?_; rintro e w2 ⟨rfl, hn'⟩; have hg' := G.out.trans hn'; have c3 := ((HR.out.gr HB.out hg') k (by omega)).1; have c2 := ((HR.out.gr HB.out hg') (k + 1) hlt).1)
                go_quiet (fail)
                go_wp2_with fail
                go_ret2
                exact ⟨ret_int2 (by have := R1.out; omega) R2.out.symm, hg'.drewN _⟩
              · have HZ := Lib.hid (Fw.bad_no (m := m) (zs := zs) (j := k + 1) hk (fun h => hid h.2))
                go_wp2_with (go_at_call 38; refine (fault_any m (zs (k + 1)) _ (by omega) (by omega) hwp).mono ?_; rintro e w2 ⟨rfl, hn'⟩; have hg' := G.out.trans hn'; have c3 := ((HR.out.gr HB.out hg') k (by omega)).1; have c2 := ((HR.out.gr HB.out hg') (k + 1) hlt).1)
                go_quiet (fail)
                go_wp2_with fail
                go_roundg (n - (k + 1 + 1))
                case measure => omega
                case rel => exact ⟨k + 1 + 1, by omega, by omega, by go_num, hg'.drewN _, (show ∀ j, j < k + 1 + 1 → Fw.badB m zs j = false from fun j hj => by
                  by_cases e : j = k + 1
                  · subst e; exact HZ.out
                  · exact A.out j (by omega))⟩
          · obtain ⟨z1, z2⟩ := Fw.bad_chk (zs := zs) hk
            obtain ⟨r1, r2⟩ := Fw.c_hit HM.out A.out z2 hlt
            rw [z1] at r2
            have R1 := Lib.hid r1
            have R2 := Lib.hid r2
            clear r1 r2 z1 z2
            go_wp2_with (go_at_call 38; refine (fault_any m (zs kk) _ (by omega) (by omega) hwp).mono ?_; rintro e w2 ⟨rfl, hn'⟩; have hg' := G.out.trans hn')
            go_ret2
            exact ⟨ret_int2 R1.out.symm R2.out.symm, hg'⟩
        · have hltz : ¬ (kk : Int) < (n : Int) := by omega
          have : kk = n := by omega
          subst this
          obtain ⟨r1, r2⟩ := Fw.c_miss HM.out A.out
          go_wp2
          go_ret2
          exact ⟨by first | rfl | exact ret_int2 r1.symm r2.symm, G.out⟩
    · obtain ⟨r1, r2⟩ := Fw.c_big (zs := zs) hm hn
      have hn2 : (16 : Int) < (n : Int) := by omega
      clear hm
      go_enter Try.func20, Try.ntmps20
      go_wp2_with (go_at_call 37; refine (in_any _ _ _ _).mono ?_; rintro e w' ⟨rfl, rfl⟩)
      go_ret2
      exact ⟨by first | rfl | exact ret_int2 r1.symm r2.symm, by repeat (first | (with_reducible exact Gr.refl _) | (with_reducible assumption) | (with_reducible refine Gr.alloc ?_ _) | (with_reducible refine Gr.drewN ?_ _) | (with_reducible refine Gr.drew ?_) | (with_reducible refine Gr.grown ?_ _ _) | (with_reducible refine Gr.regrown ?_ _ _) | (with_reducible refine Gr.setCell ?_ (by first | omega | (simp; omega) | simp) _) | (with_reducible refine Gr.trans ?_ (by with_reducible assumption)))⟩
  · obtain ⟨r1, r2⟩ := Fw.c_nodes (n := n) (zs := zs) hm
    have bm := bf hm
    clear hm
    go_enter Try.func20, Try.ntmps20
    go_wp2_with (go_at_call 37; refine (in_any _ _ _ _).mono ?_; rintro e w' ⟨rfl, rfl⟩)
    go_ret2
    exact ⟨by first | rfl | exact ret_int2 r1.symm r2.symm, by repeat (first | (with_reducible exact Gr.refl _) | (with_reducible assumption) | (with_reducible refine Gr.alloc ?_ _) | (with_reducible refine Gr.drewN ?_ _) | (with_reducible refine Gr.drew ?_) | (with_reducible refine Gr.grown ?_ _ _) | (with_reducible refine Gr.regrown ?_ _ _) | (with_reducible refine Gr.setCell ?_ (by first | omega | (simp; omega) | simp) _) | (with_reducible refine Gr.trans ?_ (by with_reducible assumption)))⟩

set_option maxHeartbeats 1000000 in
theorem rcheck_nil (m : Int) (A : Option Addr) (c : Nat) (zs : Nat → Fl) (w : World) :
    Calls Try.prog 20 #[.int .i64 m, .slice A 0 c] w fun e w' => e = .returned (.tuple #[.int .i64 (Fw.cI m 0 zs), .int .i64 (Fw.cE m 0 zs)]) ∧ Gr w w' := by
  by_cases hm : 2 ≤ m ∧ m ≤ 32
  · obtain ⟨r1, r2⟩ := Fw.c_miss (zs := zs) (⟨hm.1, hm.2, by decide⟩ : Fw.okM m 0) (fun j hj => absurd hj (Nat.not_lt_zero _))
    have bm := bt hm
    clear hm
    go_enter Try.func20, Try.ntmps20
    go_wp2_with (go_at_call 37; refine (in_any _ _ _ _).mono ?_; rintro e w' ⟨rfl, rfl⟩)
    go_loopg [4, 5, 6, 7] 0 (fun gg _ _ s6 _ wr => s6 = .int .i64 0 ∧ wr = w')
    case atStart => exact ⟨rfl, rfl⟩
    case round =>
      obtain ⟨rfl, rfl⟩ := hrel
      go_wp2
      go_ret2
      exact ⟨by first | rfl | exact ret_int2 r1.symm r2.symm, Gr.refl _⟩
  · obtain ⟨r1, r2⟩ := Fw.c_nodes (n := 0) (zs := zs) hm
    have bm := bf hm
    clear hm
    go_enter Try.func20, Try.ntmps20
    go_wp2_with (go_at_call 37; refine (in_any _ _ _ _).mono ?_; rintro e w' ⟨rfl, rfl⟩)
    go_ret2
    exact ⟨by first | rfl | exact ret_int2 r1.symm r2.symm, by repeat (first | (with_reducible exact Gr.refl _) | (with_reducible assumption) | (with_reducible refine Gr.alloc ?_ _) | (with_reducible refine Gr.drewN ?_ _) | (with_reducible refine Gr.drew ?_) | (with_reducible refine Gr.grown ?_ _ _) | (with_reducible refine Gr.regrown ?_ _ _) | (with_reducible refine Gr.setCell ?_ (by first | omega | (simp; omega) | simp) _) | (with_reducible refine Gr.trans ?_ (by with_reducible assumption)))⟩

/-- where a predicate first holds, or -1 -/
def ixN (p : Fl → Bool) (n : Nat) (zs : Nat → Fl) : Int := if fst (fun j => p (zs j)) n < n then (fst (fun j => p (zs j)) n : Int) else -1
theorem ix_hit {p : Fl → Bool} {k n : Nat} {zs : Nat → Fl} (h : ∀ j, j < k → p (zs j) = false) (hk : p (zs k) = true) (hn : k < n) : ixN p n zs = k := by
  have hf := fst_hit' (p := fun j => p (zs j)) h hk hn
  unfold ixN; rw [hf, if_pos hn]
theorem ix_miss {p : Fl → Bool} {n : Nat} {zs : Nat → Fl} (h : ∀ j, j < n → p (zs j) = false) : ixN p n zs = -1 := by
  have hf := fst_miss (p := fun j => p (zs j)) h
  unfold ixN; rw [hf, if_neg (Nat.lt_irrefl n)]

theorem ix_ex {p : Fl → Bool} {n : Nat} {zs : Nat → Fl} (h : ∃ j, j < n ∧ p (zs j) = true) : 0 ≤ ixN p n zs := by
  obtain ⟨j, hj, hp⟩ := h
  unfold ixN
  split
  · omega
  · rename_i hl
    have := Fw.fst_all hl j hj
    rw [hp] at this; cases this

set_option maxHeartbeats 1000000 in
theorem rfind_some (id : Int) (b off n c : Nat) (zs : Nat → Fl) (w : World) (hb : b < w.heap.size) (hrow : RowFl w b off n zs) (hbig : n ≤ 4611686018427387904) :
    Calls Try.prog 23 #[.slice (some ⟨b, off, none⟩) n c, .int .i64 id] w fun e w' => e = .returned (.int .i64 (ixN (fun f => f.id == id) n zs)) ∧ Gr w w' := by
  have HR := Lib.hid hrow
  clear hrow
  go_enter Try.func23, Try.ntmps23
  go_wp2
  go_loopg [4, 5] n (fun gg _ s5 wr => ∃ kk : Nat, kk ≤ n ∧ n - kk ≤ gg ∧ s5 = .int .i64 kk ∧ wr = w ∧ Aside (∀ j, j < kk → ((zs j).id == id) = false))
  case atStart => exact ⟨0, Nat.zero_le _, by omega, rfl, rfl, fun j hj => absurd hj (Nat.not_lt_zero _)⟩
  case round =>
    obtain ⟨kk, hkk, hgg, rfl, rfl, A⟩ := hrel
    by_cases hlt : kk < n
    · have hltz : (kk : Int) < (n : Int) := by omega
      have l0 := (HR.out kk hlt).1
      cases hq : ((zs kk).id == id) with
      | true =>
        have R := Lib.hid (ix_hit (p := fun f => f.id == id) A.out hq hlt)
        go_wp2_with fail
        go_ret
        exact ⟨ret_int R.out.symm, Gr.refl _⟩
      | false =>
        have HQ := Lib.hid hq
        go_wp2_with fail
        go_roundg (n - (kk + 1))
        case measure => omega
        case rel => exact ⟨kk + 1, by omega, by omega, by go_num, rfl, (show ∀ j, j < kk + 1 → ((zs j).id == id) = false from fun j hj => by
          by_cases e : j = kk
          · subst e; exact HQ.out
          · exact A.out j (by omega))⟩
    · have hltz : ¬ (kk : Int) < (n : Int) := by omega
      have : kk = n := by omega
      subst this
      have R := Lib.hid (ix_miss (p := fun f => f.id == id) A.out)
      go_wp2
      go_ret
      exact ⟨ret_int R.out.symm, Gr.refl _⟩

set_option maxHeartbeats 1000000 in
theorem rfind_nil (id : Int) (A : Option Addr) (c : Nat) (zs : Nat → Fl) (w : World) :
    Calls Try.prog 23 #[.slice A 0 c, .int .i64 id] w fun e w' => e = .returned (.int .i64 (ixN (fun f => f.id == id) 0 zs)) ∧ Gr w w' := by
  go_enter Try.func23, Try.ntmps23
  go_wp2
  go_loopg [4, 5] 0 (fun gg _ s5 wr => s5 = .int .i64 0 ∧ wr = w)
  case atStart => exact ⟨rfl, rfl⟩
  case round =>
    obtain ⟨rfl, rfl⟩ := hrel
    go_wp2
    go_ret
    exact ⟨rfl, Gr.refl _⟩

set_option maxHeartbeats 1000000 in
theorem find1_any (f : Fl) (id : Int) (B : Nat) (w : World) (c0 : w.cell? ⟨B, 0, none⟩ = some (.int .i64 id)) (hB : B < w.heap.size) :
    Calls Try.prog 39 #[.agg #[.int .i64 f.id, .int .i64 f.fr, .int .i64 f.to, .int .i64 f.pe, .int .i64 f.ph, .int .i64 f.de], .pointer (some ⟨B, 0, none⟩)] w fun e w' => e = .returned (.bool (f.id == id)) ∧ Gr w w' := by
  go_enter Try.func39, Try.ntmps39
  go_wp2_with fail
  go_ret
  exact ⟨rfl, by repeat (first | (with_reducible exact Gr.refl _) | (with_reducible assumption) | (with_reducible refine Gr.alloc ?_ _) | (with_reducible refine Gr.drewN ?_ _) | (with_reducible refine Gr.drew ?_) | (with_reducible refine Gr.grown ?_ _ _) | (with_reducible refine Gr.regrown ?_ _ _) | (with_reducible refine Gr.setCell ?_ (by first | omega | (simp; omega) | simp) _) | (with_reducible refine Gr.trans ?_ (by with_reducible assumption)))⟩

set_option maxHeartbeats 2000000 in
theorem index_any (g : Nat) (cb : Array Value) (p : Fl → Bool) (b off n c : Nat) (zs : Nat → Fl) (w : World) (hb : b < w.heap.size) (hrow : RowFl w b off n zs) (hbig : n ≤ 4611686018427387904) (eg : ∀ args w, (callFunc g args).run Try.prog w = .ok (.enter g args) w)
    (hf : ∀ (W : World) (j : Nat), Gr w W → j < n → Calls Try.prog g (#[.agg #[.int .i64 (zs j).id, .int .i64 (zs j).fr, .int .i64 (zs j).to, .int .i64 (zs j).pe, .int .i64 (zs j).ph, .int .i64 (zs j).de]] ++ cb) W fun e w' => e = .returned (.bool (p (zs j))) ∧ Gr W w') :
    Calls Try.prog 35 #[.slice (some ⟨b, off, none⟩) n c, .func (.func g) #[] cb] w fun e w' => e = .returned (.int .i64 (ixN p n zs)) ∧ Gr w w' := by
  have HR := Lib.hid hrow
  have HF : Aside _ := hf
  have HB := Lib.hid hb
  clear hrow hf
  go_enter Try.func35, Try.ntmps35
  go_wp2
  go_loopg [5, 8] n (fun gg _ s8 wr => ∃ kk : Nat, kk ≤ n ∧ n - kk ≤ gg ∧ s8 = .int .i64 kk ∧ Aside (Gr w wr) ∧ Aside (∀ j, j < kk → p (zs j) = false))
  case atStart => exact ⟨0, Nat.zero_le _, by omega, rfl, Gr.refl _, fun j hj => absurd hj (Nat.not_lt_zero _)⟩
  case round =>
    obtain ⟨kk, hkk, hgg, rfl, G, A⟩ := hrel
    by_cases hlt : kk < n
    · have hltz : (kk : Int) < (n : Int) := by omega
      obtain ⟨l0, l1, l2, l3, l4, l5⟩ := (HR.out.gr HB.out G.out) kk hlt
      have hc := HF.out _ kk G.out hlt
      cases hq : p (zs kk) <;> rw [hq] at hc
      · have HQ := Lib.hid hq
        clear hq
        go_wp2_with (go_at_fn g; refine hc.mono ?_; rintro e w' ⟨rfl, hgn⟩)
        go_roundg (n - (kk + 1))
        case measure => omega
        case rel => exact ⟨kk + 1, by omega, by omega, by go_num, G.out.trans hgn, (show ∀ j, j < kk + 1 → p (zs j) = false from fun j hj => by
          by_cases e : j = kk
          · subst e; exact HQ.out
          · exact A.out j (by omega))⟩
      · have R := Lib.hid (ix_hit (p := p) A.out hq hlt)
        clear hq
        go_wp2_with (go_at_fn g; refine hc.mono ?_; rintro e w' ⟨rfl, hgn⟩)
        go_ret
        exact ⟨ret_int R.out.symm, G.out.trans hgn⟩
    · have hltz : ¬ (kk : Int) < (n : Int) := by omega
      have : kk = n := by omega
      subst this
      have R := Lib.hid (ix_miss (p := p) A.out)
      go_wp2
      go_ret
      exact ⟨ret_int R.out.symm, G.out⟩

set_option maxHeartbeats 1000000 in
theorem cont_any (g : Nat) (cb : Array Value) (p : Fl → Bool) (b off n c : Nat) (zs : Nat → Fl) (w : World) (hb : b < w.heap.size) (hrow : RowFl w b off n zs) (hbig : n ≤ 4611686018427387904) (eg : ∀ args w, (callFunc g args).run Try.prog w = .ok (.enter g args) w)
    (hf : ∀ (W : World) (j : Nat), Gr w W → j < n → Calls Try.prog g (#[.agg #[.int .i64 (zs j).id, .int .i64 (zs j).fr, .int .i64 (zs j).to, .int .i64 (zs j).pe, .int .i64 (zs j).ph, .int .i64 (zs j).de]] ++ cb) W fun e w' => e = .returned (.bool (p (zs j))) ∧ Gr W w') :
    Calls Try.prog 17 #[.slice (some ⟨b, off, none⟩) n c, .func (.func g) #[] cb] w fun e w' => e = .returned (.bool (decide (0 ≤ ixN p n zs))) ∧ Gr w w' := by
  have H := index_any g cb p b off n c zs w hb hrow hbig eg hf
  clear hrow hf eg
  go_enter Try.func17, Try.ntmps17
  go_wp2_with (go_at_call 35; refine H.mono ?_; rintro e w' ⟨rfl, hg⟩)
  go_ret
  exact ⟨rfl, hg⟩

theorem enter_find1 (args : Array Value) (w : World) : (callFunc 39 args).run Try.prog w = .ok (.enter 39 args) w := by
  go_simp
end Go.Proofs.Ytabckmanijcndaa
