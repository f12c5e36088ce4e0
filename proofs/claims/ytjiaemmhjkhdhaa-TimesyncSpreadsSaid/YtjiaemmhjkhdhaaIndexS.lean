/- The contracts of slices.IndexFunc and slices.ContainsFunc at []api.Synced: over a closure that only reads, draws and lays blocks. -/
import Derived.Test.YtjiaemmhjkhdhaaRows
import Derived.Test.YtjiaemmhjkhdhaaRunRow
import Derived.Test.YtjiaemmhjkhdhaaRow
import Derived.Test.YtjiaemmhjkhdhaaRet
import Derived.Test.YtjiaemmhjkhdhaaFind
import Derived.Deep.LoopGhost
import Derived.Shelf.SlSorted.Search
import Derived.WalkLawsBesides
namespace Go.Proofs.Ytjiaemmhjkhdhaa
open Go.RowKit Go.Sort
set_option linter.unusedVariables false

set_option maxHeartbeats 2000000 in
theorem indexS_any (g : Nat) (cb : Array Value) (p : Sy → Bool) (v : Value) (l : List Sy) (w : World) (h : Rows 4 encS w v l) (hbig : (l.length : Int) ≤ 4611686018427387904) (eg : ∀ args w, (callFunc g args).run Try.prog w = .ok (.enter g args) w)
    (hf : ∀ (W : World) (i : Nat) (x : Sy), Gr w W → l[i]? = some x → Calls Try.prog g (#[.agg #[.int .i64 x.o, .int .i64 x.d, .int .i64 x.s, .int .i64 x.c]] ++ cb) W fun e w' => e = .returned (.bool (p x)) ∧ Gr W w') :
    Calls Try.prog 70 #[v, .func (.func g) #[] cb] w fun e w' => e = .returned (.int .i64 (ixL p l)) ∧ Gr w w' := by
  have HF : Aside _ := hf
  have hs : ∃ A c, v = .slice A l.length c := h.slice
  obtain ⟨A, c, rfl⟩ := hs
  have CC0 : Aside (l.length = 0 ∨ ∃ b off, A = some ⟨b, off, none⟩ ∧ b < w.heap.size ∧ ∀ i x, l[i]? = some x → ∀ j u, (encS x)[j]? = some u → w.cell? ⟨b, off + i * 4 + j, none⟩ = some u) := by
    rcases h with ⟨rfl, _⟩ | ⟨b, off, c', hb, hv, hc⟩
    · exact .inl rfl
    · simp only [Value.slice.injEq] at hv
      exact .inr ⟨b, off, hv.1, hb, hc⟩
  obtain ⟨n, hn⟩ : ∃ n, l.length = n := ⟨_, rfl⟩
  have HN := Lib.hid hn
  rw [hn] at hbig ⊢
  clear hf h hn
  rcases CC0.out with h0 | ⟨b, off, rfl, hb, hc⟩
  · rw [HN.out] at h0
    subst h0
    have R := Lib.hid (ixL_miss (p := p) (l := l) (fun j hj => absurd hj (by rw [HN.out]; exact Nat.not_lt_zero _)))
    clear CC0
    go_enter Try.func70, Try.ntmps70
    go_wp2
    go_loopg [5, 8] 0 (fun gg _ s8 wr => s8 = .int .i64 0 ∧ wr = w)
    case atStart => exact ⟨rfl, rfl⟩
    case round =>
      obtain ⟨rfl, rfl⟩ := hrel
      go_wp2
      go_ret
      exact ⟨ret_int R.out.1.symm, Gr.refl _⟩
  · have CC : Aside (∀ i x, l[i]? = some x → ∀ j u, (encS x)[j]? = some u → w.cell? ⟨b, off + i * 4 + j, none⟩ = some u) := hc
    have HB := Lib.hid hb
    clear CC0 hc
    go_enter Try.func70, Try.ntmps70
    go_wp2
    go_loopg [5, 8] n (fun gg _ s8 wr => ∃ kk : Nat, kk ≤ n ∧ n - kk ≤ gg ∧ s8 = .int .i64 (kk : Int) ∧ Aside (Gr w wr) ∧ Aside (∀ j, j < kk → ∀ y, l[j]? = some y → p y = false))
    case atStart => exact ⟨0, Nat.zero_le _, by omega, rfl, Gr.refl _, fun j hj => absurd hj (Nat.not_lt_zero _)⟩
    case round =>
      obtain ⟨kk, hkk, hgg, rfl, G, AL⟩ := hrel
      by_cases hlt : kk < n
      · have hltz : (kk : Int) < (n : Int) := by omega
        obtain ⟨x, hx⟩ : ∃ x, l[kk]? = some x := ⟨_, List.getElem?_eq_getElem (by rw [HN.out]; exact hlt)⟩
        have l0 := (G.out.cell (p := ⟨b, off + kk * 4 + 0, none⟩) HB.out).trans (CC.out kk x hx 0 _ rfl)
        have l1 := (G.out.cell (p := ⟨b, off + kk * 4 + 1, none⟩) HB.out).trans (CC.out kk x hx 1 _ rfl)
        have l2 := (G.out.cell (p := ⟨b, off + kk * 4 + 2, none⟩) HB.out).trans (CC.out kk x hx 2 _ rfl)
        have l3 := (G.out.cell (p := ⟨b, off + kk * 4 + 3, none⟩) HB.out).trans (CC.out kk x hx 3 _ rfl)
        simp only [Nat.add_zero] at l0
        have hcall := HF.out _ kk x G.out hx
        have HX := Lib.hid hx
        cases hq : p x <;> rw [hq] at hcall
        · have HQ := Lib.hid hq
          clear hq hx
          go_wp2_with (go_at_fn g; refine hcall.mono ?_; rintro e w' ⟨rfl, hgn⟩)
          go_roundg (n - (kk + 1))
          case measure => omega
          case rel => exact ⟨kk + 1, by omega, by omega, by go_num, G.out.trans hgn, (show ∀ j, j < kk + 1 → ∀ y, l[j]? = some y → p y = false from fun j hj y hy => by
            by_cases e : j = kk
            · subst e; rw [HX.out] at hy; cases hy; exact HQ.out
            · exact AL.out j (by omega) y hy)⟩
        · have R := Lib.hid (ixL_hit (p := p) hx hq AL.out)
          clear hq hx
          go_wp2_with (go_at_fn g; refine hcall.mono ?_; rintro e w' ⟨rfl, hgn⟩)
          go_ret
          exact ⟨ret_int R.out.1.symm, G.out.trans hgn⟩
      · have hltz : ¬ (kk : Int) < (n : Int) := by omega
        have R := Lib.hid (ixL_miss (p := p) (l := l) (fun j hj y hy => AL.out j (by rw [HN.out] at hj; omega) y hy))
        go_wp2
        go_ret
        exact ⟨ret_int R.out.1.symm, G.out⟩

theorem ixL_anyS (p : Sy → Bool) (l : List Sy) : decide (0 ≤ ixL p l) = l.any p := by
  unfold ixL
  cases h : l.any p <;> simp

set_option maxHeartbeats 1000000 in
theorem containsS_any (g : Nat) (cb : Array Value) (p : Sy → Bool) (v : Value) (l : List Sy) (w : World) (h : Rows 4 encS w v l) (hbig : (l.length : Int) ≤ 4611686018427387904) (eg : ∀ args w, (callFunc g args).run Try.prog w = .ok (.enter g args) w)
    (hf : ∀ (W : World) (i : Nat) (x : Sy), Gr w W → l[i]? = some x → Calls Try.prog g (#[.agg #[.int .i64 x.o, .int .i64 x.d, .int .i64 x.s, .int .i64 x.c]] ++ cb) W fun e w' => e = .returned (.bool (p x)) ∧ Gr W w') :
    Calls Try.prog 53 #[v, .func (.func g) #[] cb] w fun e w' => e = .returned (.bool (l.any p)) ∧ Gr w w' := by
  have H := indexS_any g cb p v l w h hbig eg hf
  clear h hf eg
  go_enter Try.func53, Try.ntmps53
  go_wp2_with (go_at_call 70; refine H.mono ?_; rintro e w' ⟨rfl, hg⟩)
  go_ret
  exact ⟨ret_bool (ixL_anyS p l), hg⟩
end Go.Proofs.Ytjiaemmhjkhdhaa
