/- The contract of the reference's Hyper, and the contracts of Check, Hyper and Find in terms of lists. -/
import Derived.Test.YtabckmanijcndaaR32D
namespace Go.Proofs.Ytabckmanijcndaa
open Go.RowKit Go.Sort
set_option linter.unusedVariables false

def allB (zs : Nat → Fl) (N : Nat) : Nat → Bool
  | 0 => true
  | k + 1 => allB zs N k && (N % (zs k).pe.toNat == 0)
theorem allB_iff (zs : Nat → Fl) (N : Nat) : ∀ k, allB zs N k = true ↔ hyp zs k ∣ N
  | 0 => ⟨fun _ => Nat.one_dvd _, fun _ => rfl⟩
  | k + 1 => by
    show (allB zs N k && (N % (zs k).pe.toNat == 0)) = true ↔ lc (hyp zs k) (zs k).pe.toNat ∣ N
    rw [Bool.and_eq_true, allB_iff zs N k, lc_eq, Nat.lcm_dvd_iff, beq_iff_eq]
    exact and_congr Iff.rfl ⟨fun h => Nat.dvd_of_mod_eq_zero h, fun h => Nat.mod_eq_zero_of_dvd h⟩

theorem hyp_search {zs : Nat → Fl} {n N : Nat} (hok : okP zs n) (h1 : 1 ≤ N) (hlo : ∀ m, 1 ≤ m → m < N → ¬ hyp zs n ∣ m) (hN : hyp zs n ∣ N) : N = hyp zs n := by
  have h2 := hyp_pos hok n (Nat.le_refl _)
  have h3 := Nat.le_of_dvd (by omega) hN
  by_cases e : hyp zs n < N
  · exact absurd (Nat.dvd_refl _) (hlo _ h2 e)
  · omega
theorem hyp_none {zs : Nat → Fl} {n : Nat} (hok : okP zs n) (hlo : ∀ m, 1 ≤ m → m < 513 → ¬ hyp zs n ∣ m) : ¬ hyp zs n ≤ 512 := fun h => hlo _ (hyp_pos hok n (Nat.le_refl _)) (by omega) (Nat.dvd_refl _)

set_option maxHeartbeats 4000000 in
theorem rhyper_some (b off n c : Nat) (zs : Nat → Fl) (w : World) (hb : b < w.heap.size) (hrow : RowFl w b off n zs) (hbig : n ≤ 4611686018427387904) (wps : ∀ j, j < n → (zs j).pe ≤ 9223372036854775807 ∧ -9223372036854775808 ≤ (zs j).pe) :
    Calls Try.prog 21 #[.slice (some ⟨b, off, none⟩) n c] w fun e w' => e = .returned (.tuple #[.int .i64 (Fw.hN n zs), .int .i64 (Fw.hE n zs)]) ∧ Gr w w' := by
  have H := rcheck_some 32 b off n c zs w hb hrow hbig wps
  have HR := Lib.hid hrow
  have HB := Lib.hid hb
  clear hrow wps
  by_cases he : Fw.cE 32 n zs = 0
  · obtain ⟨hn, hok⟩ := Fw.cE_ok he
    have HK := Lib.hid hok
    have HE := Lib.hid he
    clear hok
    go_enter Try.func21, Try.ntmps21
    go_wp2_with (go_at_call 20; refine H.mono ?_; rintro e w1 ⟨rfl, hg'⟩)
    go_loopg [2, 3, 6, 7, 8] 512 (fun gg _ _ s6 _ _ wr => ∃ N : Nat, 1 ≤ N ∧ N ≤ 513 ∧ 513 - N ≤ gg ∧ s6 = .int .i64 (N : Int) ∧ Aside (Gr w wr) ∧ Aside (∀ m, 1 ≤ m → m < N → ¬ hyp zs n ∣ m))
    case atStart => exact ⟨1, by omega, by omega, by omega, rfl, hg', fun m h1 h2 => absurd h1 (by omega)⟩
    case round =>
      obtain ⟨N, hN1, hN2, hgg, rfl, G, A⟩ := hrel
      obtain ⟨wo, rfl⟩ : ∃ wo : World, wo = wr := ⟨_, rfl⟩
      by_cases hlt : N ≤ 512
      · have hltz : (N : Int) ≤ 512 := by omega
        go_wp2_with fail
        go_loopg [7, 8] n (fun g2 s7 s8 wr => ∃ kk : Nat, kk ≤ n ∧ n - kk ≤ g2 ∧ s8 = .int .i64 (kk : Int) ∧ s7 = .bool (allB zs N kk) ∧ wr = wo)
        case atStart => exact ⟨0, Nat.zero_le _, by omega, rfl, rfl, rfl⟩
        case round =>
          obtain ⟨kk, hkk, hg2, rfl, rfl, rfl⟩ := hrel
          by_cases hk : kk < n
          · have hkz : (kk : Int) < (n : Int) := by omega
            have l3 := ((HR.out.gr HB.out G.out) kk hk).2.2.2.1
            have hp := HK.out kk hk
            obtain ⟨P, hP⟩ : ∃ P : Nat, (zs kk).pe = (P : Int) := ⟨(zs kk).pe.toNat, by omega⟩
            have hP1 : 1 ≤ P := by omega
            have hPt : (zs kk).pe.toNat = P := by omega
            have hs : Aside (allB zs N (kk + 1) = (allB zs N kk && (N % P == 0))) := by
              show _ = _
              unfold allB; rw [hPt]
              cases kk <;> rfl
            rw [hP] at l3
            clear hp hP hPt
            have hP2 : (1 : Int) ≤ (P : Int) := by omega
            have hm : (((N : Int) % (P : Int)) == 0) = (N % P == 0) := by
              rw [Bool.eq_iff_iff, beq_iff_eq, beq_iff_eq]; omega
            cases ha : allB zs N kk with
            | true =>
              rw [ha] at hs
              clear ha
              go_wp2_with fail
              go_roundg (n - (kk + 1))
              case measure => omega
              case rel => exact ⟨kk + 1, by omega, by omega, by go_num, by rw [hs.out]; first | rfl | simp [hm] | simp, rfl⟩
            | false =>
              rw [ha] at hs
              clear ha
              go_wp2_with fail
              go_roundg (n - (kk + 1))
              case measure => omega
              case rel => exact ⟨kk + 1, by omega, by omega, by go_num, by rw [hs.out]; rfl, rfl⟩
          · have hkz : ¬ (kk : Int) < (n : Int) := by omega
            have : kk = n := by omega
            subst this
            cases ha : allB zs N kk with
            | true =>
              have hd := (allB_iff zs N kk).1 ha
              have hy := hyp_search HK.out hN1 A.out hd
              have N1 : Hid ((N : Int) = Fw.hN kk zs) := by show _ = _; unfold Fw.hN; rw [if_pos he, if_pos (by omega), hy]
              have E1 : Hid (0 = Fw.hE kk zs) := by show _ = _; unfold Fw.hE; rw [if_pos he, if_pos (by omega)]
              clear hd hy ha
              go_wp2_with fail
              go_ret2
              exact ⟨ret_int2 N1.out E1.out, G.out⟩
            | false =>
              have hd : Hid (¬ hyp zs kk ∣ N) := fun h => by have := (allB_iff zs N kk).2 h; rw [ha] at this; cases this
              clear ha
              go_wp2_with fail
              go_roundg (513 - (N + 1))
              case measure => omega
              case rel => exact ⟨N + 1, by omega, by omega, by omega, by go_num, G.out, (show ∀ m, 1 ≤ m → m < N + 1 → ¬ hyp zs kk ∣ m from fun m h1 h2 => by
                by_cases e : m = N
                · subst e; exact hd.out
                · exact A.out m h1 (by omega))⟩
      · have hltz : ¬ (N : Int) ≤ 512 := by omega
        have : N = 513 := by omega
        subst this
        have hh := hyp_none HK.out A.out
        have N1 : Hid (0 = Fw.hN n zs) := by show _ = _; unfold Fw.hN; rw [if_pos he, if_neg hh]
        have E1 : Hid (21 = Fw.hE n zs) := by show _ = _; unfold Fw.hE; rw [if_pos he, if_neg hh]
        clear hh
        go_wp2_with fail
        go_ret2
        exact ⟨ret_int2 N1.out E1.out, G.out⟩
  · have N : Hid (0 = Fw.hN n zs) := by unfold Fw.hN; rw [if_neg he]; rfl
    have E : Hid (1 = Fw.hE n zs) := by unfold Fw.hE; rw [if_neg he]; rfl
    have b1 : (Fw.cE 32 n zs != 0) = true := by simpa using he
    clear he
    go_enter Try.func21, Try.ntmps21
    go_wp2_with (first | (go_at_call 20; refine H.mono ?_; rintro e w' ⟨rfl, hg'⟩))
    go_ret2
    exact ⟨ret_int2 N.out E.out, hg'⟩

set_option maxHeartbeats 1000000 in
theorem rhyper_nil (A : Option Addr) (c : Nat) (zs : Nat → Fl) (w : World) :
    Calls Try.prog 21 #[.slice A 0 c] w fun e w' => e = .returned (.tuple #[.int .i64 (Fw.hN 0 zs), .int .i64 (Fw.hE 0 zs)]) ∧ Gr w w' := by
  have H := rcheck_nil 32 A c zs w
  have r2 := (Fw.c_miss (zs := zs) (⟨by decide, by decide, by decide⟩ : Fw.okM 32 0) (fun j hj => absurd hj (Nat.not_lt_zero _))).2
  have hq : hyp zs 0 ≤ 512 := by show 1 ≤ 512; decide
  have N : Hid (1 = Fw.hN 0 zs) := by show _ = _; unfold Fw.hN; rw [if_pos r2, if_pos hq]; rfl
  have E : Hid (0 = Fw.hE 0 zs) := by show _ = _; unfold Fw.hE; rw [if_pos r2, if_pos hq]
  clear hq
  go_enter Try.func21, Try.ntmps21
  go_wp2_with (go_at_call 20; refine H.mono ?_; rintro e w1 ⟨rfl, hg'⟩)
  go_loopg [2, 3, 6, 7, 8] 1 (fun gg _ _ s6 _ _ wr => s6 = .int .i64 1 ∧ wr = w1)
  case atStart => exact ⟨rfl, rfl⟩
  case round =>
    obtain ⟨rfl, rfl⟩ := hrel
    obtain ⟨wo, rfl⟩ : ∃ wo : World, wo = wr := ⟨_, rfl⟩
    go_wp2_with fail
    go_loopg [7, 8] 0 (fun g2 s7 s8 wr => s8 = .int .i64 0 ∧ s7 = .bool true ∧ wr = wo)
    case atStart => exact ⟨rfl, rfl, rfl⟩
    case round =>
      obtain ⟨rfl, rfl, rfl⟩ := hrel
      go_wp2_with fail
      go_ret2
      exact ⟨ret_int2 N.out E.out, hg'⟩

set_option maxHeartbeats 1000000 in
theorem find_some (id : Int) (b off n c : Nat) (zs : Nat → Fl) (w : World) (hb : b < w.heap.size) (hrow : RowFl w b off n zs) (hbig : n ≤ 4611686018427387904) :
    Calls Try.prog 22 #[.slice (some ⟨b, off, none⟩) n c, .int .i64 id] w fun e w' => e = .returned (.int .i64 (ixN (fun f => f.id == id) n zs)) ∧ Gr w w' := by
  have HR := Lib.hid hrow
  clear hrow
  go_enter Try.func22, Try.ntmps22
  go_wp2_with fail
  refine (index_any 39 #[.pointer (some ⟨w.heap.size, 0, none⟩)] (fun f => f.id == id) b off n c zs _ (by simp; omega) (HR.out.gr hb (Gr.alloc (Gr.refl w) _)) hbig (enters_of Try.func39 (by kernel_rfl) rfl) (fun W j g _ => find1_any (zs j) id w.heap.size W ((g.cell (by simp)).trans (by go_simp)) (by have := g.size; simp at this; omega))).mono ?_
  rintro e w1 ⟨rfl, g1⟩
  go_wp2_with fail
  go_ret
  exact ⟨rfl, Gr.trans (Gr.alloc (Gr.refl w) _) g1⟩

set_option maxHeartbeats 1000000 in
theorem find_nil (id : Int) (A : Option Addr) (c : Nat) (zs : Nat → Fl) (w : World) :
    Calls Try.prog 22 #[.slice A 0 c, .int .i64 id] w fun e w' => e = .returned (.int .i64 (ixN (fun f => f.id == id) 0 zs)) ∧ Gr w w' := by
  go_enter Try.func22, Try.ntmps22
  go_wp2_with fail
  refine (index_nil _ _ _ _ _).mono ?_
  rintro e w1 ⟨rfl, rfl⟩
  go_wp2_with fail
  go_ret
  exact ⟨rfl, Gr.alloc (Gr.refl w) _⟩

/-- the periods are int64s -/
def okW (l : List Fl) : Prop := ∀ x ∈ l, x.pe ≤ 9223372036854775807 ∧ -9223372036854775808 ≤ x.pe
theorem okW_at {l : List Fl} (h : okW l) (j : Nat) (hj : j < l.length) : (at_ l j).pe ≤ 9223372036854775807 ∧ -9223372036854775808 ≤ (at_ l j).pe := by
  have e : at_ l j = l[j] := by unfold at_; rw [List.getD_eq_getElem?_getD, List.getElem?_eq_getElem hj]; rfl
  rw [e]; exact h _ (List.getElem_mem hj)

theorem rcheck_rows (m : Int) (v : Value) (l : List Fl) (w : World) (h : Rows 6 encF w v l) (hw : okW l) (hbig : l.length ≤ 4611686018427387904) :
    Calls Try.prog 20 #[.int .i64 m, v] w fun e w' => e = .returned (.tuple #[.int .i64 (Fw.cI m l.length (at_ l)), .int .i64 (Fw.cE m l.length (at_ l))]) ∧ Gr w w' := by
  rcases h with ⟨rfl, A, c, rfl, _⟩ | ⟨b, off, c, hb, rfl, hc⟩
  · exact rcheck_nil m A c (at_ []) w
  · exact rcheck_some m b off l.length c (at_ l) w hb (rows_fl hc) hbig (okW_at hw)
theorem rhyper_rows (v : Value) (l : List Fl) (w : World) (h : Rows 6 encF w v l) (hw : okW l) (hbig : l.length ≤ 4611686018427387904) :
    Calls Try.prog 21 #[v] w fun e w' => e = .returned (.tuple #[.int .i64 (Fw.hN l.length (at_ l)), .int .i64 (Fw.hE l.length (at_ l))]) ∧ Gr w w' := by
  rcases h with ⟨rfl, A, c, rfl, _⟩ | ⟨b, off, c, hb, rfl, hc⟩
  · exact rhyper_nil A c (at_ []) w
  · exact rhyper_some b off l.length c (at_ l) w hb (rows_fl hc) hbig (okW_at hw)
theorem find_rows (id : Int) (v : Value) (l : List Fl) (w : World) (h : Rows 6 encF w v l) (hbig : l.length ≤ 4611686018427387904) :
    Calls Try.prog 22 #[v, .int .i64 id] w fun e w' => e = .returned (.int .i64 (ixN (fun f => f.id == id) l.length (at_ l))) ∧ Gr w w' := by
  rcases h with ⟨rfl, A, c, rfl, _⟩ | ⟨b, off, c, hb, rfl, hc⟩
  · exact find_nil id A c (at_ []) w
  · exact find_some id b off l.length c (at_ l) w hb (rows_fl hc) hbig
theorem rfind_rows (id : Int) (v : Value) (l : List Fl) (w : World) (h : Rows 6 encF w v l) (hbig : l.length ≤ 4611686018427387904) :
    Calls Try.prog 23 #[v, .int .i64 id] w fun e w' => e = .returned (.int .i64 (ixN (fun f => f.id == id) l.length (at_ l))) ∧ Gr w w' := by
  rcases h with ⟨rfl, A, c, rfl, _⟩ | ⟨b, off, c, hb, rfl, hc⟩
  · exact rfind_nil id A c (at_ []) w
  · exact rfind_some id b off l.length c (at_ l) w hb (rows_fl hc) hbig
end Go.Proofs.Ytabckmanijcndaa
