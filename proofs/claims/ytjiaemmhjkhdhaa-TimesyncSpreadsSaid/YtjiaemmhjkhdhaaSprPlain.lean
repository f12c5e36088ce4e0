/- The plain law of TimesyncSpreads: clocks that are corrected in a tree differ by at most what their depths and the growth allow. No program. -/
import Derived.Test.YtjiaemmhjkhdhaaOnePlain
import Derived.Test.YtjiaemmhjkhdhaaSpdPlain
import Derived.Test.YtjiaemmhjkhdhaaGrdLaws
import Derived.Test.YtjiaemmhjkhdhaaClkLaws
namespace Go.Proofs.Ytjiaemmhjkhdhaa.Ru

/-- when a clock's frame in a slot begins, and the error -/
noncomputable def sn (x : Sy) (slot : Int) : Int := Ck.inN x.o x.d slot 2120
def snE (x : Sy) (slot : Int) : Int := Ck.inE x.o x.d slot 2120
theorem slotV {o d s : Int} (h : Ck.slotE o d s = 0) : Ck.Valid o d ∧ 0 ≤ s ∧ s ≤ 109951162 := by
  unfold Ck.slotE at h
  split at h
  · rename_i hc
    split at h
    · exact ⟨valid_of hc, by assumption⟩
    · exact absurd h (by decide)
  · exact absurd h (by decide)
theorem sn_bd {x : Sy} {slot : Int} (h : snE x slot = 0) : 0 ≤ sn x slot ∧ sn x slot ≤ 1099511627776 := by
  obtain ⟨hs, hx, e⟩ := Ck.in_ok h
  obtain ⟨v, _, _⟩ := slotV hs
  unfold sn
  rw [e]
  exact Ck.rc_bd _ _ _ v.d1 v.d2 hx
/-- a correction that is made -/
theorem cor_inv {o d s c t n : Int} (h : (Ts.cor o d s c t n).e = 0) : Ts.cor o d s c t n = ⟨o + n, d, t, c + 1, 0⟩ := by
  by_cases h1 : t ≤ s
  · rw [Ts.cor_order h1] at h; exact absurd h (by decide)
  · by_cases h2 : n < -4999 ∨ 4999 < n
    · rw [Ts.cor_late h1 h2] at h; exact absurd h (by decide)
    · by_cases h3 : c = 4096
      · rw [Ts.cor_full h1 h2 h3] at h; exact absurd h (by decide)
      · by_cases h4 : Ck.adjOk o d n
        · exact Ts.cor_ok h1 h2 h3 h4
        · rw [Ts.cor_arg h1 h2 h3 h4] at h; exact absurd h (by decide)
/-- a corrected node shows what its time parent shows, but for 1, when the frame begins -/
theorem near {x q : Sy} {slot : Int} {a : Bool} (hx : okS x) (hq : okS q) (he : (stp x q.o q.d slot a).e = 0) (sx : snE x slot = 0) (px : 0 < sn x slot) (sq : snE q slot = 0) (pq : 0 < sn q slot) :
    ∃ t, (t = sn x slot ∨ t = sn q slot) ∧ -1 ≤ df t (sy (stp x q.o q.d slot a)) q ∧ df t (sy (stp x q.o q.d slot a)) q ≤ 1 := by
  cases a with
  | true =>
    refine ⟨sn x slot, .inl rfl, ?_⟩
    obtain ⟨hs, hxx, hI⟩ := Ck.in_ok sx
    obtain ⟨vc, s0, s1⟩ := slotV hs
    have hL := Ck.rc_least x.o x.d (slot * 10000 + 2120) vc.d1 vc.d2 hxx
    rw [← hI] at hL
    obtain ⟨t0, t1⟩ := sn_bd sx
    have hn := Gd.least_near x.o x.d _ _ vc.d1 vc.d2 hL px
    have hM : Ts.meaOk q.o q.d slot (sn x slot) := ⟨hq.1, s0, s1, t0, t1⟩
    have e1 : stp x q.o q.d slot true = Ts.cor x.o x.d x.s x.c slot (Ck.sh q.o q.d (sn x slot) - (slot * 10000 + 2120)) := by
      show ak x q.o q.d slot = _
      unfold ak
      rw [if_pos (show Ck.inE x.o x.d slot 2120 = 0 from sx)]
      have m := Ts.mea_ok hM
      unfold sn at m
      rw [if_pos m.2, m.1]
      unfold Ts.ack
      rw [if_pos (show Ts.okS x.o x.d x.s x.c from hx), if_pos ⟨s0, s1⟩]
      rfl
    rw [e1] at he ⊢
    rw [cor_inv he]
    unfold df sy
    dsimp only
    rw [Gd.sh_adj]
    have hn1 : slot * 10000 + 2120 ≤ Ck.sh x.o x.d (sn x slot) := hn.1
    have hn2 : Ck.sh x.o x.d (sn x slot) ≤ slot * 10000 + 2120 + 1 := hn.2
    omega
  | false =>
    refine ⟨sn q slot, .inr rfl, ?_⟩
    obtain ⟨hs, hxx, hI⟩ := Ck.in_ok sq
    obtain ⟨vc, s0, s1⟩ := slotV hs
    have hL := Ck.rc_least q.o q.d (slot * 10000 + 2120) vc.d1 vc.d2 hxx
    rw [← hI] at hL
    obtain ⟨t0, t1⟩ := sn_bd sq
    have hn := Gd.least_near q.o q.d _ _ vc.d1 vc.d2 hL pq
    have hM : Ts.meaOk x.o x.d slot (sn q slot) := ⟨hx.1, s0, s1, t0, t1⟩
    have e1 : stp x q.o q.d slot false = Ts.cor x.o x.d x.s x.c slot (-(Ck.sh x.o x.d (sn q slot) - (slot * 10000 + 2120))) := by
      show hr x q.o q.d slot = _
      unfold hr
      rw [if_pos (show Ck.inE q.o q.d slot 2120 = 0 from sq)]
      have m := Ts.mea_ok hM
      unfold sn at m
      unfold Ts.hear
      rw [if_pos (show Ts.okS x.o x.d x.s x.c from hx), if_pos m.2, m.1]
      rfl
    rw [e1] at he ⊢
    rw [cor_inv he]
    unfold df sy
    dsimp only
    rw [Gd.sh_adj]
    have hn1 : slot * 10000 + 2120 ≤ Ck.sh q.o q.d (sn q slot) := hn.1
    have hn2 : Ck.sh q.o q.d (sn q slot) ≤ slot * 10000 + 2120 + 1 := hn.2
    omega
/-- and later, but for the growth -/
theorem later {x q : Sy} {t T g : Int} (hx : okS x) (hq : okS q) (h0 : -1 ≤ df t x q) (h1 : df t x q ≤ 1) (ht : t ≤ T) (hg : T - t ≤ g) : -(1 + Gd.gr g 100000) ≤ df T x q ∧ df T x q ≤ 1 + Gd.gr g 100000 := by
  have vx := valid_of hx.1
  have vq := valid_of hq.1
  have := Gd.grows q.o q.d x.o x.d t (T - t) 100000 (by omega) vq.d1 vq.d2 vx.d1 vx.d2
  rw [show t + (T - t) = T by omega] at this
  have hm := Gd.gr_mono (T - t) g 100000 100000 (by omega) hg (by decide) (Int.le_refl _)
  unfold df at h0 h1 ⊢
  omega

/-- the corrections of all nodes in one slot -/
def yn (slot : Int) (k : Nat) : Yn := ⟨(k : Int) + 1, slot, decide (((k : Int) + 1) % 2 = 0)⟩
def sY (slot : Int) (n : Nat) : List Yn := (List.range (n - 1)).map (yn slot)
theorem sY_len (slot : Int) (n : Nat) : (sY slot n).length = n - 1 := by unfold sY; simp
theorem sY_get {slot : Int} {n j : Nat} {x : Yn} (h : (sY slot n)[j]? = some x) : j < n - 1 ∧ x = yn slot j := by
  have hj := (List.getElem?_eq_some_iff.1 h).1
  rw [sY_len] at hj
  refine ⟨hj, ?_⟩
  unfold sY at h
  rw [List.getElem?_map, List.getElem?_range hj] at h
  exact (Option.some.inj h).symm
theorem sY_at {slot : Int} {n j : Nat} (h : j < n - 1) : (sY slot n)[j]? = some (yn slot j) := by
  unfold sY
  rw [List.getElem?_map, List.getElem?_range h]; rfl
theorem gt_opt (l : List Sy) (i : Nat) : gt l i = (l[i]?).getD default := by unfold gt; rw [List.getD_eq_getElem?_getD]
theorem gt_eq {l m : List Sy} {i : Nat} (h : l[i]? = m[i]?) : gt l i = gt m i := by rw [gt_opt, gt_opt, h]

/-- one node's correction within the run -/
theorem runs_step {p : List Int} {S : List Sy} {slot : Int} {n : Nat} (hR : (runs p S (sY slot n) 0).2.2 = 0) (hl : okL S) (hn : S.length = n) {i : Nat} (hi : i + 1 < n) (h0 : 0 ≤ Dp.par p (i + 1)) (h1 : Dp.par p (i + 1) ≤ (i : Int)) :
    (stp (gt S (i + 1)) (gt (runs p S (sY slot n) 0).1 (Dp.par p (i + 1)).toNat).o (gt (runs p S (sY slot n) 0).1 (Dp.par p (i + 1)).toNat).d slot (decide (((i : Int) + 1) % 2 = 0))).e = 0 ∧
    gt (runs p S (sY slot n) 0).1 (i + 1) = sy (stp (gt S (i + 1)) (gt (runs p S (sY slot n) 0).1 (Dp.par p (i + 1)).toNat).o (gt (runs p S (sY slot n) 0).1 (Dp.par p (i + 1)).toNat).d slot (decide (((i : Int) + 1) % 2 = 0))) := by
  have hY := sY_at (slot := slot) (n := n) (j := i) (by omega)
  obtain ⟨hlt, hYe⟩ := List.getElem?_eq_some_iff.1 hY
  have hsp : sY slot n = (sY slot n).take i ++ yn slot i :: (sY slot n).drop (i + 1) := by
    conv => lhs; rw [← List.take_append_drop i (sY slot n), List.drop_eq_getElem_cons hlt, hYe]
  obtain ⟨m, m1, m2, m3, m4⟩ := runs_split ((sY slot n).take i) (yn slot i :: (sY slot n).drop (i + 1)) S 0 0 hl (by rw [← hsp]; exact hR)
  rw [← hsp] at m4
  have ke := runs_end ((sY slot n).take i) S 0 hl (by rw [m1])
  have hm1 : gt m (i + 1) = gt S (i + 1) := by
    apply gt_eq
    have := ke.2.2.2 (i + 1) (fun x hx => by
      obtain ⟨j, hj⟩ := List.getElem?_of_mem hx
      rw [List.getElem?_take] at hj
      split at hj
      · obtain ⟨_, rfl⟩ := sY_get hj
        show (j : Int) + 1 ≠ ((i + 1 : Nat) : Int)
        omega
      · cases hj)
    rw [m1] at this
    exact this
  generalize hj0 : (0 : Int) + (((sY slot n).take i).length : Int) = j0 at m4
  rw [m4] at hR ⊢
  have hb : ¬ ((yn slot i).n < 1 ∨ (m.length : Int) ≤ (yn slot i).n) := by
    show ¬ ((i : Int) + 1 < 1 ∨ (m.length : Int) ≤ (i : Int) + 1)
    omega
  by_cases he : (cor1 p m (yn slot i)).e = 0
  · rw [runs_go hb he] at hR ⊢
    have hi1 : (yn slot i).n.toNat = i + 1 := by show ((i : Int) + 1).toNat = i + 1; omega
    rw [hi1] at hR ⊢
    obtain ⟨_, _, _, k4⟩ := runs_end ((sY slot n).drop (i + 1)) (m.set (i + 1) (sy (cor1 p m (yn slot i)))) (j0 + 1) (okL_set m2 (stp_okS he)) hR
    have hd : ∀ k : Nat, k ≤ i + 1 → ∀ x ∈ (sY slot n).drop (i + 1), x.n ≠ (k : Int) := by
      intro k hk x hx
      obtain ⟨j, hj⟩ := List.getElem?_of_mem hx
      rw [List.getElem?_drop] at hj
      obtain ⟨_, rfl⟩ := sY_get hj
      show ((i + 1 + j : Nat) : Int) + 1 ≠ (k : Int)
      omega
    have kA := k4 (i + 1) (hd _ (Nat.le_refl _))
    have kB := k4 (Dp.par p (i + 1)).toNat (hd _ (by omega))
    rw [List.getElem?_set_self (by omega)] at kA
    rw [List.getElem?_set_ne (by omega)] at kB
    have gA : gt (runs p (m.set (i + 1) (sy (cor1 p m (yn slot i)))) ((sY slot n).drop (i + 1)) (j0 + 1)).1 (i + 1) = sy (cor1 p m (yn slot i)) := by rw [gt_opt, kA]; rfl
    rw [gA, gt_eq kB]
    have e : cor1 p m (yn slot i) = stp (gt S (i + 1)) (gt m (Dp.par p (i + 1)).toNat).o (gt m (Dp.par p (i + 1)).toNat).d slot (decide (((i : Int) + 1) % 2 = 0)) := by
      unfold cor1
      rw [hi1, hm1]
      rfl
    rw [← e]
    exact ⟨he, rfl⟩
  · rw [runs_no hb he] at hR; exact absurd hR he

theorem abs_mul {a b d e : Int} (h1 : -e ≤ a ∧ a ≤ e) (h2 : -(d * e) ≤ b ∧ b ≤ d * e) : -((d + 1) * e) ≤ a + b ∧ a + b ≤ (d + 1) * e := by
  rw [Int.add_mul, Int.one_mul]; omega

/-- the law -/
theorem spreads {p : List Int} {S : List Sy} {slot t g : Int} {n : Nat} (hD : Dp.okD p) (hp : p.length = n) (hn : S.length = n) (h2 : 2 ≤ n)
    (hs : ∀ i j, i ≤ j → j < n → Dp.dN p i ≤ Dp.dN p j) (hR : (run p S (sY slot n)).2.2 = 0)
    (hE : ∀ x ∈ (run p S (sY slot n)).1 ++ S, snE x slot = 0 ∧ t ≤ sn x slot ∧ sn x slot ≤ t + g ∧ 0 < sn x slot) :
    spr (run p S (sY slot n)).1 (t + g) ≤ (Dp.dN p (n - 1) + Dp.dN p (n - 2)) * (1 + Gd.gr g 100000) := by
  have hO : okR p S (sY slot n) := (one_ok hR).1
  have e : run p S (sY slot n) = runs p S (sY slot n) 0 := if_pos hO
  rw [e] at hR hE ⊢
  have hl := hO.2.2.2
  obtain ⟨_, q2, q3, _⟩ := runs_end (sY slot n) S 0 hl hR
  have ST := fun (i : Nat) hi h0 h1 => runs_step hR hl hn (i := i) hi h0 h1
  generalize (runs p S (sY slot n) 0).1 = L at *
  have ok : ∀ i, i < n → okS (gt L i) := fun i hi => q3 _ (gt_mem (by omega))
  have g0 : 0 ≤ g := by
    have := hE (gt S 0) (List.mem_append_right _ (gt_mem (by omega)))
    omega
  have G0 : 0 ≤ Gd.gr g 100000 := by unfold Gd.gr; have := Int.mul_nonneg (show 0 ≤ 2 * g by omega) (show (0 : Int) ≤ 100000 by decide); omega
  have dn0 : ∀ i, 0 ≤ Dp.dN p i := fun i => by unfold Dp.dN; omega
  have key : ∀ k i, i < k → i < n → -(Dp.dN p i * (1 + Gd.gr g 100000)) ≤ df (t + g) (gt L i) (gt L 0) ∧ df (t + g) (gt L i) (gt L 0) ≤ Dp.dN p i * (1 + Gd.gr g 100000) := by
    intro k
    induction k with
    | zero => intro i hi; exact absurd hi (Nat.not_lt_zero _)
    | succ k ih =>
      intro i hi hin
      cases i with
      | zero =>
        rw [Dp.d_zero hD, Int.zero_mul]
        unfold df
        omega
      | succ i =>
        obtain ⟨d1, d2, d3⟩ := Dp.d_parent hD (i := i) (by omega)
        have hpi : Dp.par p (i + 1) ≤ (i : Int) := by
          by_cases c : Dp.par p (i + 1) ≤ (i : Int)
          · exact c
          · have := hs (i + 1) (Dp.par p (i + 1)).toNat (by omega) (by omega)
            omega
        obtain ⟨s1, s2⟩ := ST i hin d1 hpi
        have hqn : (Dp.par p (i + 1)).toNat < n := by omega
        obtain ⟨x1, x2, x3, x4⟩ := hE (gt S (i + 1)) (List.mem_append_right _ (gt_mem (by omega)))
        obtain ⟨y1, y2, y3, y4⟩ := hE (gt L (Dp.par p (i + 1)).toNat) (List.mem_append_left _ (gt_mem (by omega)))
        obtain ⟨u, u1, u2, u3⟩ := near (hl _ (gt_mem (by omega))) (ok _ hqn) s1 x1 x4 y1 y4
        rw [← s2] at u2 u3
        have ut : t ≤ u ∧ u ≤ t + g := by rcases u1 with rfl | rfl <;> omega
        have A := later (ok (i + 1) hin) (ok _ hqn) u2 u3 (T := t + g) (g := g) (by omega) (by omega)
        have B := ih (Dp.par p (i + 1)).toNat (by omega) hqn
        have C := abs_mul A B
        rw [← d3] at C
        have e2 : df (t + g) (gt L (i + 1)) (gt L (Dp.par p (i + 1)).toNat) + df (t + g) (gt L (Dp.par p (i + 1)).toNat) (gt L 0) = df (t + g) (gt L (i + 1)) (gt L 0) := by unfold df; omega
        rw [e2] at C
        exact C
  have m0 : 0 ≤ (Dp.dN p (n - 1) + Dp.dN p (n - 2)) * (1 + Gd.gr g 100000) := Int.mul_nonneg (by have := dn0 (n - 1); have := dn0 (n - 2); omega) (by omega)
  have pair : ∀ i j, i < j → j < n → (Dp.dN p i + Dp.dN p j) * (1 + Gd.gr g 100000) ≤ (Dp.dN p (n - 1) + Dp.dN p (n - 2)) * (1 + Gd.gr g 100000) := fun i j hij hj =>
    Int.mul_le_mul_of_nonneg_right (by have := hs j (n - 1) (by omega) (by omega); have := hs i (n - 2) (by omega) (by omega); omega) (by omega)
  obtain ⟨_, _, T3⟩ := spr_top L (t + g)
  rcases T3 with T3 | ⟨a, ha, b, hb, T3⟩
  · rw [T3]; exact m0
  · rw [T3]
    obtain ⟨i, hi⟩ := List.getElem?_of_mem ha
    obtain ⟨j, hj⟩ := List.getElem?_of_mem hb
    have ei : gt L i = a := by rw [gt_opt, hi]; rfl
    have ej : gt L j = b := by rw [gt_opt, hj]; rfl
    have li := (List.getElem?_eq_some_iff.1 hi).1
    have lj := (List.getElem?_eq_some_iff.1 hj).1
    have A := key (i + 1) i (by omega) (by omega)
    have B := key (j + 1) j (by omega) (by omega)
    rw [ei] at A
    rw [ej] at B
    have e3 : df (t + g) a b = df (t + g) a (gt L 0) - df (t + g) b (gt L 0) := by unfold df; omega
    rw [e3]
    rcases Nat.lt_trichotomy i j with c | c | c
    · have P := pair i j c (by omega)
      rw [Int.add_mul] at P
      omega
    · subst c
      rw [hi] at hj
      cases hj
      omega
    · have P := pair j i c (by omega)
      rw [Int.add_mul] at P
      omega
end Go.Proofs.Ytjiaemmhjkhdhaa.Ru
