/- The contract of the reference's Adjust. -/
import Derived.Test.YtjiaemmhjkhdhaaR8A
import Derived.Test.YtjiaemmhjkhdhaaClkB
namespace Go.Proofs.Ytjiaemmhjkhdhaa
open Go.RowKit Go.Sort

set_option maxHeartbeats 400000 in
theorem radjust_any (o d n : Int) (w : World) :
    Calls Try.prog 65 #[.agg #[.int .i64 o, .int .i64 d], .int .i64 n] w fun e w' => e = .returned (.tuple #[.agg #[.int .i64 (Ck.adjO o d n), .int .i64 (Ck.adjD o d n)], .int .i64 (Ck.adjE o d n)]) ∧ Gr w w' := by
  rcases Ck.chk_01 o d with ⟨hc, v⟩ | ⟨hc, v⟩
  · by_cases hn : -2199023255552 ≤ n ∧ n ≤ 2199023255552
    · obtain ⟨n1, n2⟩ := hn
      obtain ⟨o1, o2, d1, d2⟩ := v
      rcases Ck.chk_01 (o + n) d with ⟨hc2, v2⟩ | ⟨hc2, v2⟩
      all_goals
        go_enter Try.func65, Try.ntmps65
        go_wp2_with fail
        refine (rcheck_any _ _ _).mono ?_
        rintro e w1 ⟨rfl, hg⟩
        obtain ⟨c0, c1, c2, c3, f0, f2, f3, hz, hG⟩ := adj_cells hg
        clear hg
        go_wp2_with fail
        refine (rcheck_any _ _ _).mono ?_
        rintro e w2 ⟨rfl, hg2⟩
        have k0 : w2.cell? ⟨w.heap.size, 0, none⟩ = some (.int .i64 (o + n)) := by rw [hg2.cell (by simp; omega)]; go_simp
        have k1 : w2.cell? ⟨w.heap.size, 1, none⟩ = some (.int .i64 d) := by rw [hg2.cell (by simp; omega)]; go_simp
        have k2 : w2.cell? ⟨w.heap.size + 1, 0, none⟩ = some (.int .i64 0) := by rw [hg2.cell (by simp; omega)]; go_simp
        have k3 : w2.cell? ⟨w.heap.size + 1, 1, none⟩ = some (.int .i64 0) := by rw [hg2.cell (by simp; omega)]; go_simp
        have k4 : w2.frozen? ⟨w.heap.size + 1, 0, none⟩ = false := by rw [hg2.frozen (by simp; omega)]; go_simp
        have k5 : w2.frozen? ⟨w.heap.size + 1, 1, none⟩ = false := by rw [hg2.frozen (by simp; omega)]; go_simp
        have hG2 : Gr w w2 := (hG.setCell (Nat.le_refl _) _).trans hg2
        clear c0 c1 c2 c3 f0 f2 f3 hz hG hg2
        go_wp2
        refine bodyPost_ret (v := .tuple #[.agg #[.int .i64 (Ck.adjO o d n), .int .i64 (Ck.adjD o d n)], .int .i64 (Ck.adjE o d n)]) ?_ rfl ⟨rfl, by repeat (first | (with_reducible exact Gr.refl _) | (with_reducible assumption) | (with_reducible refine Gr.alloc ?_ _) | (with_reducible refine Gr.drewN ?_ _) | (with_reducible refine Gr.drew ?_) | (with_reducible refine Gr.grown ?_ _ _) | (with_reducible refine Gr.regrown ?_ _ _) | (with_reducible refine Gr.setCell ?_ (by first | omega | (simp; omega) | simp) _) | (with_reducible refine Gr.trans ?_ (by with_reducible assumption)))⟩
        first
          | (rw [(Ck.adj_ok hc n1 n2 hc2).1, (Ck.adj_ok hc n1 n2 hc2).2.1, (Ck.adj_ok hc n1 n2 hc2).2.2]; simp [results, Try.results65, go_sem, k2, k3])
          | (rw [(Ck.adj_no2 hc2).1, (Ck.adj_no2 hc2).2.1, (Ck.adj_no2 hc2).2.2]; simp [results, Try.results65, go_sem, k2, k3])
    · have hb : n < -2199023255552 ∨ 2199023255552 < n := by omega
      have hno := Ck.adj_no3 (o := o) (d := d) (n := n) hn
      have HN := Lib.hid hno
      clear hno hn
      rcases hb with hb | hb
      all_goals
        go_enter Try.func65, Try.ntmps65
        go_wp2_with fail
        refine (rcheck_any _ _ _).mono ?_
        rintro e w1 ⟨rfl, hg⟩
        obtain ⟨c0, c1, c2, c3, f0, f2, f3, hz, hG⟩ := adj_cells hg
        clear hg
        go_wp2
        refine bodyPost_ret (v := .tuple #[.agg #[.int .i64 (Ck.adjO o d n), .int .i64 (Ck.adjD o d n)], .int .i64 (Ck.adjE o d n)]) ?_ rfl ⟨rfl, by repeat (first | (with_reducible exact Gr.refl _) | (with_reducible assumption) | (with_reducible refine Gr.alloc ?_ _) | (with_reducible refine Gr.drewN ?_ _) | (with_reducible refine Gr.drew ?_) | (with_reducible refine Gr.grown ?_ _ _) | (with_reducible refine Gr.regrown ?_ _ _) | (with_reducible refine Gr.setCell ?_ (by first | omega | (simp; omega) | simp) _) | (with_reducible refine Gr.trans ?_ (by with_reducible assumption)))⟩
        rw [HN.out.1, HN.out.2.1, HN.out.2.2]
        simp [results, Try.results65, go_sem, c2, c3]
  · have hno := Ck.adj_no1 (o := o) (d := d) (n := n) hc
    have HN := Lib.hid hno
    clear hno
    go_enter Try.func65, Try.ntmps65
    go_wp2_with fail
    refine (rcheck_any _ _ _).mono ?_
    rintro e w1 ⟨rfl, hg⟩
    obtain ⟨c0, c1, c2, c3, f0, f2, f3, hz, hG⟩ := adj_cells hg
    clear hg
    go_wp2
    refine bodyPost_ret (v := .tuple #[.agg #[.int .i64 (Ck.adjO o d n), .int .i64 (Ck.adjD o d n)], .int .i64 (Ck.adjE o d n)]) ?_ rfl ⟨rfl, by repeat (first | (with_reducible exact Gr.refl _) | (with_reducible assumption) | (with_reducible refine Gr.alloc ?_ _) | (with_reducible refine Gr.drewN ?_ _) | (with_reducible refine Gr.drew ?_) | (with_reducible refine Gr.grown ?_ _ _) | (with_reducible refine Gr.regrown ?_ _ _) | (with_reducible refine Gr.setCell ?_ (by first | omega | (simp; omega) | simp) _) | (with_reducible refine Gr.trans ?_ (by with_reducible assumption)))⟩
    rw [HN.out.1, HN.out.2.1, HN.out.2.2]
    simp [results, Try.results65, go_sem, c2, c3]

end Go.Proofs.Ytjiaemmhjkhdhaa
