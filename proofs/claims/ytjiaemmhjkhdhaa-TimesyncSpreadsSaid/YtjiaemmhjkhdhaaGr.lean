/- Worlds that have only grown: nothing that was there has turned; blocks may have been laid behind it, and draws made. No condition. -/
import Derived.WalkKit
import Derived.WalkSpells
import Derived.Sort.Grow
import Derived.Deep.Draws
import Derived.Deep.QuietTactic
import Derived.BigQuiet
import Derived.Lib.Hide
import Derived.Lib.QuietBelow
import Derived.Laws.AppendOwn
namespace Go.Proofs.Ytjiaemmhjkhdhaa
open Go.RowKit Go.Sort

/-- w' is w, with some draws made and some blocks laid behind it -/
def Gr (w w' : World) : Prop := Below w.heap.size w w'

theorem Gr.refl (w : World) : Gr w w := Below.refl _ _
theorem Gr.size {a b : World} (h : Gr a b) : a.heap.size ≤ b.heap.size := Below.size h
theorem Gr.trans {a b c : World} (h : Gr a b) (k : Gr b c) : Gr a c := Below.trans h (Below.mono k h.size)
theorem Gr.alloc {a b : World} (h : Gr a b) (o : Obj) : Gr a (b.alloc o) := Below.alloc h h.size o
theorem Gr.drew {a b : World} (h : Gr a b) : Gr a b.drew := Below.drew h
theorem Gr.drewN {a b : World} (h : Gr a b) (n : Nat) : Gr a (b.drewN n) := h.trans ⟨rfl, rfl, rfl, Nat.le_refl _, fun _ _ => rfl⟩
theorem Gr.grown {a b : World} (h : Gr a b) (n : Nat) (os : Array Obj) : Gr a (grow (b.drewN n) os) :=
  h.trans ⟨rfl, rfl, rfl, by simp [grow, World.drewN], fun k hk => by simp [grow, World.drewN, Array.getElem?_append, hk]⟩
theorem Gr.regrown {a b : World} (h : Gr a b) (n : Nat) (os : Array Obj) : Gr a (grow (redrawn b n) os) := h.trans (below_regrown b n os)
theorem Gr.cell {a b : World} (h : Gr a b) {p : Addr} (hp : p.block < a.heap.size) : b.cell? p = a.cell? p := Below.cell h hp
theorem Gr.frozen {a b : World} (h : Gr a b) {p : Addr} (hp : p.block < a.heap.size) : b.frozen? p = a.frozen? p := Below.frozen h hp
theorem Gr.below {a b : World} (h : Gr a b) : Below a.heap.size a b := h
theorem Gr.of_below {a b : World} (h : Below a.heap.size a b) : Gr a b := h
theorem Gr.setCell {a b : World} (h : Gr a b) {p : Addr} (hp : a.heap.size ≤ p.block) (v : Value) : Gr a (b.setCell p v) := Below.setCell h hp v
/-- behind an append to a row of the call's own -/
theorem Gr.append {a b c : World} {row : Option Nat} (h : Gr a b) (hg : b.grownBy c row) (hr : ∀ k, row = some k → a.heap.size ≤ k) : Gr a c := Below.grown h hg h.size hr
/-- the two rules on old cells -/
theorem Gr.rules {W w1 : World} (h : Gr W w1) : (∀ b o, b < W.heap.size → w1.cell? ⟨b, o, none⟩ = W.cell? ⟨b, o, none⟩) ∧ (∀ b o, b < W.heap.size → w1.frozen? ⟨b, o, none⟩ = W.frozen? ⟨b, o, none⟩) :=
  ⟨fun _ _ hb => h.cell hb, fun _ _ hb => h.frozen hb⟩
/-- a contract, met in a world of the class of a region that draws -/
theorem Gr.meet {P : Program} {f : FuncId} {args : Array Value} {w : World} {d : Nat} {os : Array Obj} {v : Value}
    (h : Calls P f args (grow (redrawn w d) os) fun e w' => e = .returned v ∧ Gr (grow (redrawn w d) os) w') : Calls P f args (grow (redrawn w d) os) fun e w'' => e = .returned v ∧ ∃ p : Regrown, w'' = grow (redrawn w p.d) p.os :=
  Calls.regrown_of h
end Go.Proofs.Ytjiaemmhjkhdhaa
