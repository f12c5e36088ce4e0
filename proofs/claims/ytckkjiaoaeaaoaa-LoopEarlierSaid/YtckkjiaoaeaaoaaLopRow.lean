/- Loops, splits, deliveries, flows as values. No condition. -/
import Derived.Test.YtckkjiaoaeaaoaaLopPlain
import Derived.Test.YtckkjiaoaeaaoaaRow
import Derived.Test.YtckkjiaoaeaaoaaPut
import Derived.Test.YtckkjiaoaeaaoaaHeld
namespace Go.Proofs.Ytckkjiaoaeaaoaa
open Go.RowKit Go.Sort

abbrev encL (x : Lo) : List Value := [.int .i64 x.id, .int .i64 x.se, .int .i64 x.co, .int .i64 x.ac, .int .i64 x.pe, .int .i64 x.ph, .int .i64 x.ag]
theorem encL_len (x : Lo) : (encL x).length = 7 := rfl
abbrev encP (x : Sp) : List Value := [.int .i64 x.s, .int .i64 x.a]
theorem encP_len (x : Sp) : (encP x).length = 2 := rfl
abbrev encD (x : Dv) : List Value := [.int .i64 x.f, .int .i64 x.r, .int .i64 x.t]
theorem encD_len (x : Dv) : (encD x).length = 3 := rfl
abbrev encF (f : Fl) : List Value := [.int .i64 f.id, .int .i64 f.fr, .int .i64 f.to, .int .i64 f.pe, .int .i64 f.ph, .int .i64 f.de]
theorem encF_len (x : Fl) : (encF x).length = 6 := rfl

/-- a thing lies at a place -/
def At {α : Type} (enc : α → List Value) (W : World) (b o : Nat) (x : α) : Prop := ∀ (j : Nat) u, (enc x)[j]? = some u → W.cell? ⟨b, o + j, none⟩ = some u
theorem At.gr {α : Type} {enc : α → List Value} {W W' : World} {b o : Nat} {x : α} (h : At enc W b o x) (g : Gr W W') : At enc W' b o x := fun j u hj => held_keep g (h j u hj)
theorem At.new {α : Type} (enc : α → List Value) (W : World) (x : α) (t) : At enc (W.alloc (Obj.cells (enc x).toArray t)) W.heap.size 0 x := fun j u hj => by
  rw [World.cell?_alloc_new, Nat.zero_add]
  simpa using hj
/-- a slice of things: nothing, or a block -/
def Sl {α : Type} (k : Nat) (enc : α → List Value) (w : World) (v : Value) (l : List α) : Prop := (l.length = 0 ∨ ∃ b off, (∃ c, v = .slice (some ⟨b, off, none⟩) l.length c) ∧ b < w.heap.size ∧ ∀ (i : Nat) x, l[i]? = some x → At enc w b (off + i * k) x)
theorem Rows.sl {α : Type} {k : Nat} {enc : α → List Value} {w : World} {v : Value} {l : List α} (h : Rows k enc w v l) : Sl k enc w v l := by
  rcases h with ⟨rfl, _⟩ | ⟨b, off, c, hb, hv, hc⟩
  · exact .inl rfl
  · exact .inr ⟨b, off, ⟨c, hv⟩, hb, fun i x hi j u hj => hc i x hi j u hj⟩
end Go.Proofs.Ytckkjiaoaeaaoaa
