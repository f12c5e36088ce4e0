/-
  No cell of these rows narrows 'for every input' (looked for: loops, veiled, ifaces, maps, wideKeys, modest, calm, conditions, laid).
  DERIVED. THE GIVEN ROWS OF THIS SEAT. 7 by the template 'for every input the law returns true; each argument reads behind the call as it read before'; 0 by the template 'total and deterministic' (their statements: YtkhanjhjcfhhiaaTotals.lean).
  GIVEN WITH THE SEED: the statements are not yours to turn. If you find one false, say at which input.
  Laid BY PROGRAM, IN A SANDBOX (cutbox-rows.mjs): the forced cells as the released guide's own fill.sh prints them over the translation 993cec304b497422… (all of the seat's roots in one cut). By AI agents, Wed Nov 11 2026. No macro, syntax, notation, axiom, sorry.
-/
import Derived.Test.YtkhanjhjcfhhiaaChecked
import GoSem.Claim
import GoSem.ClaimJoined
import GoSem.ClaimMapViews
import Derived.JoinedTies
import Derived.KernelRfl
namespace Go.Proofs.Ytkhanjhjcfhhiaa
/- THE CELL 'sum', in the pinned program and in every row, IS THE sha256 OF THE DUMP (.gsa) THAT YtkhanjhjcfhhiaaProg.lean LOADS. Nothing in Lean hashes anything: it is a label: what it is worth is what the hold of that sum in a sandbox is worth. -/
noncomputable def Try.pinned : Pinned := { name := "ytkhanjhjcfhhiaa", sum := "993cec304b49742280a8d0a0c004c821799716a3bf3bdeeb7943220eb917b181", checked := Try.checked }
namespace Rows
def none {H : Type} : Left H := { results := [], args := [] }

/-- 'hopmeshlaw29.AllocateDecides': WHATEVER THE INPUT: true; the input reads as it did. -/
def allocateDecidesSpec : ChangeSpec := { name := "allocateDecides", fn := fun _ => fun
  | [d1, d2, d3, d4] => { results := [.lit (.bool true)], args := [d1, d2, d3, d4] }
  | _ => none }
def allocateDecidesRow : OpenClaim := { program := "ytkhanjhjcfhhiaa", sum := "993cec304b49742280a8d0a0c004c821799716a3bf3bdeeb7943220eb917b181", func := "hopmesh/hopmeshlaw29.AllocateDecides", spec := "allocateDecides", unfollowed := true, recurses := true, apart := false }
def AllocateDecidesSaid : Prop := allocateDecidesRow.holds Try.pinned (OpenSpec.ofChange allocateDecidesSpec)

/-- ITS FALSE NEIGHBOUR: 'it returns false'. Refute it at one input. -/
def allocateDecidesWrong : ChangeSpec := { name := "allocateDecides", fn := fun _ => fun
  | [d1, d2, d3, d4] => { results := [.lit (.bool false)], args := [d1, d2, d3, d4] }
  | _ => none }
def AllocateDecidesWrongFalsely : Prop := allocateDecidesRow.holds Try.pinned (OpenSpec.ofChange allocateDecidesWrong)

/-- 'hopmeshlaw29.AllocateSteady': WHATEVER THE INPUT: true; the input reads as it did. -/
def allocateSteadySpec : ChangeSpec := { name := "allocateSteady", fn := fun _ => fun
  | [d1, d2, d3, d4] => { results := [.lit (.bool true)], args := [d1, d2, d3, d4] }
  | _ => none }
def allocateSteadyRow : OpenClaim := { program := "ytkhanjhjcfhhiaa", sum := "993cec304b49742280a8d0a0c004c821799716a3bf3bdeeb7943220eb917b181", func := "hopmesh/hopmeshlaw29.AllocateSteady", spec := "allocateSteady", unfollowed := true, recurses := true, apart := false }
def AllocateSteadySaid : Prop := allocateSteadyRow.holds Try.pinned (OpenSpec.ofChange allocateSteadySpec)

/-- ITS FALSE NEIGHBOUR: 'it returns false'. Refute it at one input. -/
def allocateSteadyWrong : ChangeSpec := { name := "allocateSteady", fn := fun _ => fun
  | [d1, d2, d3, d4] => { results := [.lit (.bool false)], args := [d1, d2, d3, d4] }
  | _ => none }
def AllocateSteadyWrongFalsely : Prop := allocateSteadyRow.holds Try.pinned (OpenSpec.ofChange allocateSteadyWrong)

/-- 'hopmeshlaw29.AllocateNoSwing': WHATEVER THE INPUT: true; the input reads as it did. -/
def allocateNoSwingSpec : ChangeSpec := { name := "allocateNoSwing", fn := fun _ => fun
  | [d1, d2, d3, d4] => { results := [.lit (.bool true)], args := [d1, d2, d3, d4] }
  | _ => none }
def allocateNoSwingRow : OpenClaim := { program := "ytkhanjhjcfhhiaa", sum := "993cec304b49742280a8d0a0c004c821799716a3bf3bdeeb7943220eb917b181", func := "hopmesh/hopmeshlaw29.AllocateNoSwing", spec := "allocateNoSwing", unfollowed := true, recurses := true, apart := false }
def AllocateNoSwingSaid : Prop := allocateNoSwingRow.holds Try.pinned (OpenSpec.ofChange allocateNoSwingSpec)

/-- ITS FALSE NEIGHBOUR: 'it returns false'. Refute it at one input. -/
def allocateNoSwingWrong : ChangeSpec := { name := "allocateNoSwing", fn := fun _ => fun
  | [d1, d2, d3, d4] => { results := [.lit (.bool false)], args := [d1, d2, d3, d4] }
  | _ => none }
def AllocateNoSwingWrongFalsely : Prop := allocateNoSwingRow.holds Try.pinned (OpenSpec.ofChange allocateNoSwingWrong)

/-- 'hopmeshlaw29.AllocateWorst': WHATEVER THE INPUT: true; the input reads as it did. -/
def allocateWorstSpec : ChangeSpec := { name := "allocateWorst", fn := fun _ => fun
  | [d] => { results := [.lit (.bool true)], args := [d] }
  | _ => none }
def allocateWorstRow : OpenClaim := { program := "ytkhanjhjcfhhiaa", sum := "993cec304b49742280a8d0a0c004c821799716a3bf3bdeeb7943220eb917b181", func := "hopmesh/hopmeshlaw29.AllocateWorst", spec := "allocateWorst", unfollowed := true, recurses := true, apart := false }
def AllocateWorstSaid : Prop := allocateWorstRow.holds Try.pinned (OpenSpec.ofChange allocateWorstSpec)

/-- ITS FALSE NEIGHBOUR: 'it returns false'. Refute it at one input. -/
def allocateWorstWrong : ChangeSpec := { name := "allocateWorst", fn := fun _ => fun
  | [d] => { results := [.lit (.bool false)], args := [d] }
  | _ => none }
def AllocateWorstWrongFalsely : Prop := allocateWorstRow.holds Try.pinned (OpenSpec.ofChange allocateWorstWrong)

/-- 'hopmeshlaw29.AllocateSettles': WHATEVER THE INPUT: true; the input reads as it did. -/
def allocateSettlesSpec : ChangeSpec := { name := "allocateSettles", fn := fun _ => fun
  | [d1, d2, d3, d4, d5, d6] => { results := [.lit (.bool true)], args := [d1, d2, d3, d4, d5, d6] }
  | _ => none }
def allocateSettlesRow : OpenClaim := { program := "ytkhanjhjcfhhiaa", sum := "993cec304b49742280a8d0a0c004c821799716a3bf3bdeeb7943220eb917b181", func := "hopmesh/hopmeshlaw29.AllocateSettles", spec := "allocateSettles", unfollowed := true, recurses := true, apart := false }
def AllocateSettlesSaid : Prop := allocateSettlesRow.holds Try.pinned (OpenSpec.ofChange allocateSettlesSpec)

/-- ITS FALSE NEIGHBOUR: 'it returns false'. Refute it at one input. -/
def allocateSettlesWrong : ChangeSpec := { name := "allocateSettles", fn := fun _ => fun
  | [d1, d2, d3, d4, d5, d6] => { results := [.lit (.bool false)], args := [d1, d2, d3, d4, d5, d6] }
  | _ => none }
def AllocateSettlesWrongFalsely : Prop := allocateSettlesRow.holds Try.pinned (OpenSpec.ofChange allocateSettlesWrong)

/-- 'hopmeshlaw29.AllocateLists': WHATEVER THE INPUT: true; the input reads as it did. -/
def allocateListsSpec : ChangeSpec := { name := "allocateLists", fn := fun _ => fun
  | [d1, d2, d3, d4] => { results := [.lit (.bool true)], args := [d1, d2, d3, d4] }
  | _ => none }
def allocateListsRow : OpenClaim := { program := "ytkhanjhjcfhhiaa", sum := "993cec304b49742280a8d0a0c004c821799716a3bf3bdeeb7943220eb917b181", func := "hopmesh/hopmeshlaw29.AllocateLists", spec := "allocateLists", unfollowed := true, recurses := true, apart := false }
def AllocateListsSaid : Prop := allocateListsRow.holds Try.pinned (OpenSpec.ofChange allocateListsSpec)

/-- ITS FALSE NEIGHBOUR: 'it returns false'. Refute it at one input. -/
def allocateListsWrong : ChangeSpec := { name := "allocateLists", fn := fun _ => fun
  | [d1, d2, d3, d4] => { results := [.lit (.bool false)], args := [d1, d2, d3, d4] }
  | _ => none }
def AllocateListsWrongFalsely : Prop := allocateListsRow.holds Try.pinned (OpenSpec.ofChange allocateListsWrong)

/-- 'hopmeshlaw29.AllocatePasses': WHATEVER THE INPUT: true; the input reads as it did. -/
def allocatePassesSpec : ChangeSpec := { name := "allocatePasses", fn := fun _ => fun
  | [d1, d2] => { results := [.lit (.bool true)], args := [d1, d2] }
  | _ => none }
def allocatePassesRow : OpenClaim := { program := "ytkhanjhjcfhhiaa", sum := "993cec304b49742280a8d0a0c004c821799716a3bf3bdeeb7943220eb917b181", func := "hopmesh/hopmeshlaw29.AllocatePasses", spec := "allocatePasses", unfollowed := true, recurses := true, apart := false }
def AllocatePassesSaid : Prop := allocatePassesRow.holds Try.pinned (OpenSpec.ofChange allocatePassesSpec)

/-- ITS FALSE NEIGHBOUR: 'it returns false'. Refute it at one input. -/
def allocatePassesWrong : ChangeSpec := { name := "allocatePasses", fn := fun _ => fun
  | [d1, d2] => { results := [.lit (.bool false)], args := [d1, d2] }
  | _ => none }
def AllocatePassesWrongFalsely : Prop := allocatePassesRow.holds Try.pinned (OpenSpec.ofChange allocatePassesWrong)

/- THE SECOND FORM. 'bulk': how many values and letters a reading holds, each counted each time it is reached (what is shared counts as often as it is met; a slice's spare places count too). A statement '..UptoSaid' is the law's where the arguments, and the package variables that the reading takes, are together of bulk at most 1048576: NARROWER than '..Said'. Prove '..Said' where nothing that the law and all that it calls make is longer than what came in: it says more and counts as full. Else prove '..UptoSaid'. A law counts once. -/
mutual
def uptoBulk {H : Type} : DataW H → Nat
  | .lit (.string bytes) => bytes.length + 1
  | .lit _ => 1
  | .nil => 1
  | .ptr d => uptoBulk d + 1
  | .slice elems spare => uptoBulkAll elems + uptoBulkAll spare + 1
  | .agg parts => uptoBulkAll parts + 1
  | .iface _ d => uptoBulk d + 1
  | .map entries => uptoBulkEntries entries + 1
  | .held _ => 1
def uptoBulkAll {H : Type} : List (DataW H) → Nat
  | [] => 0
  | d :: r => uptoBulk d + uptoBulkAll r
def uptoBulkEntries {H : Type} : List (Lit × DataW H) → Nat
  | [] => 0
  | x :: r => uptoBulkEntry x + uptoBulkEntries r
def uptoBulkEntry {H : Type} : Lit × DataW H → Nat
  | (.string bytes, d) => bytes.length + uptoBulk d + 1
  | (_, d) => uptoBulk d + 1
 end
def uptoSmall : (H : Type) → List (DataW H) → Bool := fun _ ds => decide (uptoBulkAll ds ≤ 1048576)
def OpenSpec.upto (s : _root_.Go.ChangeSpec) : _root_.Go.OpenSpec := { _root_.Go.OpenSpec.ofChange s with cond := some uptoSmall }

/-- 'hopmeshlaw29.AllocateDecides', WHERE WHAT IT READS IS OF BULK AT MOST 1048576: true; the input reads as it did. -/
def allocateDecidesUptoRow : OpenClaim := { program := "ytkhanjhjcfhhiaa", sum := "993cec304b49742280a8d0a0c004c821799716a3bf3bdeeb7943220eb917b181", func := "hopmesh/hopmeshlaw29.AllocateDecides", spec := "allocateDecides", unfollowed := true, recurses := true, apart := false, narrowed := true }
def AllocateDecidesUptoSaid : Prop := allocateDecidesUptoRow.holds Try.pinned (OpenSpec.upto allocateDecidesSpec)

/-- 'hopmeshlaw29.AllocateSteady', WHERE WHAT IT READS IS OF BULK AT MOST 1048576: true; the input reads as it did. -/
def allocateSteadyUptoRow : OpenClaim := { program := "ytkhanjhjcfhhiaa", sum := "993cec304b49742280a8d0a0c004c821799716a3bf3bdeeb7943220eb917b181", func := "hopmesh/hopmeshlaw29.AllocateSteady", spec := "allocateSteady", unfollowed := true, recurses := true, apart := false, narrowed := true }
def AllocateSteadyUptoSaid : Prop := allocateSteadyUptoRow.holds Try.pinned (OpenSpec.upto allocateSteadySpec)

/-- 'hopmeshlaw29.AllocateNoSwing', WHERE WHAT IT READS IS OF BULK AT MOST 1048576: true; the input reads as it did. -/
def allocateNoSwingUptoRow : OpenClaim := { program := "ytkhanjhjcfhhiaa", sum := "993cec304b49742280a8d0a0c004c821799716a3bf3bdeeb7943220eb917b181", func := "hopmesh/hopmeshlaw29.AllocateNoSwing", spec := "allocateNoSwing", unfollowed := true, recurses := true, apart := false, narrowed := true }
def AllocateNoSwingUptoSaid : Prop := allocateNoSwingUptoRow.holds Try.pinned (OpenSpec.upto allocateNoSwingSpec)

/-- 'hopmeshlaw29.AllocateWorst', WHERE WHAT IT READS IS OF BULK AT MOST 1048576: true; the input reads as it did. -/
def allocateWorstUptoRow : OpenClaim := { program := "ytkhanjhjcfhhiaa", sum := "993cec304b49742280a8d0a0c004c821799716a3bf3bdeeb7943220eb917b181", func := "hopmesh/hopmeshlaw29.AllocateWorst", spec := "allocateWorst", unfollowed := true, recurses := true, apart := false, narrowed := true }
def AllocateWorstUptoSaid : Prop := allocateWorstUptoRow.holds Try.pinned (OpenSpec.upto allocateWorstSpec)

/-- 'hopmeshlaw29.AllocateSettles', WHERE WHAT IT READS IS OF BULK AT MOST 1048576: true; the input reads as it did. -/
def allocateSettlesUptoRow : OpenClaim := { program := "ytkhanjhjcfhhiaa", sum := "993cec304b49742280a8d0a0c004c821799716a3bf3bdeeb7943220eb917b181", func := "hopmesh/hopmeshlaw29.AllocateSettles", spec := "allocateSettles", unfollowed := true, recurses := true, apart := false, narrowed := true }
def AllocateSettlesUptoSaid : Prop := allocateSettlesUptoRow.holds Try.pinned (OpenSpec.upto allocateSettlesSpec)

/-- 'hopmeshlaw29.AllocateLists', WHERE WHAT IT READS IS OF BULK AT MOST 1048576: true; the input reads as it did. -/
def allocateListsUptoRow : OpenClaim := { program := "ytkhanjhjcfhhiaa", sum := "993cec304b49742280a8d0a0c004c821799716a3bf3bdeeb7943220eb917b181", func := "hopmesh/hopmeshlaw29.AllocateLists", spec := "allocateLists", unfollowed := true, recurses := true, apart := false, narrowed := true }
def AllocateListsUptoSaid : Prop := allocateListsUptoRow.holds Try.pinned (OpenSpec.upto allocateListsSpec)

/-- 'hopmeshlaw29.AllocatePasses', WHERE WHAT IT READS IS OF BULK AT MOST 1048576: true; the input reads as it did. -/
def allocatePassesUptoRow : OpenClaim := { program := "ytkhanjhjcfhhiaa", sum := "993cec304b49742280a8d0a0c004c821799716a3bf3bdeeb7943220eb917b181", func := "hopmesh/hopmeshlaw29.AllocatePasses", spec := "allocatePasses", unfollowed := true, recurses := true, apart := false, narrowed := true }
def AllocatePassesUptoSaid : Prop := allocatePassesUptoRow.holds Try.pinned (OpenSpec.upto allocatePassesSpec)

end Rows
end Go.Proofs.Ytkhanjhjcfhhiaa
