/- Rules as values: a row of nine. No condition. -/
import Derived.Test.YtkhanjhjcfhhiaaAlcDec
import Derived.Test.YtkhanjhjcfhhiaaRow
namespace Go.Proofs.Ytkhanjhjcfhhiaa
open Go.RowKit Go.Sort

def rv0 : Nat → Value
  | 0 => .func (.func 51) #[] #[]
  | 1 => .func (.func 53) #[] #[]
  | 2 => .func (.func 54) #[] #[]
  | 3 => .func (.func 55) #[] #[]
  | 4 => .func (.func 57) #[] #[]
  | 5 => .func (.func 58) #[] #[]
  | 6 => .func (.func 59) #[] #[]
  | 7 => .func (.func 60) #[] #[]
  | _ => .func (.func 61) #[] #[]
def rv2 : Nat → Value
  | 0 => .func (.func 52) #[] #[]
  | 1 => .func (.func 49) #[] #[]
  | 2 => .func (.func 50) #[] #[]
  | 3 => .func (.func 56) #[] #[]
  | 4 => .func (.func 50) #[] #[]
  | 5 => .func (.func 49) #[] #[]
  | 6 => .func (.func 49) #[] #[]
  | 7 => .func (.func 49) #[] #[]
  | _ => .func (.func 50) #[] #[]
abbrev encR (x : Nat) : List Value := [rv0 x, .int .i64 (Al.rk x), rv2 x]
theorem encR_len (x : Nat) : (encR x).length = 3 := rfl
end Go.Proofs.Ytkhanjhjcfhhiaa
