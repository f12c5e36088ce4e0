/- Usages and cells as values. No condition. -/
import Derived.Test.YtkhanjhjcfhhiaaAlcPlain
import Derived.Test.YtkhanjhjcfhhiaaRow
namespace Go.Proofs.Ytkhanjhjcfhhiaa
open Go.RowKit Go.Sort

abbrev encC (c : Cl) : List Value := [.int .i64 c.s, .int .i64 c.o, .int .i64 c.k, .bool c.b, .int .i64 c.p, .int .i64 c.f]
theorem encC_len (c : Cl) : (encC c).length = 6 := rfl
abbrev encU (x : Us) : List Value := [.int .i64 x.c.s, .int .i64 x.c.o, .int .i64 x.c.k, .bool x.c.b, .int .i64 x.c.p, .int .i64 x.c.f, .int .i64 x.pa, .int .i64 x.us, .int .i64 x.wo]
theorem encU_len (x : Us) : (encU x).length = 9 := rfl
end Go.Proofs.Ytkhanjhjcfhhiaa
