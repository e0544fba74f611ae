import Derived.Test.YtpahalfiiahddaaSufC
import Derived.Test.YtpahalfiiahddaaGAbsXToSSDefs

namespace RC
open Go Go.Abs
theorem C0 (s:AP):(AD s).all AV.leaf=true:=by rw[Ap];rfl
end RC

