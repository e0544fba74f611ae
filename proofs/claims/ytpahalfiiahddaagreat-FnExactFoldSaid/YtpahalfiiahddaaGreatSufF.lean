import Derived.Test.YtpahalfiiahddaaGreatSufD
import Derived.Test.YtpahalfiiahddaaGreatGAbsZKToAbsZO
import Derived.Test.YtpahalfiiahddaaGreatGAbsXToSSDefs

namespace RC
open Go Go.Abs
theorem C7 {a:Nat} (s:AG):(Av a s).all AV.kept=true:=by rw[BV];rfl
end RC

