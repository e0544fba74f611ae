import Derived.Test.YtpahalfiiahddaaGreatSufD
import Derived.Test.YtpahalfiiahddaaGreatGAbsZKToAbsZO
import Derived.Test.YtpahalfiiahddaaGreatGAbsXToSSDefs

namespace RC
open Go Go.Abs
theorem Ap {a:Nat} (s:AK):(Ay a s).all AV.kept=true:=by rw[Bp];rfl
end RC

