import Derived.Test.YtpahalfiiahddaaGreatSufD
import Derived.Test.YtpahalfiiahddaaGreatGAbsZKToAbsZO
import Derived.Test.YtpahalfiiahddaaGreatGAbsXToAbsZN
import Derived.Test.YtpahalfiiahddaaGreatGAbsZPToSSDefs

namespace RC
open Go Go.Abs
theorem Lt {a:Nat} (s:AD):(Au a s).all AV.kept=true:=by rw[CX];rfl
end RC

