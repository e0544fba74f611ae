import Derived.Test.YtpahalfiiahddaaGreatSufC
import Derived.Test.YtpahalfiiahddaaGreatGAbsXToSSDefs

namespace RC
open Go Go.Abs
theorem PE (s:AG):(BS s).all AV.leaf=true:=by rw[Ax];rfl
end RC

