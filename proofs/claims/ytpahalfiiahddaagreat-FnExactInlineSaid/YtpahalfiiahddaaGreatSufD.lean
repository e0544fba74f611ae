import Derived.Test.YtpahalfiiahddaaGreatSufC
import Derived.Test.YtpahalfiiahddaaGreatGAbsXToAbsZN

namespace RC
open Go Go.Abs
theorem Qz (s:AD):(A4 s).all AV.leaf=true:=by rw[Aw];rfl
end RC

