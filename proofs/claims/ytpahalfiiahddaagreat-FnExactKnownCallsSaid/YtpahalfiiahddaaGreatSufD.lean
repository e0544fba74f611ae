import Derived.Test.YtpahalfiiahddaaGreatSufC
import Derived.Test.YtpahalfiiahddaaGreatGAbsXToSSDefs

namespace RC
open Go Go.Abs
theorem Jc (s:AK):(Bk s).all AV.leaf=true:=by rw[A4];rfl
end RC

