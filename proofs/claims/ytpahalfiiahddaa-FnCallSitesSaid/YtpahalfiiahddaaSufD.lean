import Derived.Test.YtpahalfiiahddaaSufC
import Derived.Test.YtpahalfiiahddaaGAbsZIToAbsZL

namespace RC
open Go Go.Abs
theorem Cz (s:AP):(AA s).all AV.leaf=true:=by rw[Ao];rfl
end RC

