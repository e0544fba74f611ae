import Derived.Test.YtihdgoiebmfapaaGreatSufC
namespace RC
open Go Go.Abs
theorem Fy (s:AE):(Ar s).all AV.leaf=true:=by rw[Ah];rfl
end RC
