import Derived.Test.YtihdgoiebmfapaaGreatSufC
import Derived.Test.YtihdgoiebmfapaaGreatGAbsXToAbsZN
namespace RC
open Go Go.Abs
theorem Fq (s:AE):(Ar s).all AV.leaf=true:=by rw[Ah];rfl
end RC
