import Derived.Test.YtihdgoiebmfapaaGreatSufC
import Derived.Test.YtihdgoiebmfapaaGreatGAbsXToAbsZN
namespace RC
open Go Go.Abs
theorem Fl (s:AE):(Au s).all AV.leaf=true:=by rw[Ai];rfl
end RC
