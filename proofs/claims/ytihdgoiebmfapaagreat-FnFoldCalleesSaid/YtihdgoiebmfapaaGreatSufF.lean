import Derived.Test.YtihdgoiebmfapaaGreatSufD
import Derived.Test.YtihdgoiebmfapaaGreatGAbsZKToAbsZO
namespace RC
open Go Go.Abs
theorem Fo {a:Nat}(s:AE):(BS a s).all AV.kept=true:=by rw[Cx];rfl
end RC
