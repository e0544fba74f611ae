import Derived.Test.YtihdgoiebmfapaaGreatSufD
import Derived.Test.YtihdgoiebmfapaaGreatGAbsZKToAbsZO
set_option linter.all false
namespace RC
open Go Go.Abs
theorem Fo {a:Nat}(s:AE):(BS a s).all AV.kept=true:=by rw[Cx];rfl
end RC
