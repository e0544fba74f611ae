import Derived.Test.YtihdgoiebmfapaaGreatSufD
import Derived.Test.YtihdgoiebmfapaaGreatGAbsZKToAbsZO
set_option linter.all false
namespace RC
open Go Go.Abs
theorem Fh {a:Nat}(s:AE):(BP a s).all AV.kept=true:=by rw[Cv];rfl
end RC
