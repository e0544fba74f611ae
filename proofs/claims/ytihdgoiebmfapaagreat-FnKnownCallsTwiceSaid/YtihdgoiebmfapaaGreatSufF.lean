import Derived.Test.YtihdgoiebmfapaaGreatSufD
import Derived.Test.YtihdgoiebmfapaaGreatGAbsZKToAbsZO
set_option linter.all false
namespace RC
open Go Go.Abs
theorem HJ {a:Nat}(s:AG):(BZ a s).all AV.kept=true:=by rw[E4];rfl
end RC
