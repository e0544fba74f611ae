import Derived.Test.YtihdgoiebmfapaaGreatSufD
import Derived.Test.YtihdgoiebmfapaaGreatGAbsZKToAbsZO
namespace RC
open Go Go.Abs
theorem HK {a:Nat}(s:AG):(BZ a s).all AV.kept=true:=by rw[E0];rfl
end RC
