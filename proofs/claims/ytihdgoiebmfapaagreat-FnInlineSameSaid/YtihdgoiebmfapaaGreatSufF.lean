import Derived.Test.YtihdgoiebmfapaaGreatSufD
import Derived.Test.YtihdgoiebmfapaaGreatGAbsZKToAbsZO
set_option linter.all false
namespace RC
open Go Go.Abs
theorem Yz {a:Nat}(s:AD):(Bv a s).all AV.kept=true:=by rw[Iq];rfl
end RC
