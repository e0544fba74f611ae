import Derived.Test.YtihdgoiebmfapaaGreatSufC
set_option linter.all false
namespace RC
open Go Go.Abs
theorem GN (s:AD):(Ar s).all AV.leaf=true:=by rw[Af];rfl
end RC
