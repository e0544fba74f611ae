import Derived.Test.YtihdgoiebmfapaaGreatSufC
set_option linter.all false
namespace RC
open Go Go.Abs
theorem Fu (s:AE):(Ar s).all AV.leaf=true:=by rw[Ai];rfl
end RC
