import Derived.Test.YtihdgoiebmfapaaGreatSufC
set_option linter.all false
namespace RC
open Go Go.Abs
theorem En (s:AG):(Az s).all AV.leaf=true:=by rw[Al];rfl
end RC
