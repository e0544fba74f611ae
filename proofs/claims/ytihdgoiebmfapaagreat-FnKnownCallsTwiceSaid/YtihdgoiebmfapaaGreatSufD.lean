import Derived.Test.YtihdgoiebmfapaaGreatSufC
namespace RC
open Go Go.Abs
theorem Er (s:AG):(Az s).all AV.leaf=true:=by rw[Al];rfl
end RC
