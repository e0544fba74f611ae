import Derived.Test.YtccficmcdkcpnaaGreatSufC
set_option linter.all false
namespace RC
open Go Go.Abs
theorem J5 (s:Step):(Ba s).all AV.leaf=true:=by rw[CE];rfl
end RC
