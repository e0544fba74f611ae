import Derived.Test.YtccficmcdkcpnaaGreatSufC
set_option linter.all false
namespace RC
open Go Go.Abs
theorem HA (s:AG):(BI s).all AV.leaf=true:=by rw[Aj];rfl
theorem Kl (s:Step):(C8 s).all AV.leaf=true:=by rw[Gn];rfl
end RC
