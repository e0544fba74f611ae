import Derived.Test.YtgiajkaabnbieaaGreatSufC
set_option linter.all false
namespace RC
open Go Go.Abs
theorem Gt (s:Step):(Bx s).all AV.leaf=true:=by rw[CK];rfl
end RC
