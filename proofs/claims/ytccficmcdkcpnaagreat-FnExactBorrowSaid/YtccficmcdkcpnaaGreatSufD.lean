import Derived.Test.YtccficmcdkcpnaaGreatSufC
set_option linter.all false
namespace RC
open Go Go.Abs
end RC
