import Derived.Test.YtccficmcdkcpnaaGreatSufD
import Derived.Test.YtccficmcdkcpnaaGreatGAbsZKToAbsZO
set_option linter.all false
namespace RC
open Go Go.Abs
end RC
