import Derived.Test.YtgiajkaabnbieaaGreatSufD
import Derived.Test.YtgiajkaabnbieaaGreatGAbsZKToAbsZO
set_option linter.all false
namespace RC
open Go Go.Abs
end RC
