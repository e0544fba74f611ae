import Derived.Test.YtcegihniiokijaaGEncCToAbsZB

namespace RC
open Go Go.Abs
end RC

