import Derived.Test.YtpahalfiiahddaaGEncCToAbsZB

namespace RC
open Go Go.Abs
end RC

