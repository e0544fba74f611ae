import Derived.Test.YthapbpfhdnmboaaGEncCToAbsZK

namespace RC
open Go Go.Abs
end RC

