import Derived.Test.YteoiihebkhmgoaaIVE

namespace RC
open Go
end RC

