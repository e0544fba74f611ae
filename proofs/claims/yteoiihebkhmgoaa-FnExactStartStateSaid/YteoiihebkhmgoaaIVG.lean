import Derived.Test.YteoiihebkhmgoaaIVF

namespace RC
open Go
end RC

