import Derived.Test.YtpahalfiiahddaaGPlainAToXMF

namespace RC
open Go
end RC

