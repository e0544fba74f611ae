import Derived.Test.YteoiihebkhmgoaaGPlainAToHMF
namespace RC
open Go
end RC

