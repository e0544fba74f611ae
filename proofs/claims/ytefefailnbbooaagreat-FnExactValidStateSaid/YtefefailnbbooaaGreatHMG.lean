import Derived.Test.YtefefailnbbooaaGreatGPlainAToHMF
namespace RC
open Go
end RC

