import Derived.Test.YtgcghdgbahfcjaaGreatGPlainAToHMF
namespace RC
open Go
end RC

