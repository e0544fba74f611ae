import Derived.Test.YtgcghdgbahfcjaaGEncCToEncG
import Derived.Test.YtgcghdgbahfcjaaHADefs
import Derived.Test.YtgcghdgbahfcjaaIADefs
namespace RC
end RC

