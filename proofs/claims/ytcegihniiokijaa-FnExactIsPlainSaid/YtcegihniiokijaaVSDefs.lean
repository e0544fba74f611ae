import Derived.Test.YtcegihniiokijaaEncF
import Derived.Test.YtcegihniiokijaaHADefs
import Derived.Test.YtcegihniiokijaaIADefs
namespace RC
end RC

