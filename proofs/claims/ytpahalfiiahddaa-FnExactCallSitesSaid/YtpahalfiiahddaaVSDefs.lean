import Derived.Test.YtpahalfiiahddaaEncF
import Derived.Test.YtpahalfiiahddaaHADefs
import Derived.Test.YtpahalfiiahddaaIADefs
namespace RC
end RC

