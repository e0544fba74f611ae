import Derived.Test.YtcpedchmkhlpnaaGEncCToEncD
import Derived.Test.YtcpedchmkhlpnaaHADefs
import Derived.Test.YtcpedchmkhlpnaaHBDefs
namespace RC

end RC
