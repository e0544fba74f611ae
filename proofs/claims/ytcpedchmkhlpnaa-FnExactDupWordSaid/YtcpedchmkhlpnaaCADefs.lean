import Derived.Test.YtcpedchmkhlpnaaEncD
import Derived.Test.YtcpedchmkhlpnaaHADefs
import Derived.Test.YtcpedchmkhlpnaaHBDefs
namespace RC

end RC
