/- Closed facts of the program: who calls whom,its head's words. -/
import Derived.Test.YtgiajkaabnbieaaGreatRows
import Derived.Test.YtgiajkaabnbieaaGreatAbsS
import Derived.ProofKit
set_option linter.all false
namespace Go.Proofs.YtgiajkaabnbieaaGreat
open Go Go.Abs
set_option maxRecDepth 100000
abbrev cq (n:Nat):Char:=Char.ofNat n
theorem bG:Tryz.prog.funcs.toList.map Tryz.prog.leadsTo=[[],[],[1],[4,6,5,6,7,8,6,8,9,8,9,10,6,7,8,10],[11,12],[13,15,14],[16,17],[18,19,21,20,25],[26,27],[28,29],[30,31],[32],[33],[34,35],[36],[37,40,39,38],[41],[42],[43,44],[45],[46,47,47],[22,23,24],[48],[49,51,50],[47,52,53,54,55,56,57,23,53,53],[58],[59],[60],[61],[62,62,63],[64],[65,65,66],[67],[68,68,69],[70,36,71],[72,35],[73],[74],[74,74],[74,74,75,77,76,78,79,76],[80],[81],[82,82,83],[19,58,84],[86,85],[88,89,90],[91,92,47],[],[],[93,94,94],[95,96],[],[97,22,23],[],[98,99],[23,53,100,24,101],[47],[87,102,103,54,103,104],[105],[106],[107,107,108],[62],[],[62,109],[65],[],[65,110],[111],[],[112],[114,113,115],[74,75,116,117],[117],[73],[],[118,119,117,120,120,121,122,120,121,120,123,120,123,124,117,125,120,126],[79],[127],[128,122,129,130,39,76,74],[],[],[131],[],[132],[47,57,87],[85],[87],[],[90,90,89],[90],[],[],[],[133,133],[],[],[134],[],[135],[136],[137],[138],[],[100,84],[102,136,139,139,140,139,139],[105],[141],[],[142],[63],[66],[68],[143],[144,117,145,117],[],[117],[117],[],[],[117],[117],[146,117],[121,146],[128,122,130,71],[117,120,120,147],[117],[117,125],[148,149],[117,146],[],[74],[82],[150],[],[151,151,151],[],[],[],[],[],[],[107],[152],[68,153],[154],[117],[],[],[],[80],[82,155],[],[107,156],[69],[145,117,117],[83],[108],[],[],[],[],[],[],[],[],[],[],[],[],[],[],[],[],[],[]]:=by kernel_rfl
theorem ZC:Tryz.prog.initOrder=String.ofList [cq 104,cq 97,cq 114,cq 110,cq 101,cq 115,cq 115,cq 32,cq 51,cq 97,cq 51,cq 100,cq 51,cq 101,cq 57,cq 56,cq 55,cq 48,cq 49,cq 100,cq 51,cq 57,cq 97,cq 99,cq 56,cq 56,cq 54,cq 50,cq 51,cq 55,cq 97,cq 53,cq 51,cq 48,cq 102,cq 102,cq 53,cq 52,cq 56,cq 102,cq 54,cq 48,cq 98,cq 57,cq 55,cq 51,cq 52,cq 56,cq 102,cq 48,cq 50,cq 98,cq 97,cq 57,cq 53,cq 100,cq 100,cq 98,cq 57,cq 55,cq 101,cq 57,cq 97,cq 53,cq 55,cq 51,cq 52,cq 55,cq 99,cq 51,cq 101,cq 55,cq 32,cq 99,cq 117,cq 116,cq 32,cq 97,cq 116,cq 32,cq 108,cq 111,cq 111,cq 112,cq 46,cq 101,cq 120,cq 97,cq 109,cq 112,cq 108,cq 101,cq 47,cq 114,cq 101,cq 102,cq 99,cq 111,cq 117,cq 110,cq 116,cq 109,cq 108,cq 47,cq 108,cq 97,cq 119,cq 115,cq 46,cq 70,cq 110,cq 69,cq 120,cq 97,cq 99,cq 116,cq 67,cq 111,cq 117,cq 110,cq 116,cq 76,cq 97,cq 116,cq 101]:=by kernel_rfl
theorem Pv:behindMainWord (wordsSigns Tryz.prog.initOrder.toList)=Oc::[[cq 97,cq 116],[cq 108,cq 111,cq 111,cq 112,cq 46,cq 101,cq 120,cq 97,cq 109,cq 112,cq 108,cq 101,cq 47,cq 114,cq 101,cq 102,cq 99,cq 111,cq 117,cq 110,cq 116,cq 109,cq 108,cq 47,cq 108,cq 97,cq 119,cq 115,cq 46,cq 70,cq 110,cq 69,cq 120,cq 97,cq 99,cq 116,cq 67,cq 111,cq 117,cq 110,cq 116,cq 76,cq 97,cq 116,cq 101]]:=by rw[ZC,String.toList_ofList];kernel_rfl
theorem bu:Tryz.prog.mayEnter=true:=YB Pv (by kernel_rfl) (by kernel_rfl) (by kernel_rfl)
theorem YW:Tryz.prog.liftsFinal=false:=Wh Pv
theorem dw:Tryz.prog.make=some .cut:=fO Pv
theorem dI:ownKnob Tryz.prog.godebug=none:=by kernel_rfl
theorem eD:laidOutB Tryz.prog=true:=by kernel_rfl
end Go.Proofs.YtgiajkaabnbieaaGreat
