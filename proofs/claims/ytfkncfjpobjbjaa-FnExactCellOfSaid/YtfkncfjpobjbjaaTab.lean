/- Closed facts of the program: who calls whom,its head's words. -/
import Derived.Test.YtfkncfjpobjbjaaRows
import Derived.Test.YtfkncfjpobjbjaaAbsS
import Derived.ProofKit
set_option linter.all false
namespace Go.Proofs.Ytfkncfjpobjbjaa
open Go Go.Abs
set_option maxRecDepth 100000
abbrev cq (n:Nat):Char:=Char.ofNat n
theorem Mr:Try.prog.funcs.toList.map Try.prog.leadsTo=[[],[],[1],[5,7,6,7,8,7,9],[5,7,10,7,11,7,9],[12,12],[13],[14,14],[15],[16,16],[13,17,18,19],[15,20],[],[18,21,23,22,25,24],[],[26,27,28,29,20,31,30],[],[18,32,33],[34,34],[],[],[34,35],[36,37,38],[],[33,33],[34],[],[39,40],[],[],[41],[42],[],[],[],[32,19],[43,44,45,43],[46],[47],[48],[],[49,50,26,50],[],[],[],[43,46],[43,32],[32],[],[51],[],[50,29],[],[],[],[],[],[],[],[],[],[],[],[],[],[],[],[],[]]:=by kernel_rfl
theorem MK:Try.prog.initOrder=String.ofList [cq 104,cq 97,cq 114,cq 110,cq 101,cq 115,cq 115,cq 32,cq 101,cq 101,cq 100,cq 53,cq 49,cq 53,cq 48,cq 101,cq 101,cq 100,cq 98,cq 102,cq 48,cq 56,cq 55,cq 52,cq 97,cq 51,cq 48,cq 97,cq 54,cq 56,cq 54,cq 98,cq 101,cq 97,cq 48,cq 53,cq 49,cq 48,cq 49,cq 98,cq 51,cq 102,cq 101,cq 56,cq 56,cq 57,cq 54,cq 51,cq 102,cq 102,cq 57,cq 50,cq 53,cq 53,cq 56,cq 49,cq 48,cq 98,cq 101,cq 97,cq 102,cq 48,cq 55,cq 101,cq 55,cq 48,cq 100,cq 100,cq 55,cq 55,cq 99,cq 55,cq 32,cq 99,cq 117,cq 116,cq 32,cq 97,cq 116,cq 32,cq 108,cq 111,cq 111,cq 112,cq 46,cq 101,cq 120,cq 97,cq 109,cq 112,cq 108,cq 101,cq 47,cq 114,cq 101,cq 102,cq 99,cq 111,cq 117,cq 110,cq 116,cq 109,cq 108,cq 47,cq 108,cq 97,cq 119,cq 115,cq 46,cq 70,cq 110,cq 69,cq 120,cq 97,cq 99,cq 116,cq 86,cq 97,cq 108,cq 105,cq 100,cq 77,cq 101,cq 109,cq 111,cq 114,cq 121,cq 32,cq 108,cq 111,cq 111,cq 112,cq 46,cq 101,cq 120,cq 97,cq 109,cq 112,cq 108,cq 101,cq 47,cq 114,cq 101,cq 102,cq 99,cq 111,cq 117,cq 110,cq 116,cq 109,cq 108,cq 47,cq 108,cq 97,cq 119,cq 115,cq 46,cq 70,cq 110,cq 69,cq 120,cq 97,cq 99,cq 116,cq 67,cq 101,cq 108,cq 108,cq 79,cq 102]:=by kernel_rfl
theorem Gi:behindMainWord (wordsSigns Try.prog.initOrder.toList)=FK::[[cq 97,cq 116],[cq 108,cq 111,cq 111,cq 112,cq 46,cq 101,cq 120,cq 97,cq 109,cq 112,cq 108,cq 101,cq 47,cq 114,cq 101,cq 102,cq 99,cq 111,cq 117,cq 110,cq 116,cq 109,cq 108,cq 47,cq 108,cq 97,cq 119,cq 115,cq 46,cq 70,cq 110,cq 69,cq 120,cq 97,cq 99,cq 116,cq 86,cq 97,cq 108,cq 105,cq 100,cq 77,cq 101,cq 109,cq 111,cq 114,cq 121],[cq 108,cq 111,cq 111,cq 112,cq 46,cq 101,cq 120,cq 97,cq 109,cq 112,cq 108,cq 101,cq 47,cq 114,cq 101,cq 102,cq 99,cq 111,cq 117,cq 110,cq 116,cq 109,cq 108,cq 47,cq 108,cq 97,cq 119,cq 115,cq 46,cq 70,cq 110,cq 69,cq 120,cq 97,cq 99,cq 116,cq 67,cq 101,cq 108,cq 108,cq 79,cq 102]]:=by rw[MK,String.toList_ofList];kernel_rfl
theorem NG:Try.prog.mayEnter=true:=LN Gi (by kernel_rfl) (by kernel_rfl) (by kernel_rfl)
theorem LS:Try.prog.liftsFinal=false:=JP Gi
theorem OX:Try.prog.make=some .cut:=PB Gi
theorem OS:ownKnob Try.prog.godebug=none:=by kernel_rfl
theorem Ke:laidOutB Try.prog=true:=by kernel_rfl
end Go.Proofs.Ytfkncfjpobjbjaa
