import Derived.Test.YtgiajkaabnbieaaGreatAbsZR
import Derived.Test.YtgiajkaabnbieaaGreatCFWalk
import Derived.Test.YtgiajkaabnbieaaGreatCGX
import Derived.Test.YtgiajkaabnbieaaGreatINX
set_option linter.all false
namespace Go.Proofs.YtgiajkaabnbieaaGreat
noncomputable section
open Go Go.Abs RC
attribute [local irreducible] Go.Abs.Di
set_option maxRecDepth 100000
theorem La:([4,5,6,7,8,9,10,11,12,13,14,15,16,17,18,19,20,21,22,23,24,25,26,27,28,29,30,31,32,33,34,35,36,37,38,39,40,41,42,43,44,45,46,47,48,49,50,51,52,53,54,55,56,57,58,59,60,61,62,63,64,65,66,67,68,69,70,71,72,73,74,75,76,77,78,79,80,81,82,83,84,85,86,87,88,89,90,93,94,97,98,99,100,101,102,103,104,105,106,107,108,109,110,111,112,113,114,115,116,117,118,119,120,121,122,123,124,125,126,127,128,129,130,131,132,133,135,136,137,139,140,141,142,143,144,145,146,147,148,149,150,152,153,154,155,156].all λn=>Er Tryz.prog n)=true:=by kernel_rfl
theorem hb (n:Nat)(h:[4,5,6,7,8,9,10,11,12,13,14,15,16,17,18,19,20,21,22,23,24,25,26,27,28,29,30,31,32,33,34,35,36,37,38,39,40,41,42,43,44,45,46,47,48,49,50,51,52,53,54,55,56,57,58,59,60,61,62,63,64,65,66,67,68,69,70,71,72,73,74,75,76,77,78,79,80,81,82,83,84,85,86,87,88,89,90,93,94,97,98,99,100,101,102,103,104,105,106,107,108,109,110,111,112,113,114,115,116,117,118,119,120,121,122,123,124,125,126,127,128,129,130,131,132,133,135,136,137,139,140,141,142,143,144,145,146,147,148,149,150,152,153,154,155,156].contains n=true:=by decide):Er Tryz.prog n=true:=mL.1 La n (List.contains_iff_mem.1 h)
abbrev Kc (z0:List Ac)(z1:List Ad):Go.Abs.Row:=⟨0,30,2,[[ls Am z0,ls Aj z1]]⟩
abbrev Vd (z0 z1 z2:Int)(z3:List Int)(z4:List Block):Go.Abs.Row:=⟨0,97,5,[[i64 z0,i64 z1,i64 z2,ls eI z3,ls Bq z4]]⟩
abbrev Zg:Go.Abs.Row:=⟨0,97,5,[[i64 0,i64 0,i64 0,.zc,.zc]]⟩
abbrev fT (z0:List Step)(z1:Int):Go.Abs.Row:=⟨0,52,2,[[ls Bx z0,i64 z1]]⟩
abbrev ZL:Go.Abs.Row:=⟨0,52,2,[[.zc,i64 0]]⟩
abbrev Pc (z0:Int):Go.Abs.Row:=⟨0,3,1,[[i64 z0]]⟩
abbrev U7:Go.Abs.Row:=⟨0,30,2,[[.zc,.zc]]⟩
abbrev jx:Go.Abs.Row:=⟨0,83,3,[[i64 0,i64 0,.zc]]⟩
abbrev br (z0 z1 z2:Int)(z3:List Int)(z4:List Block):Go.Abs.Row:=⟨0,97,5,[[i64 z0,i64 z1,i64 z2,ls eI z3,ls Bq z4]]⟩
abbrev Lc:Go.Abs.Row:=⟨0,52,2,[[.zc,i64 0]]⟩
abbrev Mr (z0:Bool):Go.Abs.Row:=⟨0,4,1,[[.bool z0]]⟩
abbrev ba (z0:List Step)(z1:Int):Go.Abs.Row:=⟨0,52,2,[[ls Bx z0,i64 z1]]⟩
abbrev V0:Go.Abs.Row:=⟨0,83,3,[[i64 0,i64 0,.zc]]⟩
abbrev I7 (z0:List Ac)(z1:List Bg):Go.Abs.Row:=⟨0,45,2,[[ls Am z0,ls Dd z1]]⟩
abbrev L7:Go.Abs.Row:=⟨0,52,2,[[.zc,i64 0]]⟩
abbrev gl (z0 z1 z2:Int)(z3:List Int)(z4:List Block):Go.Abs.Row:=⟨0,97,5,[[i64 z0,i64 z1,i64 z2,ls eI z3,ls Bq z4]]⟩
abbrev Tu:Go.Abs.Row:=⟨0,30,2,[[.zc,.zc]]⟩
abbrev lA (z0 z1:List Int)(z2:Int)(z3:List Step)(z4:Int):Go.Abs.Row:=⟨0,54,5,[[ls eI z0,ls eI z1,i64 z2,ls Bx z3,i64 z4]]⟩
abbrev gi (z0:List Ac)(z1:List Ad):Go.Abs.Row:=⟨0,30,2,[[ls Am z0,ls Aj z1]]⟩
abbrev ew:Go.Abs.Row:=⟨0,83,3,[[i64 0,i64 0,.zc]]⟩
abbrev Zu (z0:List Ac)(z1:List Ad):Go.Abs.Row:=⟨0,25,2,[[ls Am z0,ls Aj z1]]⟩
abbrev eE (z0:List Ac)(z1:List Ad):Go.Abs.Row:=⟨0,30,2,[[ls Am z0,ls Aj z1]]⟩
abbrev jJ (z0:Step):=([i64 z0.op,i64 z0.num,i64 z0.BB,ls eI z0.args,ls Bq z0.kids]:List AV)
abbrev an (z0:Block):=([ls Bx z0.steps,i64 z0.result]:List AV)
abbrev jA (z0:AT):=([ls Am z0.decls,ls Aj z0.AH]:List AV)
abbrev Bm:=((.ptr 0 0 0 0):AV)
abbrev BQ (z0:_):=((ro 0 3 1 eI z0):Row)
abbrev Dh:=((.ptr 1 0 0 0):AV)
abbrev ZZ (z0:Ad):=([ls eI z0.params,ls eI z0.Ar,i64 z0.result,ls Bx z0.body.steps,i64 z0.body.result]:List AV)
abbrev HN (z0:_):=((ro 0 97 5 (Bu 3 52 97) z0):Row)
abbrev HJ (z0:_):=((ro 0 83 3 (Az 116 3) z0):Row)
abbrev Lg (z0:_):=((ro 0 54 5 (At 3 3 3 52 97) z0):Row)
abbrev HL (z0:Block):=((ro 0 97 5 (Bu 3 52 97) z0.steps):Row)
abbrev ZX {α0:Type}(z0:List α0)(z1:_):=(⟨0,52,2,[[ow 3 0 z0,i64 z1]]⟩:Row)
abbrev G6:=((.ptr 2 0 0 0):AV)
abbrev Nc (z0:_):=(⟨0,45,2,[Bp z0]⟩:Row)
abbrev IQ (z0:_):=((ro 0 52 2 (Co 3 52 97) z0):Row)
abbrev Lj (z0:_):=((.Bt (jJ z0) 0):AV)
abbrev Oq (z0:AT):=((ro 0 54 5 (At 3 3 3 52 97) z0.AH):Row)
abbrev Eu {α0:Type}(z0:List α0):=((i64 (Sh.len z0)):AV)
abbrev gJ (z0:_):=((.Bt (Bp z0) 0):AV)
abbrev LQ (z0 z1:_):=((.DX [.agg (Am z0),.bool z1]):AV)
abbrev DH (z0:_):=((.agg (an z0)):AV)
abbrev Vy {α0:Type}(z0:List α0)(z1:_):=(⟨0,52,2,[[ow 2 0 z0,i64 z1]]⟩:Row)
abbrev Wz (z0:Step):=([i64 z0.op,i64 z0.num,i64 z0.BB,ow 3 0 z0.args,ow 4 0 z0.kids]:List AV)
abbrev fZ {α0:Type}(z0:List α0){α1:Type}(z1:List α1):=(⟨0,30,2,[[ow 3 0 z0,ow 4 0 z1]]⟩:Row)
abbrev lG (z0:Step):=((ro 0 52 2 (Co 3 52 97) z0.kids):Row)
abbrev EG (z0:_):=((ls Am z0):AV)
abbrev Ri (z0:_):=(⟨0,54,5,List.map (At 3 3 3 52 97) z0⟩:Row)
abbrev PH (z0:Block):=((.agg [ow 0 0 z0.steps,i64 z0.result]):AV)
abbrev NS (z0:_):=((.agg (Bp z0)):AV)
abbrev QY (z0:_):=(⟨0,83,3,List.map (Az 116 3) z0⟩:Row)
abbrev VV:=((.sl (List.map Am [])):AV)
abbrev dq (z0:Block):=((i64 (Sh.len z0.steps)):AV)
abbrev fI (z0:Step):=([i64 z0.op,i64 z0.num,i64 z0.BB,ow 4 0 z0.args,ow 5 0 z0.kids]:List AV)
abbrev TV (z0:Block):=((ls Bx z0.steps):AV)
abbrev Q4 (z0:Step):=((ro 0 3 1 eI z0.args):Row)
abbrev Z1 (z0:Step):=([i64 z0.op,i64 z0.num,i64 z0.BB,ow 0 0 z0.args,ow 1 0 z0.kids]:List AV)
abbrev eY:=([.own 0 0 (List.length ([]:List Ac)),.own 1 0 (List.length ([]:List Ad))]:List AV)
abbrev T1 (z0:_):=((.Bt (an z0) 0):AV)
abbrev jE (z0:_):=((ro 0 52 2 Bq z0):Row)
abbrev G2 (z0:_):=((.agg (jA z0)):AV)
abbrev lH (z0:Ad):=((.agg [ls Bx z0.body.steps,i64 z0.body.result]):AV)
abbrev PE (z0:_):=((ro 0 97 5 Bx z0):Row)
abbrev fe (z0:_):=((.Bt (jA z0) 0):AV)
abbrev ft (z0:AT):=((ls Aj z0.AH):AV)
abbrev gU (z0:AT):=((i64 (Sh.len z0.AH)):AV)
abbrev gN (z0:Step):=([i64 z0.op,i64 z0.num,i64 z0.BB,ow 5 0 z0.args,ow 6 0 z0.kids]:List AV)
abbrev Qx (z0:_):=(⟨0,3,1,List.map eI z0⟩:Row)
abbrev MO (z0:_):=((i64 (Sh.w (z0+1))):AV)
abbrev XA:=([VV,.sl (List.map Aj [])]:List AV)
abbrev Z2:=((ro 0 83 3 (Az 116 3) ([]:List Ac)):Row)
abbrev Jq (z0:_):=((.Bt (eI z0) 0):AV)
abbrev du:=((ro 0 54 5 (At 3 3 3 52 97) ([]:List Ad)):Row)
abbrev Sm (z0:Step):=((i64 (Sh.len z0.kids)):AV)
abbrev aR:=((.own 0 0 (List.length ([]:List Int))):AV)
abbrev iP (z0:Ad):=([ow 0 0 z0.params,ow 1 0 z0.Ar,i64 z0.result,ow 2 0 z0.body.steps,i64 z0.body.result]:List AV)
abbrev T3 (z0:_):=(⟨0,83,3,[Am z0]⟩:Row)
abbrev gw (z0:Step):=([i64 z0.op,i64 z0.num,i64 z0.BB,ow 6 0 z0.args,ow 7 0 z0.kids]:List AV)
abbrev TP (z0:_):=((.ptr 0 0 (Int.toNat z0) 0):AV)
abbrev ig (z0:Step):=([i64 z0.op,i64 z0.num,i64 z0.BB,ow 2 0 z0.args,ow 3 0 z0.kids]:List AV)
abbrev Yw (z0:Block):=([ow 1 0 z0.steps,i64 z0.result]:List AV)
abbrev Mb (z0:_):=((.agg (jJ z0)):AV)
abbrev Fs (z0:_):=((ls eI z0):AV)
abbrev Qv (z0:_):=((ro 0 49 1 (eS eI) z0):Row)
abbrev ZQ (z0:Block):=([ow 7 0 z0.steps,i64 z0.result]:List AV)
abbrev O8 {α0:Type}(z0:List α0)(z1:_):=([ow 0 0 z0,i64 z1]:List AV)
abbrev bz (z0:AT):=([ow 0 0 z0.decls,ow 1 0 z0.AH]:List AV)
abbrev OJ (z0:_):=((.agg (Am z0)):AV)
abbrev Up (z0 z1:_):=([L7,Vy z0 z1,HN z0]:List Row)
abbrev ga {α0:Type}(z0:List α0){α1:Type}(z1:List α1)(z2:_)(z3:Block):=([ow 5 0 z0,ow 6 0 z1,i64 z2,ow 7 0 z3.steps,i64 z3.result]:List AV)
abbrev Uj (z0 z1:_):=((.DX [i64 z0,.bool z1]):AV)
abbrev gy (z0:Step){α1:Type}(z1:List α1):=([i64 z0.op,i64 z0.num,i64 z0.BB,ow 5 0 z0.args,ow 6 0 z1]:List AV)
abbrev Rx (z0 z1:_):=([ls Bx z0,i64 z1]:List AV)
abbrev dO (z0:_):=(⟨0,97,5,List.map (Bu 3 52 97) z0⟩:Row)
abbrev ez (z0:_)(z1:Step)(z2:_):=([Nc z0,br z1.op z1.num z1.BB z1.args z1.kids,BQ z2]:List Row)
abbrev fg (z0:_)(z1:Step)(z2:_):=([Nc z0,gl z1.op z1.num z1.BB z1.args z1.kids,BQ z2]:List Row)
abbrev iN (z0 z1 z2:_):=([L7,Vy z0 z1,HN z0,⟨0,97,5,[fI z2]⟩,Q4 z2,lG z2]:List Row)
abbrev Sk (z0:_):=((.Bt (Am z0) 0):AV)
abbrev Yr:=((.sl (List.map eI [])):AV)
abbrev iD (z0:Step){α1:Type}(z1:List α1):=([i64 z0.op,i64 z0.num,i64 z0.BB,ow 1 0 z0.args,ow 0 0 z1]:List AV)
abbrev XH:=([⟨1,3,1,[]⟩]:List Row)
abbrev ef:=([VV,.sl (List.map Dd [])]:List AV)
abbrev Qr (z0:_):=((ro 0 3 1 eI [z0]):Row)
abbrev Wq (z0 z1:_):=([EG z0,ls Aj z1]:List AV)
abbrev iI:=((.own 3 0 (List.length ([]:List Ad))):AV)
abbrev jK:=([i64 0,i64 0,.sl (List.map Bv [])]:List AV)
abbrev Ue:=((.ptr 3 0 0 0):AV)
abbrev iJ:=((.own 2 0 (List.length ([]:List Block))):AV)
abbrev dK:=((.ptr 2 0 (Int.toNat 0) 0):AV)
abbrev iR {α0:Type}(z0:List α0){α1:Type}(z1:List α1)(z2:_)(z3:Block):=([ow 6 0 z0,ow 7 0 z1,i64 z2,ow 8 0 z3.steps,i64 z3.result]:List AV)
abbrev fN (z0:AT):=([ow 1 0 z0.decls,ow 2 0 z0.AH]:List AV)
abbrev ZN (z0:_):=((ro 0 116 1 (Cv 3) z0):Row)
abbrev ko (z0 z1:_):=([HJ z0,Lg z1,⟨0,30,2,[[ow 0 0 z0,ow 1 0 z1]]⟩]:List Row)
abbrev gv (z0:Step)(z1 z2:_):=([i64 z0.op,i64 z0.num,i64 0,ls eI z1,ls Bq z2]:List AV)
abbrev Z8 (z0 z1 z2:_):=([BQ z0,Zg,jE z1,BQ z2]:List Row)
abbrev gF (z0:Step):=((ls Bq z0.kids):AV)
abbrev kT (z0:Step){α1:Type}(z1:List α1):=([i64 z0.op,i64 z0.num,i64 z0.BB,ow 4 0 z0.args,ow 5 0 z1]:List AV)
abbrev fJ:=(⟨0,152,2,[[.zc,.zc]]⟩:Row)
abbrev gk {α0:Type}(z0:List α0){α1:Type}(z1:List α1):=(⟨0,30,2,[[ow 2 0 z0,ow 4 0 z1]]⟩:Row)
abbrev Wc (z0:_):=((.agg (ZZ z0)):AV)
abbrev kM (z0:Block):=([HL z0,⟨0,52,2,[[ow 0 0 z0.steps,i64 z0.result]]⟩]:List Row)
abbrev iG (z0:Ac):=([i64 z0.from_,i64 z0.to,ow 0 0 z0.cons]:List AV)
abbrev Q2 (z0:Step):=((ls eI z0.args):AV)
abbrev ku (z0 z1:_):=([i64 z0,i64 0,i64 0,ls eI [z1],.sl (List.map Bq [])]:List AV)
abbrev bW:=(⟨1,83,3,[]⟩:Row)
abbrev kW (z0:AT):=(⟨0,30,2,[[ow 3 0 z0.decls,ow 4 0 z0.AH]]⟩:Row)
abbrev lp (z0:AT):=(⟨0,30,2,[[ow 2 0 z0.decls,ow 3 0 z0.AH]]⟩:Row)
abbrev kJ:=((ro 0 52 2 (Co 3 52 97) ([]:List Block)):Row)
abbrev gn (z0:Ad):=((ro 0 97 5 (Bu 3 52 97) z0.body.steps):Row)
abbrev eF (z0 z1 z2 z3:_):=([BQ z0,Zg,jE z1,BQ z2,PE z3]:List Row)
abbrev Zk (z0:Ac):=((i64 (Sh.len z0.cons)):AV)
abbrev eQ (z0 z1 z2 z3:_):=([NS z0,DH z1,ls eI z2,ls eI z3]:List AV)
abbrev TY (z0 z1:_):=([EG z0,i64 z1]:List AV)
abbrev jL:=((ro 0 3 1 eI ([]:List Int)):Row)
abbrev jq:=((.own 1 0 (List.length ([]:List Block))):AV)
abbrev kt:=((.own 2 0 (List.length ([]:List Ac))):AV)
abbrev kE:=((.own 6 0 (List.length ([]:List Ac))):AV)
abbrev dd:=((.ptr 4 0 0 0):AV)
abbrev gK (z0:_):=((ro 1 97 5 (Bu 3 52 97) z0):Row)
abbrev da:=(⟨1,52,2,[]⟩:Row)
abbrev dV:=(⟨1,97,5,[]⟩:Row)
abbrev lx:=(⟨2,97,5,[]⟩:Row)
abbrev ka:=((.own 1 0 (List.length ([]:List Int))):AV)
abbrev YU (z0:_):=((ls Dd z0):AV)
abbrev iS (z0:Block):=([ow 3 0 z0.steps,i64 z0.result]:List AV)
abbrev jB (z0:Block):=([ow 6 0 z0.steps,i64 z0.result]:List AV)
abbrev aq (z0:Step):=((i64 (Sh.len z0.args)):AV)
abbrev kN (z0:Step){α1:Type}(z1:List α1){α2:Type}(z2:List α2):=([i64 z0.op,i64 z0.num,i64 z0.BB,ow 0 0 z1,ow 1 0 z2]:List AV)
abbrev ax (z0 z1 z2:_):=([G2 z0,ls eI z1,Mb z2]:List AV)
abbrev dN {α0:Type}(z0:List α0)(z1:_):=((.agg [ow 2 1 z0,i64 z1]):AV)
abbrev jf (z0:Step){α1:Type}(z1:List α1){α2:Type}(z2:List α2):=([i64 z0.op,i64 z0.num,i64 z0.BB,ow 1 0 z1,ow 0 0 z2]:List AV)
abbrev bF (z0:_):=((ro 0 83 3 Am z0):Row)
set_option maxHeartbeats 4000000
def tb:LM Tryz.prog where
 t:=[(116,true,1),(147,true,1),(150,false,1),(152,true,2),(171,false,1),(173,true,5),(178,true,5),(22,false,1),(23,false,1),(25,true,2),(27,false,1),(28,false,1),(3,false,1),(30,true,2),(4,false,1),(43,false,1),(45,true,2),(49,false,1),(50,false,1),(52,true,2),(54,true,5),(66,false,1),(68,true,3),(70,false,1),(72,true,2),(74,true,5),(81,false,1),(83,true,3),(87,true,3),(95,false,1),(97,true,5)]
 f:=[(116,0,0),(147,0,0),(152,0,0),(152,1,1),(173,0,0),(173,1,1),(173,2,2),(173,3,3),(173,4,4),(178,0,0),(178,1,1),(25,0,0),(25,1,1),(30,0,0),(30,1,1),(45,0,0),(45,1,1),(52,0,0),(52,1,1),(54,0,0),(54,1,1),(54,2,2),(54,3,3),(68,0,0),(68,1,1),(68,2,2),(72,0,0),(72,1,1),(74,0,0),(74,1,1),(74,2,2),(74,3,3),(83,0,0),(83,1,1),(83,2,2),(87,0,0),(87,1,1),(87,2,2),(97,0,0),(97,1,1),(97,2,2),(97,3,3),(97,4,4)]
 v:=[]
 b:=[4]
 s:=[101,150,171,22,23,27,28,43,49,50,55,66,70,81,95]
 ht:=by kernel_rfl
 hf:=by kernel_rfl
 hv:=by kernel_rfl
 hb:=by kernel_rfl
 hs:=by kernel_rfl
abbrev YO (z0 z1 z2:Int)(z3:List Int)(z4:List Block):Go.Abs.Row:=⟨0,97,5,[[i64 z0,i64 z1,i64 z2,ls eI z3,ls Bq z4]]⟩
abbrev Rb (z0:List Ac)(z1:List Ad):Go.Abs.Row:=⟨0,30,2,[[ls Am z0,ls Aj z1]]⟩
abbrev kG (z0 z1:List Int)(z2:Int)(z3:List Step)(z4:Int):Go.Abs.Row:=⟨0,54,5,[[ls eI z0,ls eI z1,i64 z2,ls Bx z3,i64 z4]]⟩
abbrev Vw (z0:List Step)(z1:Int):Go.Abs.Row:=⟨0,52,2,[[ls Bx z0,i64 z1]]⟩
abbrev iL (z0:List Ac)(z1:List IK):Go.Abs.Row:=⟨0,152,2,[[ls Am z0,ls Il z1]]⟩
abbrev kR:Go.Abs.Row:=⟨0,83,3,[[i64 0,i64 0,.zc]]⟩
abbrev Kb {α0:Type}(z0:List α0)(z1 z2:_){α3:Type}(z3:List α3){α4:Type}(z4:List α4)(z5:_)(r:List (Nat×AV)):=(1,ow 0 0 z0)::(3,fe z1)::(5,Lj z2)::(6,Dh)::(7,ow 2 0 z3)::(8,ow 3 0 z4)::(9,i64 z5)::r
abbrev Kd (z0 z1 z2:_){α3:Type}(z3:List α3)(z4:_)(r:List (Nat×AV)):=(3,Fs z0)::(4,gJ z1)::(5,T1 z2)::(8,Bm)::(9,ow 1 0 z3)::(10,G6)::(12,Lj z4)::r
abbrev Gc (z0:_)(r:List (Nat×AV)):=(1,ls eI z0)::(3,Bm)::(5,Dh)::r
abbrev SH (z0:AT)(z1:_)(r:List (Nat×AV)):=(1,.fn 21 [Bm])::(4,Dh)::(5,G6)::(13,ft z0)::(14,gU z0)::(15,i64 z1)::r
abbrev J2 (z0:Block)(z1:_)(r:List (Nat×AV)):=(31,TV z0)::(32,dq z0)::(33,i64 z1)::r
abbrev Qw (z0:AT)(z1:Step)(r:List (Go.Abs.Row)):=(Kc z0.decls z0.AH)::(Vd z1.op z1.num z1.BB z1.args z1.kids)::r
abbrev Rw (z0:AT)(z1:Step)(r:List (Go.Abs.Row)):=(Rb z0.decls z0.AH)::(YO z1.op z1.num z1.BB z1.args z1.kids)::r
abbrev JR (z0 z1 z2:_)(r:List (Go.Abs.Row)):=L7::(BQ z0)::(ZX z1 z2)::(HN z1)::r
abbrev aT (z0 z1:_)(r:List (Nat×AV)):=(8,Bm)::(10,Dh)::(133,Fs z0)::(134,Eu z0)::(135,i64 z1)::r
abbrev QG (z0:List Ac)(z1:List Bg)(z2 z3:_)(r:List (Go.Abs.Row)):=(I7 z0 z1)::Tu::(fZ z2 z3)::(HJ z2)::(Lg z3)::r
abbrev bR (z0:_)(z1:Ad)(r:List (Nat×AV)):=(28,i64 z0)::(29,.fn 21 [Bm])::(30,Wc z1)::(32,lH z1)::r
abbrev Ph (z0:Block)(r:List (Go.Abs.Row)):=(fT z0.steps z0.result)::ZL::r
abbrev Og (z0 z1:_)(r:List (Nat×AV)):=(2,i64 z0)::(3,ls eI z1)::r
abbrev aK {α0:Type}(z0:List α0)(z1:_)(r:List (Nat×AV)):=(44,ow 4 0 z0)::(45,Eu z0)::(46,i64 z1)::r
abbrev Wy (r:List (Nat×AV)):=(6,i64 (-1))::(7,.bool false)::r
abbrev ZO (z0:_)(z1:Step)(r:List (Go.Abs.Row)):=(Nc z0)::(br z1.op z1.num z1.BB z1.args z1.kids)::r
abbrev Uw (z0:_)(r:List (Nat×AV)):=(3,Fs z0)::(8,Bm)::(10,Dh)::r
abbrev ZY (z0:Step)(z1:_)(r:List (Nat×AV)):=(74,gF z0)::(75,Sm z0)::(76,i64 z1)::r
abbrev Q0 (z0 z1 z2:_)(r:List (Go.Abs.Row)):=(BQ z0)::Zg::(jE z1)::(BQ z2)::r
abbrev kH (z0:AT)(z1:List Ac)(z2:List Ad)(z3:_)(z4:AT)(z5 z6:_)(r:List (Go.Abs.Row)):=(Zu z0.decls z0.AH)::(eE z1 z2)::(HJ z3)::(Oq z4)::(lp z4)::(HJ z5)::(Lg z6)::⟨0,30,2,[[ow 5 0 z5,ow 6 0 z6]]⟩::r
abbrev fj {α0:Type}(z0:List α0)(z1 z2:_)(r:List (Nat×AV)):=(8,Bm)::(10,ow 1 0 z0)::(13,G6)::(38,NS z1)::(39,DH z2)::r
abbrev Zf (z0 z1 z2:_)(r:List (Nat×AV)):=(2,ls eI z0)::(3,ls eI z1)::(4,gJ z2)::r
abbrev iz {α0:Type}(z0:List α0){α1:Type}(z1:List α1){α2:Type}(z2:List α2)(r:List (Nat×AV)):=(4,Bm)::(6,Dh)::(8,G6)::(9,ow 3 0 z0)::(10,ow 4 0 z1)::(11,ow 5 0 z2)::r
abbrev S4 (z0:_)(r:List (Nat×AV)):=(1,ls eI z0)::(5,Bm)::r
abbrev jg (z0:AT){α1:Type}(z1:List α1)(r:List (Go.Abs.Row)):=(Kc z0.decls z0.AH)::⟨0,45,2,[[.zc,.zc]]⟩::⟨0,45,2,[[EG z0.decls,ow 3 0 z1]]⟩::r
abbrev Ul {α0:Type}(z0:List α0)(z1:_)(r:List (Nat×AV)):=(7,ow 2 0 z0)::(8,i64 z1)::r
abbrev gW (z0:_)(z1:Step)(r:List (Go.Abs.Row)):=(BQ z0)::(Vd z1.op z1.num z1.BB z1.args z1.kids)::r
abbrev kI (z0:Ad)(z1:Block)(r:List (Go.Abs.Row)):=(lA z0.params z0.Ar z0.result z0.body.steps z0.body.result)::⟨0,52,2,[an z1]⟩::L7::r
abbrev eN (r:List (Nat×AV)):=(8,i64 (-1))::(9,.bool false)::r
abbrev fW {α0:Type}(z0:List α0)(z1 z2:_)(r:List (Nat×AV)):=(8,Bm)::(10,ow 1 0 z0)::(38,NS z1)::(39,DH z2)::r
abbrev fp (z0:_)(z1:Step)(r:List (Go.Abs.Row)):=(Nc z0)::(gl z1.op z1.num z1.BB z1.args z1.kids)::r
abbrev Zc {α0:Type}(z0:List α0){α1:Type}(z1:List α1)(r:List (Nat×AV)):=(17,ow 4 0 z0)::(18,ow 5 0 z1)::r
abbrev kx (z0 z1:_)(r:List (Nat×AV)):=(0,EG z0)::(3,i64 z1)::(4,Bm)::(12,EG z0)::(13,Eu z0)::(14,i64 z1)::r
abbrev dA (z0:Step)(r:List (Nat×AV)):=(40,i64 z0.op)::(52,.bool true)::r
abbrev kY (z0 z1:_)(r:List (Nat×AV)):=(1,Bm)::(4,Dh)::(5,.bool z0)::(6,dd)::(7,.ptr 7 0 0 0)::(8,.bool z1)::r
abbrev Oz (z0:Step)(r:List (Go.Abs.Row)):=(Q4 z0)::(lG z0)::r
abbrev dL (r:List (Nat×AV)):=(2,Bm)::(3,.bool false)::r
abbrev iH {α0:Type}(z0:List α0)(z1:_)(r:List (Nat×AV)):=(11,ow 4 0 z0)::(12,.ptr 5 0 0 0)::(41,G2 z1)::r
abbrev kf (z0:Ad)(z1:_)(r:List (Go.Abs.Row)):=(kG z0.params z0.Ar z0.result z0.body.steps z0.body.result)::(BQ z1)::r
abbrev dC (z0:_)(r:List (Go.Abs.Row)):=lx::⟨1,3,1,[]⟩::(PE z0)::r
abbrev gr (z0:_){α1:Type}(z1:List α1)(r:List (Nat×AV)):=(5,T1 z0)::(8,Bm)::(9,ow 1 0 z1)::(10,G6)::r
theorem fK:Hu Tryz.prog 116=true:=by kernel_rfl
theorem kK:Hu Tryz.prog 152=true:=by kernel_rfl
theorem ke:Hu Tryz.prog 178=true:=by kernel_rfl
theorem jV:Hu Tryz.prog 83=true:=by kernel_rfl
theorem eo:Jo Tryz.prog 116=some [(0,1)]:=by kernel_rfl
theorem jt:Jo Tryz.prog 152=some [(0,1),(1,1)]:=by kernel_rfl
theorem kg:Jo Tryz.prog 178=some [(0,1),(1,1),(2,3)]:=by kernel_rfl
theorem jZ:Jo Tryz.prog 83=some [(0,1),(1,1),(2,1)]:=by kernel_rfl
theorem T7:Cj Tryz.prog 150=some ⟨178,5,72,[.sl [],.int .i64 0,.int .i64 0,.int .i64 0,.sl []]⟩:=by kernel_rfl
theorem gh:Cj Tryz.prog 171=some ⟨72,2,32,[.sl [],.int .i64 0]⟩:=by kernel_rfl
theorem jb:Cj Tryz.prog 22=some ⟨68,3,40,[.int .i64 0,.int .i64 0,.sl []]⟩:=by kernel_rfl
theorem jd:Cj Tryz.prog 23=some ⟨74,5,88,[.sl [],.sl [],.int .i64 0,.sl [],.int .i64 0]⟩:=by kernel_rfl
theorem Dl:Cj Tryz.prog 27=some ⟨83,3,40,[.int .i64 0,.int .i64 0,.sl []]⟩:=by kernel_rfl
theorem GZ:Cj Tryz.prog 28=some ⟨54,5,88,[.sl [],.sl [],.int .i64 0,.sl [],.int .i64 0]⟩:=by kernel_rfl
theorem BD:Cj Tryz.prog 49=some ⟨3,1,8,[.int .i64 0]⟩:=by kernel_rfl
theorem DT:Cj Tryz.prog 50=some ⟨97,5,72,[.int .i64 0,.int .i64 0,.int .i64 0,.sl [],.sl []]⟩:=by kernel_rfl
theorem jU:Cj Tryz.prog 66=some ⟨147,1,24,[.sl []]⟩:=by kernel_rfl
theorem jX:Cj Tryz.prog 70=some ⟨173,5,72,[.int .i64 0,.int .i64 0,.int .i64 0,.sl [],.sl []]⟩:=by kernel_rfl
theorem KV:Cj Tryz.prog 81=some ⟨116,1,24,[.sl []]⟩:=by kernel_rfl
theorem JF:Cj Tryz.prog 95=some ⟨52,2,32,[.sl [],.int .i64 0]⟩:=by kernel_rfl
theorem jh:CY Tryz.prog 150=true:=by kernel_rfl
theorem TI:CY Tryz.prog 27=true:=by kernel_rfl
theorem F8:CY Tryz.prog 49=true:=by kernel_rfl
theorem RN:CY Tryz.prog 81=true:=by kernel_rfl
theorem Oi:CY Tryz.prog 95=true:=by kernel_rfl
theorem LY:DS Tryz.prog 116=some (true,1):=by kernel_rfl
theorem kr:DS Tryz.prog 150=some (false,1):=by kernel_rfl
theorem ae:DS Tryz.prog 152=some (true,2):=by kernel_rfl
theorem kq:DS Tryz.prog 178=some (true,5):=by kernel_rfl
theorem lX:DS Tryz.prog 27=some (false,1):=by kernel_rfl
theorem fD:DS Tryz.prog 28=some (false,1):=by kernel_rfl
theorem Ie:DS Tryz.prog 3=some (false,1):=by kernel_rfl
theorem Hs:DS Tryz.prog 30=some (true,2):=by kernel_rfl
theorem Ky:DS Tryz.prog 49=some (false,1):=by kernel_rfl
theorem UZ:DS Tryz.prog 50=some (false,1):=by kernel_rfl
theorem Ho:DS Tryz.prog 52=some (true,2):=by kernel_rfl
theorem Nv:DS Tryz.prog 54=some (true,5):=by kernel_rfl
theorem RO:DS Tryz.prog 81=some (false,1):=by kernel_rfl
theorem I9:DS Tryz.prog 83=some (true,3):=by kernel_rfl
theorem cX:DS Tryz.prog 95=some (false,1):=by kernel_rfl
theorem L6:DS Tryz.prog 97=some (true,5):=by kernel_rfl
theorem OB:H0 Tryz.prog 116=some [.zc]:=by kernel_rfl
theorem bQ:H0 Tryz.prog 152=some [.zc,.zc]:=by kernel_rfl
theorem fS:H0 Tryz.prog 178=some [.zc,.int .i64 0,.int .i64 0,.int .i64 0,.zc]:=by kernel_rfl
theorem KW:H0 Tryz.prog 30=some [.zc,.zc]:=by kernel_rfl
theorem Hq:H0 Tryz.prog 52=some [.zc,.int .i64 0]:=by kernel_rfl
theorem Ni:H0 Tryz.prog 54=some [.zc,.zc,.int .i64 0,.zc,.int .i64 0]:=by kernel_rfl
theorem GY:H0 Tryz.prog 83=some [.int .i64 0,.int .i64 0,.zc]:=by kernel_rfl
theorem Nl:H0 Tryz.prog 97=some [.int .i64 0,.int .i64 0,.int .i64 0,.zc,.zc]:=by kernel_rfl
theorem KG {p0:(List Int)}{p1 r:Int}(h0:Hg p0 p1=some r):AS Tryz.prog 68 [ls eI p0,i64 p1] [] (λv st=>v=(i64 r)/\st=[]):=by
 unfold Hg at h0;refine ai Tryz.func68 AA AA AA AA (zr tb AA AA (sr AA λc a=>zm tb 2 AA (zl tb AA AA (zm tb 2 AA (dn a AA (AD λd b=>zr tb AA AA ?_))))));refine ci h0 AA ?_ ?_<;>clear h0<;>intro e h0
 ·refine zr tb AA AA ?_;obtain rfl:=Sh.AB h0;exact rt [(4,i64 (-1))]
 ·refine AG (b _ (zr tb AA AA ?_));obtain rfl:=Sh.AB h0;exact rt [(4,i64 (Sh.w (p1-(Sh.len p0))))]
theorem VS {p0:Bh}{p1 r:Int}(h0:MB p0 p1=some r):AS Tryz.prog 111 [.agg (Bv p0),i64 p1] [] (λv st=>v=(i64 r)/\st=[]):=by
 unfold MB at h0;refine ai Tryz.func111 AA AA AA AA (sr AA λf a=>Aw (m:=0) AR AA AA AA AA AA (zq tb AA (dn a AA (sr AA λg b=>zm tb 3 AA (bs h0 λe c h0=>zc (hb 68) (KG c) rfl AA AA (zq tb AA (dn b AA (AD λh d=>?_))))))));refine zr tb AA AA ?_;refine ci h0 AA ?_ ?_<;>clear h0<;>intro i h0
 ·refine zr tb AA AA ?_;obtain rfl:=Sh.AB h0;exact rd [(4,i64 (-1))]
 ·refine AG (d _ (zr tb AA AA ?_));obtain rfl:=Sh.AB h0;exact rd [(4,i64 e)]
theorem U0 {N:Nat}{p0:(List Bh)}{p1 r:Int}(h0:LJ N p0 p1=some r):AS Tryz.prog 67 [ls Bv p0,i64 p1] [] (λv st=>v=(i64 r)/\st=[]):=by
 unfold LJ at h0;refine ai Tryz.func67 AA AA AA AA (zr tb AA AA (sr AA λF l=>zm tb 2 AA (zl tb AA AA (zm tb 2 AA (dn l AA (AD λG m=>zr tb AA AA ?_))))));refine ci h0 AA ?_ ?_<;>clear h0<;>intro H h0
 ·refine zr tb AA AA ?_;obtain rfl:=Sh.AB h0;exact rt [(4,i64 (-1))]
 ·refine AG (m _ (AD λu o=>zr tb AA AA ?_));obtain⟨d,b,h0⟩:=Sh.Av h0;have p:∀(a:Int),d=Sum.inr a->∀s,Wk 0 s ⟨27,AN [(1,i64 a)],[]⟩->u s:=by
   intro a I s x;subst d;try dsimp only at h0
   refine o _ (AJ x (zr tb AA AA ?_));obtain rfl:=Sh.AB h0;exact rt [(4,i64 a)]
  refine AL (Af (σ:=Int×Int) (λn v=>F3 p0 n v.1 v.2=some d) (λ(c,e)=>⟨27,AN [(0,ls Bv p0),(1,i64 c),(5,i64 e)],[]⟩) N (Sh.w (p1-(Sh.len p0)),0) b (AI AA) (λ_ t=>by rw[F3]at t;cases t) ?_);rintro n ⟨c,e⟩ b;try dsimp only at b⊢
  rw[F3]at b;refine AD λy f=>sr AA λz g=>zm tb 2 AA (zl tb AA AA (zq tb AA (dn g AA ?_)));refine ci b AA ?_ ?_<;>clear b<;>intro A b
  ·refine AG (f _ (AD λB h=>AL (sr AA λC i=>zm tb 2 AA (bs b λD j b=>zx jU j AA AA AA (zm tb 2 AA (bs b λq k b=>zc (hb 111) (VS k) rfl AA AA (zq tb AA (dn i AA ?_))))))));refine zr tb AA AA ?_;refine ci b AA ?_ ?_<;>clear b<;>intro E b
   ·refine zr tb AA AA ?_;obtain rfl:=Sh.AB b;try dsimp only[id]at h0
    obtain rfl:=Sh.AB h0;exact rt [(4,i64 (-1))]
   ·exact AG (h _ (AF AA (zm tb 3 AA (AE (xi (q,Sh.w (e+1)) b (AI AA))))))
  ·exact Ah (p c (Sh.AB b).symm _ (AI AA))
theorem Ut {N:Nat}{p0:Ac}{p1 r:Int}(h0:LB N p0 p1=some r):AS Tryz.prog 32 [OJ p0,i64 p1] [] (λv st=>v=(i64 r)/\st=[]):=by
 unfold LB at h0;refine ai Tryz.func32 AA AA AA AA (sr AA λf a=>Aw (m:=0) AR AA AA AA AA AA (zq tb AA (dn a AA (sr AA λg b=>zm tb 3 AA (bs h0 λe c h0=>zc (hb 67) (U0 c) rfl AA AA (zq tb AA (dn b AA (AD λh d=>?_))))))));refine zr tb AA AA ?_;refine ci h0 AA ?_ ?_<;>clear h0<;>intro i h0
 ·refine zr tb AA AA ?_;obtain rfl:=Sh.AB h0;exact rd [(4,i64 (-1))]
 ·refine AG (d _ (zr tb AA AA ?_));obtain rfl:=Sh.AB h0;exact rd [(4,i64 e)]
theorem UA {N:Nat}{p0:(List Ac)}{p1 r:Int}(h0:Jy N p0 p1=some r):AS Tryz.prog 11 (TY p0 p1) [] (λv st=>v=(i64 r)/\st=[]):=by
 unfold Jy at h0;refine ai Tryz.func11 AA AA AA AA (zr tb AA AA (sr AA λF l=>zm tb 2 AA (zl tb AA AA (zm tb 2 AA (dn l AA (AD λG m=>zr tb AA AA ?_))))));refine ci h0 AA ?_ ?_<;>clear h0<;>intro H h0
 ·refine zr tb AA AA ?_;obtain rfl:=Sh.AB h0;exact rt [(4,i64 (-1))]
 ·refine AG (m _ (AD λu o=>zr tb AA AA ?_));obtain⟨d,b,h0⟩:=Sh.Av h0;have p:∀(a:Int),d=Sum.inr a->∀s,Wk 0 s ⟨27,AN [(1,i64 a)],[]⟩->u s:=by
   intro a I s x;subst d;try dsimp only at h0
   refine o _ (AJ x (zr tb AA AA ?_));obtain rfl:=Sh.AB h0;exact rt [(4,i64 a)]
  refine AL (Af (σ:=Int×Int) (λn v=>Fb N p0 n v.1 v.2=some d) (λ(c,e)=>⟨27,AN [(0,ls Am p0),(1,i64 c),(5,i64 e)],[]⟩) N (Sh.w (p1-(Sh.len p0)),0) b (AI AA) (λ_ t=>by rw[Fb]at t;cases t) ?_);rintro n ⟨c,e⟩ b;try dsimp only at b⊢
  rw[Fb]at b;refine AD λy f=>sr AA λz g=>zm tb 2 AA (zl tb AA AA (zq tb AA (dn g AA ?_)));refine ci b AA ?_ ?_<;>clear b<;>intro A b
  ·refine AG (f _ (AD λB h=>AL (sr AA λC i=>zm tb 2 AA (bs b λD j b=>zx jb j AA AA AA (zm tb 2 AA (bs b λq k b=>zc (hb 32) (Ut k) rfl AA AA (zq tb AA (dn i AA ?_))))))));refine zr tb AA AA ?_;refine ci b AA ?_ ?_<;>clear b<;>intro E b
   ·refine zr tb AA AA ?_;obtain rfl:=Sh.AB b;try dsimp only[id]at h0
    obtain rfl:=Sh.AB h0;exact rt [(4,i64 (-1))]
   ·exact AG (h _ (AF AA (zm tb 3 AA (AE (xi (q,Sh.w (e+1)) b (AI AA))))))
  ·exact Ah (p c (Sh.AB b).symm _ (AI AA))
theorem S3 {N:Nat}{ql:Block->Int->Option (Int)}(rK :∀{p0:Block} {p1:Int} {r:Int},ql p0 p1=some r->AS Tryz.prog 69 [DH p0,i64 p1] [] (λv st=>v=(i64 r)/\st=[])){p0:(List Block)}{p1 r:Int}(h0:JY N ql p0 p1=some r):AS Tryz.prog 153 [ls Bq p0,i64 p1] [] (λv st=>v=(i64 r)/\st=[]):=by
 unfold JY at h0;refine ai Tryz.func153 AA AA AA AA (zr tb AA AA (sr AA λF l=>zm tb 2 AA (zl tb AA AA (zm tb 2 AA (dn l AA (AD λG m=>zr tb AA AA ?_))))));refine ci h0 AA ?_ ?_<;>clear h0<;>intro H h0
 ·refine zr tb AA AA ?_;obtain rfl:=Sh.AB h0;exact rt [(4,i64 (-1))]
 ·refine AG (m _ (AD λu o=>zr tb AA AA ?_));obtain⟨d,b,h0⟩:=Sh.Av h0;have p:∀(a:Int),d=Sum.inr a->∀s,Wk 0 s ⟨27,AN [(1,i64 a)],[]⟩->u s:=by
   intro a I s x;subst d;try dsimp only at h0
   refine o _ (AJ x (zr tb AA AA ?_));obtain rfl:=Sh.AB h0;exact rt [(4,i64 a)]
  refine AL (Af (σ:=Int×Int) (λn v=>EZ p0 ql n v.1 v.2=some d) (λ(c,e)=>⟨27,AN [(0,ls Bq p0),(1,i64 c),(5,i64 e)],[]⟩) N (Sh.w (p1-(Sh.len p0)),0) b (AI AA) (λ_ t=>by rw[EZ]at t;cases t) ?_);rintro n ⟨c,e⟩ b;try dsimp only at b⊢
  rw[EZ]at b;refine AD λy f=>sr AA λz g=>zm tb 2 AA (zl tb AA AA (zq tb AA (dn g AA ?_)));refine ci b AA ?_ ?_<;>clear b<;>intro A b
  ·refine AG (f _ (AD λB h=>AL (sr AA λC i=>zm tb 2 AA (bs b λD j b=>zx gh j AA AA AA (zm tb 2 AA (bs b λq k b=>zc (hb 69) (rK k) rfl AA AA (zq tb AA (dn i AA ?_))))))));refine zr tb AA AA ?_;refine ci b AA ?_ ?_<;>clear b<;>intro E b
   ·refine zr tb AA AA ?_;obtain rfl:=Sh.AB b;try dsimp only[id]at h0
    obtain rfl:=Sh.AB h0;exact rt [(4,i64 (-1))]
   ·exact AG (h _ (AF AA (zm tb 3 AA (AE (xi (q,Sh.w (e+1)) b (AI AA))))))
  ·exact Ah (p c (Sh.AB b).symm _ (AI AA))
theorem Ux {N:Nat}{ql:Block->Int->Option (Int)}(rK :∀{p0:Block} {p1:Int} {r:Int},ql p0 p1=some r->AS Tryz.prog 69 [DH p0,i64 p1] [] (λv st=>v=(i64 r)/\st=[])){p0:Step}{p1 r:Int}(h0:Km N ql p0 p1=some r):AS Tryz.prog 143 [Mb p0,i64 p1] [] (λv st=>v=(i64 r)/\st=[]):=by
 unfold Km at h0;refine ai Tryz.func143 AA AA AA AA (sr AA λk b=>Aw (m:=0) AR AA AA AA AA AA (zq tb AA (dn b AA (sr AA λl c=>zm tb 3 AA (bs h0 λn d h0=>zc (hb 68) (KG d) rfl AA AA (zq tb AA (dn c AA (AD λo e=>?_))))))));refine zr tb AA AA ?_;refine ci h0 AA ?_ ?_<;>clear h0<;>intro p h0
 ·refine zr tb AA AA ?_;obtain rfl:=Sh.AB h0;exact rd [(4,i64 (-1))]
 ·refine AG (e _ (sr AA λq f=>zm tb 3 AA (bs h0 λh g h0=>zc (hb 153) (S3 rK g) rfl AA AA (zq tb AA (dn f AA (AD λi a=>zr tb AA AA ?_))))));refine ci h0 AA ?_ ?_<;>clear h0<;>intro j h0
  ·refine zr tb AA AA ?_;obtain rfl:=Sh.AB h0;exact rd [(4,i64 (-1))]
  ·refine AG (a _ (zr tb AA AA ?_));obtain rfl:=Sh.AB h0;exact rd [(4,i64 h)]
theorem Tb {N:Nat}{ql:Block->Int->Option (Int)}(rK :∀{p0:Block} {p1:Int} {r:Int},ql p0 p1=some r->AS Tryz.prog 69 [DH p0,i64 p1] [] (λv st=>v=(i64 r)/\st=[])){p0:(List Step)}{p1 r:Int}(h0:Lv N ql p0 p1=some r):AS Tryz.prog 112 (Rx p0 p1) [] (λv st=>v=(i64 r)/\st=[]):=by
 unfold Lv at h0;refine ai Tryz.func112 AA AA AA AA (zr tb AA AA (sr AA λF l=>zm tb 2 AA (zl tb AA AA (zm tb 2 AA (dn l AA (AD λG m=>zr tb AA AA ?_))))));refine ci h0 AA ?_ ?_<;>clear h0<;>intro H h0
 ·refine zr tb AA AA ?_;obtain rfl:=Sh.AB h0;exact rt [(4,i64 (-1))]
 ·refine AG (m _ (AD λx o=>zr tb AA AA ?_));obtain⟨d,b,h0⟩:=Sh.Av h0;have p:∀(a:Int),d=Sum.inr a->∀s,Wk 0 s ⟨27,AN [(1,i64 a)],[]⟩->x s:=by
   intro a I s y;subst d;try dsimp only at h0
   refine o _ (AJ y (zr tb AA AA ?_));obtain rfl:=Sh.AB h0;exact rt [(4,i64 a)]
  refine AL (Af (σ:=Int×Int) (λn v=>Ey N p0 ql n v.1 v.2=some d) (λ(c,e)=>⟨27,AN [(0,ls Bx p0),(1,i64 c),(5,i64 e)],[]⟩) N (Sh.w (p1-(Sh.len p0)),0) b (AI AA) (λ_ u=>by rw[Ey]at u;cases u) ?_);rintro n ⟨c,e⟩ b;try dsimp only at b⊢
  rw[Ey]at b;refine AD λz f=>sr AA λA g=>zm tb 2 AA (zl tb AA AA (zq tb AA (dn g AA ?_)));refine ci b AA ?_ ?_<;>clear b<;>intro B b
  ·refine AG (f _ (AD λC h=>AL (sr AA λD i=>zm tb 2 AA (bs b λq j b=>zz (Lj q) (E3 jX AA AA j (CK _) rfl) rfl (zm tb 2 AA (bs b λt k b=>zc (hb 143) (Ux rK k) rfl AA AA (zq tb AA (dn i AA ?_))))))));refine zr tb AA AA ?_;refine ci b AA ?_ ?_<;>clear b<;>intro E b
   ·refine zr tb AA AA ?_;obtain rfl:=Sh.AB b;try dsimp only[id]at h0
    obtain rfl:=Sh.AB h0;exact rt [(4,i64 (-1))]
   ·exact AG (h _ (AF AA (zm tb 3 AA (AE (xi (t,Sh.w (e+1)) b (AI AA))))))
  ·exact Ah (p c (Sh.AB b).symm _ (AI AA))
theorem Rv {N:Nat}{ql:Block->Int->Option (Int)}(rK :∀{p0:Block} {p1:Int} {r:Int},ql p0 p1=some r->AS Tryz.prog 69 [DH p0,i64 p1] [] (λv st=>v=(i64 r)/\st=[])){p0:Block}{p1 r:Int}(h0:KH N ql p0 p1=some r):AS Tryz.prog 69 [DH p0,i64 p1] [] (λv st=>v=(i64 r)/\st=[]):=by
 unfold KH at h0;refine ai Tryz.func69 AA AA AA AA (sr AA λf a=>Aw (m:=0) AR AA AA AA AA AA (zq tb AA (dn a AA (sr AA λg b=>zm tb 3 AA (bs h0 λe c h0=>zc (hb 112) (Tb rK c) rfl AA AA (zq tb AA (dn b AA (AD λh d=>?_))))))));refine zr tb AA AA ?_;refine ci h0 AA ?_ ?_<;>clear h0<;>intro i h0
 ·refine zr tb AA AA ?_;obtain rfl:=Sh.AB h0;exact rd [(4,i64 (-1))]
 ·refine AG (d _ (zr tb AA AA ?_));obtain rfl:=Sh.AB h0;exact rd [(4,i64 e)]
theorem Rz {N:Nat}:∀(n:Nat),∀{p0:Block} {p1:Int} {r:Int},Gb N n p0 p1=some r->AS Tryz.prog 69 [DH p0,i64 p1] [] (λv st=>v=(i64 r)/\st=[]):=by
 intro n
 induction n with
 | zero=>intro p0 p1 r a;cases a
 | succ n ih=>
  intro p0 p1 r a;rw[Gb]at a;exact Rv (λh=>ih h) a
theorem T0 {N:Nat}:∀{p0:Block} {p1:Int} {r:Int},Lx N p0 p1=some r->AS Tryz.prog 69 [DH p0,i64 p1] [] (λv st=>v=(i64 r)/\st=[]):=by
 intro p0 p1 r a;exact Rz N a
theorem R8 {N:Nat}{p0:Ad}{p1 r:Int}(h0:Iw N p0 p1=some r):AS Tryz.prog 33 [Wc p0,i64 p1] [] (λv st=>v=(i64 r)/\st=[]):=by
 unfold Iw at h0;refine ai Tryz.func33 AA AA AA AA (sr AA λs e=>Aw (m:=0) AR AA AA AA AA AA (zq tb AA (dn e AA (sr AA λt f=>zm tb 3 AA (bs h0 λu g h0=>zc (hb 68) (KG g) rfl AA AA (zq tb AA (dn f AA (AD λw h=>?_))))))));refine zr tb AA AA ?_;refine ci h0 AA ?_ ?_<;>clear h0<;>intro x h0
 ·refine zr tb AA AA ?_;obtain rfl:=Sh.AB h0;exact rd [(4,i64 (-1))]
 ·refine AG (h _ (sr AA λy i=>zm tb 3 AA (bs h0 λz j h0=>zc (hb 68) (KG j) rfl AA AA (zq tb AA (dn i AA (AD λl a=>zr tb AA AA ?_))))));refine ci h0 AA ?_ ?_<;>clear h0<;>intro n h0
  ·refine zr tb AA AA ?_;obtain rfl:=Sh.AB h0;exact rd [(4,i64 (-1))]
  ·refine AG (a _ (sr AA λo b=>zm tb 3 AA (bs h0 λk c h0=>zc (hb 69) (T0 c) rfl AA AA (zq tb AA (dn b AA (AD λp d=>zr tb AA AA ?_))))));refine ci h0 AA ?_ ?_<;>clear h0<;>intro q h0
   ·refine zr tb AA AA ?_;obtain rfl:=Sh.AB h0;exact rd [(4,i64 (-1))]
   ·refine AG (d _ (zr tb AA AA ?_));obtain rfl:=Sh.AB h0;exact rd [(4,i64 k)]
theorem RD {N:Nat}{p0:(List Ad)}{p1 r:Int}(h0:ID N p0 p1=some r):AS Tryz.prog 12 [ls Aj p0,i64 p1] [] (λv st=>v=(i64 r)/\st=[]):=by
 unfold ID at h0;refine ai Tryz.func12 AA AA AA AA (zr tb AA AA (sr AA λF l=>zm tb 2 AA (zl tb AA AA (zm tb 2 AA (dn l AA (AD λG m=>zr tb AA AA ?_))))));refine ci h0 AA ?_ ?_<;>clear h0<;>intro H h0
 ·refine zr tb AA AA ?_;obtain rfl:=Sh.AB h0;exact rt [(4,i64 (-1))]
 ·refine AG (m _ (AD λu o=>zr tb AA AA ?_));obtain⟨d,b,h0⟩:=Sh.Av h0;have p:∀(a:Int),d=Sum.inr a->∀s,Wk 0 s ⟨27,AN [(1,i64 a)],[]⟩->u s:=by
   intro a I s x;subst d;try dsimp only at h0
   refine o _ (AJ x (zr tb AA AA ?_));obtain rfl:=Sh.AB h0;exact rt [(4,i64 a)]
  refine AL (Af (σ:=Int×Int) (λn v=>EU N p0 n v.1 v.2=some d) (λ(c,e)=>⟨27,AN [(0,ls Aj p0),(1,i64 c),(5,i64 e)],[]⟩) N (Sh.w (p1-(Sh.len p0)),0) b (AI AA) (λ_ t=>by rw[EU]at t;cases t) ?_);rintro n ⟨c,e⟩ b;try dsimp only at b⊢
  rw[EU]at b;refine AD λy f=>sr AA λz g=>zm tb 2 AA (zl tb AA AA (zq tb AA (dn g AA ?_)));refine ci b AA ?_ ?_<;>clear b<;>intro A b
  ·refine AG (f _ (AD λB h=>AL (sr AA λC i=>zm tb 2 AA (bs b λD j b=>zx jd j AA AA AA (zm tb 2 AA (bs b λq k b=>zc (hb 33) (R8 k) rfl AA AA (zq tb AA (dn i AA ?_))))))));refine zr tb AA AA ?_;refine ci b AA ?_ ?_<;>clear b<;>intro E b
   ·refine zr tb AA AA ?_;obtain rfl:=Sh.AB b;try dsimp only[id]at h0
    obtain rfl:=Sh.AB h0;exact rt [(4,i64 (-1))]
   ·exact AG (h _ (AF AA (zm tb 3 AA (AE (xi (q,Sh.w (e+1)) b (AI AA))))))
  ·exact Ah (p c (Sh.AB b).symm _ (AI AA))
theorem TJ {N:Nat}{p0:AT}{p1 r:Int}(h0:Jj N p0 p1=some r):AS Tryz.prog 4 [G2 p0,i64 p1] [] (λv st=>v=(i64 r)/\st=[]):=by
 unfold Jj at h0;refine ai Tryz.func4 AA AA AA AA (sr AA λk b=>Aw (m:=0) AR AA AA AA AA AA (zq tb AA (dn b AA (sr AA λl c=>zm tb 3 AA (bs h0 λn d h0=>zc (hb 11) (UA d) rfl AA AA (zq tb AA (dn c AA (AD λo e=>?_))))))));refine zr tb AA AA ?_;refine ci h0 AA ?_ ?_<;>clear h0<;>intro p h0
 ·refine zr tb AA AA ?_;obtain rfl:=Sh.AB h0;exact rd [(4,i64 (-1))]
 ·refine AG (e _ (sr AA λq f=>zm tb 3 AA (bs h0 λh g h0=>zc (hb 12) (RD g) rfl AA AA (zq tb AA (dn f AA (AD λi a=>zr tb AA AA ?_))))));refine ci h0 AA ?_ ?_<;>clear h0<;>intro j h0
  ·refine zr tb AA AA ?_;obtain rfl:=Sh.AB h0;exact rd [(4,i64 (-1))]
  ·refine AG (a _ (zr tb AA AA ?_));obtain rfl:=Sh.AB h0;exact rd [(4,i64 h)]
theorem KA {N:Nat}{p0:(List Int)}{r:(List Int)}(h0:HV N p0=some r):AS Tryz.prog 82 [ls eI p0] [] (λv st=>v=(ow 0 0 r)/\st=[BQ r]):=by
 unfold HV at h0;refine ai Tryz.func82 AA AA AA AA (zr tb AA AA (sr AA λF k=>zq tb AA (zl tb AA AA (bs h0 λt l h0=>ZS (m:=0) (enc:=eI) (u:=0) AR BD AA AA AA l AA AA (zq tb AA (dn k AA (AD λx o=>zr tb AA AA (bs h0 λp a h0=>?_))))))));have y:∀(f:(List Int)),p=f->∀s,Wk 0 s ⟨22,AN [(3,ow 0 0 f)],[BQ f]⟩->x s:=by
  intro f G s z;subst p;try dsimp only at h0
  refine o _ (AJ z (zr tb AA AA ?_));obtain rfl:=Sh.AB h0;exact rt [(2,ow 0 0 f)]
 refine AL (Af (σ:=Int×(List Int)) (λn v=>FR p0 n v.1 v.2=some p) (λ(c,e)=>⟨22,AN [(0,ls eI p0),(3,ow 0 0 e),(4,i64 c)],[ro 0 3 1 eI e]⟩) N (0,t) a (AI AA) (λ_ q=>by rw[FR]at q;cases q) ?_);rintro n ⟨c,e⟩ a;try dsimp only at a⊢
 rw[FR]at a;refine AD λA g=>sr AA λB h=>zm tb 2 AA (zl tb AA AA (zq tb AA (dn h AA ?_)));refine ci a AA ?_ ?_<;>clear a<;>intro C a
 ·refine AG (g _ (AD λD i=>AL (AF AA (zm tb 4 AA (bs a λd j a=>zx BD j AA AA AA (zq tb AA (bs a λE b a=>zz (TP c) (Cb BD AA AA AA AA b) rfl (L0 (u':=d) AR Ie AA AA b AA AA AA qK rfl AA (dn i AA ?_)))))))));refine AF AA (zm tb 3 AA ?_);exact AE (xi (Sh.w (c+1),Sh.put e c d) a (Ao (L:=[(0,.sl (List.map eI p0)),(3,.own 0 0 (List.length (Sh.put e c d))),(4,i64 (Sh.w (c+1)))]) ⟨.rfl,(.len (by simp only[Sh.Au])),.rfl,mD⟩))
 ·exact Ah (y e (Sh.AB a).symm _ (AI AA))
theorem V5 {N:Nat}{p0 r:Bh}(h0:L9 N p0=some r):AS Tryz.prog 131 [.agg (Bv p0)] [] (λv st=>v=(.agg [ow 0 0 r.fields])/\st=[ro 0 3 1 eI r.fields]):=by
 unfold L9 at h0;refine AS.wk (r0:=(.agg [ow 0 0 r.fields])) (st0:=[ro 0 3 1 eI r.fields,⟨0,116,1,[[ow 0 0 r.fields]]⟩]) ?_ (GA (L:=[(0,.agg [ow 0 0 r.fields])]) (st':=[ro 0 3 1 eI r.fields]) [0] AA (by decide) rfl AA (.pure (AK λ_=>AA) mD) (.same AA));refine ai Tryz.func131 AA AA AA AA (sr AA λg b=>Aw (m:=0) AR AA AA AA AA AA (Al (m:=1) AR OB AA AA (dn b AA (sr AA λh c=>Al (m:=2) AR OB AA AA (dn c AA (sr AA λi d=>zm tb 2 AA (bs h0 λa e h0=>BE (v':=(ow 3 0 a)) AR (hb 82) (KA e) rfl AA ⟨(Ay λ_=>AA),mD⟩ AA AA ?_)))))));refine zq tb AA (Aq AR Ky AA AA AA AA AA AA qK rfl (dn d AA (sr AA λj f=>zq tb AA (Aq AR LY AA AA AA AA AA AA qK rfl (dn f AA ?_)))));obtain rfl:=Sh.AB h0;exact BG (Exists.intro _ (And.intro ((CP (L:=[(2,Dh)]) (st':=[BQ a,⟨0,116,1,[[ow 0 0 a]]⟩]) (st1:=[BQ a,⟨0,116,1,[[ow 3 0 a]]⟩]) [3,1] AA AA (.pure (AK λ_=>AA) (.raw AA AA .nil)) (.same AA)).trans (Ao (L:=[(2,Dh)]) (.same AA))) (Ch (x:=.tmp 2) (off:=0) (cs:=[ow 0 0 a]) (vs:=[ow 0 0 a]) LY AA AA AA qK rfl _ ⟨AA,AA⟩)))
theorem Um {N:Nat}{p0:(List Bh)}{r:(List Bh)}(h0:Kh N p0=some r):AS Tryz.prog 81 [ls Bv p0] [] (λv st=>v=(ow 0 0 r)/\st=[ZN r]):=by
 unfold Kh at h0;refine ai Tryz.func81 AA AA AA AA (zr tb AA AA (sr AA λK q=>zq tb AA (zl tb AA AA (bs h0 λA t h0=>OQ (m:=0) (st':=[ZN A]) (enc:=(Cv 3)) (u:=(Bh.mk [])) KV AA AA ⟨.inr ⟨AA,_,_,AA,by decide⟩,mD⟩ t AA AA (zq tb AA (dn q AA (AD λC x=>zr tb AA AA (bs h0 λy b h0=>?_))))))));have D:∀(g:(List Bh)),y=g->∀s,Wk 0 s ⟨23,AN [(3,ow 0 0 g)],[ZN g]⟩->C s:=by
  intro g M s E;subst y;try dsimp only at h0
  refine x _ (AJ E (zr tb AA AA ?_));obtain rfl:=Sh.AB h0;exact rt [(2,ow 0 0 g)]
 refine AL (Af (σ:=Int×(List Bh)) (λn v=>F5 N p0 n v.1 v.2=some y) (λ(d,f)=>⟨23,AN [(0,ls Bv p0),(3,ow 0 0 f),(4,i64 d)],[ro 0 116 1 (Cv 3) f]⟩) N (0,A) b (AI AA) (λ_ B=>by rw[F5]at B;cases B) ?_);rintro n ⟨d,f⟩ b;try dsimp only at b⊢
 rw[F5]at b;refine AD λF h=>sr AA λG k=>zm tb 2 AA (zl tb AA AA (zq tb AA (dn k AA ?_)));refine ci b AA ?_ ?_<;>clear b<;>intro H b
 ·refine AG (h _ (AD λI l=>AL (AF AA (zm tb 4 AA (bs b λJ o b=>zx jU o AA AA AA (zq tb AA (bs b λa p b=>BE (v':=(.agg [ow 1 0 a.fields])) AR (hb 131) (V5 p) rfl AA ⟨(Ay λ_=>AA),mD⟩ AA AA (bs b λz e b=>zz (TP d) (Cb KV AA AA AA AA e) rfl ?_))))))));refine SL (st':=[⟨0,116,1,hole f (Cv 3) d [ow 1 0 a.fields]⟩,ro 0 3 1 eI a.fields]) AR LY AA AA e AA AA AA qO rfl AA ?_;refine Aa (Wk.take (id:=0) (m:=1) (j:=0) (i:=d) (c:=z) (ys:=a.fields) (encY:=eI) rfl e AA AA AA (by decide) qN (λ_=>AA) rfl AA) ?_;refine Aa (Ev (id:=0) (i:=d) (u:=a) rfl AA AA) (dn l AA (AF AA (zm tb 3 AA ?_)));exact AE (xi (Sh.w (d+1),Sh.put f d a) b (by refine Wk.trans (Ab (L:=[(0,.sl (List.map Bv p0)),(3,.own 0 0 (List.length f)),(4,i64 (Sh.w (d+1)))]) (st':=[⟨0,116,1,List.map (Cv 3) (Sh.put f d a)⟩]) [0] AA AA (.deep (AP λ_=>AA) .nil) ⟨.rfl,.rfl,.rfl,mD⟩) ?_;exact Ao (L:=[(0,.sl (List.map Bv p0)),(3,.own 0 0 (List.length (Sh.put f d a))),(4,i64 (Sh.w (d+1)))]) ⟨.rfl,(.len (by simp only[Sh.Au])),.rfl,mD⟩))
 ·exact Ah (D f (Sh.AB b).symm _ (AI AA))
theorem Uk {N:Nat}{p0 r:Ac}(h0:LK N p0=some r):AS Tryz.prog 41 [OJ p0] [] (λv st=>v=(.agg (iG r))/\st=[ro 0 116 1 (Cv 3) r.cons]):=by
 unfold LK at h0;refine AS.wk (r0:=(.agg (iG r))) (st0:=[ro 0 116 1 (Cv 3) r.cons,⟨0,83,3,[iG r]⟩]) ?_ (GA (L:=[(0,.agg (iG r))]) (st':=[ro 0 116 1 (Cv 3) r.cons]) [0] AA (by decide) rfl AA (.deep (AP λ_=>AA) mD) (.same AA));refine ai Tryz.func41 AA AA AA AA (sr AA λi b=>Aw (m:=0) AR AA AA AA AA AA (Al (m:=1) AR GY AA AA (dn b AA (sr AA λj c=>Al (m:=2) AR GY AA AA (dn c AA (sr AA λk d=>zm tb 3 AA (Aq AR Ie AA AA AA AA AA AA (show 0+1<=3 by decide) rfl (dn d AA ?_))))))));refine sr AA λl e=>zm tb 3 AA (Aq AR Ie AA AA AA AA AA AA (show 1+1<=3 by decide) rfl (dn e AA (sr AA λn f=>zm tb 2 AA (bs h0 λa g h0=>BE (v':=(ow 3 0 a)) AR (hb 81) (Um g) rfl AA ⟨(AP λ_=>AA),mD⟩ AA AA (zq tb AA (Aq AR RO AA AA AA AA AA AA (show 2+1<=3 by decide) rfl (dn f AA (sr AA λo h=>?_))))))));refine zq tb AA (Aq AR I9 AA AA AA AA AA AA qJ rfl (dn h AA ?_));obtain rfl:=Sh.AB h0;exact BG (Exists.intro _ (And.intro ((CP (L:=[(2,Dh)]) (st':=[ZN a,⟨0,83,3,[[i64 p0.from_,i64 p0.to,ow 0 0 a]]⟩]) (st1:=[ZN a,⟨0,83,3,[[i64 p0.from_,i64 p0.to,ow 3 0 a]]⟩]) [3,1] AA AA (.deep (AP λ_=>AA) (.raw AA AA .nil)) (.same AA)).trans (Ao (L:=[(2,Dh)]) (.same AA))) (Ch (x:=.tmp 2) (off:=0) (cs:=[i64 p0.from_,i64 p0.to,ow 0 0 a]) (vs:=[i64 p0.from_,i64 p0.to,ow 0 0 a]) I9 AA AA AA qJ rfl _ ⟨AA,AA⟩)))
theorem T2 {N:Nat}{p0:(List Ac)}{r:(List Ac)}(h0:J1 N p0=some r):AS Tryz.prog 16 [EG p0] [] (λv st=>v=(ow 0 0 r)/\st=[HJ r]):=by
 unfold J1 at h0;refine ai Tryz.func16 AA AA AA AA (zr tb AA AA (sr AA λK q=>zq tb AA (zl tb AA AA (bs h0 λA t h0=>OQ (m:=0) (st':=[HJ A]) (enc:=(Az 116 3)) (u:=(Ac.mk 0 0 [])) Dl AA AA ⟨.inl ⟨AA,AA⟩,⟨.inl ⟨AA,AA⟩,⟨.inr ⟨AA,_,_,AA,by decide⟩,mD⟩⟩⟩ t AA AA (zq tb AA (dn q AA (AD λC x=>zr tb AA AA (bs h0 λy b h0=>?_))))))));have D:∀(g:(List Ac)),y=g->∀s,Wk 0 s ⟨23,AN [(3,ow 0 0 g)],[HJ g]⟩->C s:=by
  intro g M s E;subst y;try dsimp only at h0
  refine x _ (AJ E (zr tb AA AA ?_));obtain rfl:=Sh.AB h0;exact rt [(2,ow 0 0 g)]
 refine AL (Af (σ:=Int×(List Ac)) (λn v=>Fh N p0 n v.1 v.2=some y) (λ(d,f)=>⟨23,AN [(0,ls Am p0),(3,ow 0 0 f),(4,i64 d)],[ro 0 83 3 (Az 116 3) f]⟩) N (0,A) b (AI AA) (λ_ B=>by rw[Fh]at B;cases B) ?_);rintro n ⟨d,f⟩ b;try dsimp only at b⊢
 rw[Fh]at b;refine AD λF h=>sr AA λG k=>zm tb 2 AA (zl tb AA AA (zq tb AA (dn k AA ?_)));refine ci b AA ?_ ?_<;>clear b<;>intro H b
 ·refine AG (h _ (AD λI l=>AL (AF AA (zm tb 4 AA (bs b λJ o b=>zx jb o AA AA AA (zq tb AA (bs b λa p b=>BE (v':=(.agg [i64 a.from_,i64 a.to,ow 1 0 a.cons])) AR (hb 41) (Uk p) rfl AA ⟨(AP λ_=>AA),mD⟩ AA AA (bs b λz e b=>zz (TP d) (Cb Dl AA AA AA AA e) rfl ?_))))))));refine SL (st':=[⟨0,83,3,hole f (Az 116 3) d [i64 a.from_,i64 a.to,ow 1 0 a.cons]⟩,ro 0 116 1 (Cv 3) a.cons]) AR I9 AA AA e AA AA AA (show 3<=3 by decide) rfl AA ?_;refine Aa (Wk.take (id:=0) (m:=1) (j:=2) (i:=d) (c:=z) (ys:=a.cons) (encY:=(Cv 3)) rfl e AA AA AA (by decide) qN (λ_=>AA) rfl AA) ?_;refine Aa (Ev (id:=0) (i:=d) (u:=a) rfl AA AA) (dn l AA (AF AA (zm tb 3 AA ?_)));exact AE (xi (Sh.w (d+1),Sh.put f d a) b (by refine Wk.trans (Ab (L:=[(0,.sl (List.map Am p0)),(3,.own 0 0 (List.length f)),(4,i64 (Sh.w (d+1)))]) (st':=[⟨0,83,3,List.map (Az 116 3) (Sh.put f d a)⟩]) [0] AA AA (.deep (AP λ_=>AA) .nil) ⟨.rfl,.rfl,.rfl,mD⟩) ?_;exact Ao (L:=[(0,.sl (List.map Am p0)),(3,.own 0 0 (List.length (Sh.put f d a))),(4,i64 (Sh.w (d+1)))]) ⟨.rfl,(.len (by simp only[Sh.Au])),.rfl,mD⟩))
 ·exact Ah (D f (Sh.AB b).symm _ (AI AA))
theorem SZ {N:Nat}{qm:Block->Option (Block)}(rL :∀{p0:Block} {r:Block},qm p0=some r->AS Tryz.prog 83 [DH p0] [] (λv st=>v=(PH r)/\st=[HL r])){p0:(List Block)}{r:(List Block)}(h0:Kg N qm p0=some r):AS Tryz.prog 155 [ls Bq p0] [] (λv st=>v=(ow 0 0 r)/\st=[IQ r]):=by
 unfold Kg at h0;refine ai Tryz.func155 AA AA AA AA (zr tb AA AA (sr AA λK q=>zq tb AA (zl tb AA AA (bs h0 λA t h0=>OQ (m:=0) (st':=[IQ A]) (enc:=(Co 3 52 97)) (u:=(Block.mk [] 0)) JF AA AA ⟨.inr ⟨AA,_,_,AA,by decide⟩,⟨.inl ⟨AA,AA⟩,mD⟩⟩ t AA AA (zq tb AA (dn q AA (AD λC x=>zr tb AA AA (bs h0 λy b h0=>?_))))))));have D:∀(g:(List Block)),y=g->∀s,Wk 0 s ⟨23,AN [(3,ow 0 0 g)],[IQ g]⟩->C s:=by
  intro g M s E;subst y;try dsimp only at h0
  refine x _ (AJ E (zr tb AA AA ?_));obtain rfl:=Sh.AB h0;exact rt [(2,ow 0 0 g)]
 refine AL (Af (σ:=Int×(List Block)) (λn v=>Eg p0 qm n v.1 v.2=some y) (λ(d,f)=>⟨23,AN [(0,ls Bq p0),(3,ow 0 0 f),(4,i64 d)],[ro 0 52 2 (Co 3 52 97) f]⟩) N (0,A) b (AI AA) (λ_ B=>by rw[Eg]at B;cases B) ?_);rintro n ⟨d,f⟩ b;try dsimp only at b⊢
 rw[Eg]at b;refine AD λF h=>sr AA λG k=>zm tb 2 AA (zl tb AA AA (zq tb AA (dn k AA ?_)));refine ci b AA ?_ ?_<;>clear b<;>intro H b
 ·refine AG (h _ (AD λI l=>AL (AF AA (zm tb 4 AA (bs b λJ o b=>zx gh o AA AA AA (zq tb AA (bs b λa p b=>BE (v':=(.agg (Yw a))) AR (hb 83) (rL p) rfl AA ⟨AP An,mD⟩ AA AA (bs b λz e b=>zz (TP d) (Cb JF AA AA AA AA e) rfl ?_))))))));refine SL (st':=[⟨0,52,2,hole f (Co 3 52 97) d (Yw a)⟩,HL a]) AR Ho AA AA e AA AA AA (show 2<=2 by decide) rfl AA ?_;refine Aa (Wk.take (id:=0) (m:=1) (j:=0) (i:=d) (c:=z) (ys:=a.steps) (encY:=(Bu 3 52 97)) rfl e AA AA AA (by decide) qN Jp AA AA) ?_;refine Aa (Ev (id:=0) (i:=d) (u:=a) rfl AA AA) (dn l AA (AF AA (zm tb 3 AA ?_)));exact AE (xi (Sh.w (d+1),Sh.put f d a) b (by refine Wk.trans (Ab (L:=[(0,.sl (List.map Bq p0)),(3,.own 0 0 (List.length f)),(4,i64 (Sh.w (d+1)))]) (st':=[⟨0,52,2,List.map (Co 3 52 97) (Sh.put f d a)⟩]) [0] AA AA (.deep (AP λ_=>AA) .nil) ⟨.rfl,.rfl,.rfl,mD⟩) ?_;exact Ao (L:=[(0,.sl (List.map Bq p0)),(3,.own 0 0 (List.length (Sh.put f d a))),(4,i64 (Sh.w (d+1)))]) ⟨.rfl,(.len (by simp only[Sh.Au])),.rfl,mD⟩))
 ·exact Ah (D f (Sh.AB b).symm _ (AI AA))
theorem Us {N:Nat}{qm:Block->Option (Block)}(rL :∀{p0:Block} {r:Block},qm p0=some r->AS Tryz.prog 83 [DH p0] [] (λv st=>v=(PH r)/\st=[HL r])){p0 r:Step}(h0:Kw N qm p0=some r):AS Tryz.prog 150 [Mb p0] [] (λv st=>v=(.agg (Z1 r))/\st=(Oz r [])):=by
 unfold Kw at h0;refine AS.wk (r0:=(.agg (Z1 r))) (st0:=(Oz r [⟨0,97,5,[Z1 r]⟩])) ?_ (GA (L:=[(0,.agg (Z1 r))]) (st':=(Oz r [])) [0,1] AA (by decide) rfl AA (.pure (AK λ_=>AA) (.deep (AP λ_=>AA) mD)) (.same AA));refine ai Tryz.func150 AA AA AA AA (sr AA λo d=>Aw (m:=0) AR AA AA AA AA AA (Al (m:=1) AR Nl AA AA (dn d AA (sr AA λp e=>Al (m:=2) AR Nl AA AA (dn e AA (sr AA λq f=>zm tb 3 AA (Aq AR Ie AA AA AA AA AA AA qZ rfl (dn f AA ?_))))))));refine sr AA λs g=>zm tb 3 AA (Aq AR Ie AA AA AA AA AA AA qa rfl (dn g AA (sr AA λt h=>zm tb 3 AA (Aq AR Ie AA AA AA AA AA AA qV rfl (dn h AA (sr AA λu i=>zm tb 2 AA (bs h0 λa j h0=>BE (v':=(ow 3 0 a)) AR (hb 82) (KA j) rfl AA ⟨(Ay λ_=>AA),mD⟩ AA AA ?_)))))));refine zq tb AA (Aq AR Ky AA AA AA AA AA AA (show 3+1<=5 by decide) rfl (dn i AA (sr AA λw k=>zm tb 2 AA (bs h0 λb l h0=>BE (v':=(ow 4 0 b)) AR (hb 155) (SZ rL l) rfl AA ⟨(AP λ_=>AA),mD⟩ AA AA (zq tb AA (Aq AR cX AA AA AA AA AA AA qb rfl (dn k AA (sr AA λn c=>zq tb AA ?_))))))));refine Aq AR L6 AA AA AA AA AA AA qG rfl (dn c AA ?_);obtain rfl:=Sh.AB h0;exact BG (Exists.intro _ (And.intro ((CP (L:=[(2,G6)]) (st':=[BQ a,IQ b,⟨0,97,5,[kN p0 a b]⟩]) (st1:=[BQ a,IQ b,⟨0,97,5,[[i64 p0.op,i64 p0.num,i64 p0.BB,ow 3 0 a,ow 4 0 b]]⟩]) [3,4,1] AA AA (.pure (AK λ_=>AA) (.deep (AP λ_=>AA) (.raw AA AA .nil))) (.same AA)).trans (Ao (L:=[(2,G6)]) (.same AA))) (Ch (x:=.tmp 2) (off:=0) (cs:=(kN p0 a b)) (vs:=(kN p0 a b)) L6 AA AA AA qG rfl _ ⟨AA,AA⟩)))
theorem Tz {N:Nat}{qm:Block->Option (Block)}(rL :∀{p0:Block} {r:Block},qm p0=some r->AS Tryz.prog 83 [DH p0] [] (λv st=>v=(PH r)/\st=[HL r])){p0:(List Step)}{r:(List Step)}(h0:Ls N qm p0=some r):AS Tryz.prog 132 [ls Bx p0] [] (λv st=>v=(ow 0 0 r)/\st=[HN r]):=by
 unfold Ls at h0;refine ai Tryz.func132 AA AA AA AA (zr tb AA AA (sr AA λK t=>zq tb AA (zl tb AA AA (bs h0 λB x h0=>?_))));refine OQ (m:=0) (st':=[ro 0 97 5 (Bu 3 52 97) B]) (enc:=(Bu 3 52 97)) (u:=(Step.mk 0 0 0 [] [])) DT AA AA (by rw[DK];exact⟨.inl ⟨AA,AA⟩,⟨.inl ⟨AA,AA⟩,⟨.inl ⟨AA,AA⟩,⟨.inr ⟨AA,_,_,AA,by decide⟩,⟨.inr ⟨AA,_,_,AA,by decide⟩,mD⟩⟩⟩⟩⟩) x AA AA ?_;refine zq tb AA (dn t AA (AD λD y=>zr tb AA AA (bs h0 λz b h0=>?_)));have E:∀(g:(List Step)),z=g->∀s,Wk 0 s ⟨23,AN [(3,ow 0 0 g)],[HN g]⟩->D s:=by
  intro g M s F;subst z;try dsimp only at h0
  refine y _ (AJ F (zr tb AA AA ?_));obtain rfl:=Sh.AB h0;exact rt [(2,ow 0 0 g)]
 refine AL (Af (σ:=Int×(List Step)) (λn v=>E0 N p0 qm n v.1 v.2=some z) (λ(e,f)=>⟨23,AN [(0,ls Bx p0),(3,ow 0 0 f),(4,i64 e)],[ro 0 97 5 (Bu 3 52 97) f]⟩) N (0,B) b (AI AA) (λ_ C=>by rw[E0]at C;cases C) ?_);rintro n ⟨e,f⟩ b;try dsimp only at b⊢
 rw[E0]at b;refine AD λG h=>sr AA λH k=>zm tb 2 AA (zl tb AA AA (zq tb AA (dn k AA ?_)));refine ci b AA ?_ ?_<;>clear b<;>intro I b
 ·refine AG (h _ (AD λJ l=>AL (AF AA (zm tb 4 AA (bs b λA o b=>zz (Lj A) (E3 jX AA AA o (CK _) rfl) rfl (zq tb AA (bs b λa p b=>BE (v':=(.agg [i64 a.op,i64 a.num,i64 a.BB,ow 1 0 a.args,ow 2 0 a.kids])) AR (hb 150) (Us rL p) rfl AA ⟨(Ay λ_=>AA),⟨(AP λ_=>AA),mD⟩⟩ AA AA (bs b λq d b=>zz (TP e) (Cb DT AA AA AA AA d) rfl ?_))))))));refine SL (st':=(⟨0,97,5,hole f (Bu 3 52 97) e [i64 a.op,i64 a.num,i64 a.BB,ow 1 0 a.args,ow 2 0 a.kids]⟩::Oz a [])) AR L6 AA AA d AA AA AA (show 5<=5 by decide) (Y8 _) rfl ?_;refine Aa (Wk.take (id:=0) (m:=1) (j:=3) (i:=e) (c:=q) (ys:=a.args) (encY:=eI) rfl d AA AA AA (by decide) qN (λ_=>AA) rfl AA) ?_;refine Aa (Wk.take (id:=0) (m:=2) (j:=4) (i:=e) (c:=q) (ys:=a.kids) (encY:=(Co 3 52 97)) rfl d AA AA AA (by decide) qI (λ_=>AA) rfl AA) ?_;refine Aa (Ev (id:=0) (i:=e) (u:=a) rfl (DK a).symm AA) (dn l AA (AF AA (zm tb 3 AA ?_)));exact AE (xi (Sh.w (e+1),Sh.put f e a) b (by refine Wk.trans (Ab (L:=[(0,.sl (List.map Bx p0)),(3,.own 0 0 (List.length f)),(4,i64 (Sh.w (e+1)))]) (st':=[⟨0,97,5,List.map (Bu 3 52 97) (Sh.put f e a)⟩]) [0] AA AA (.deep (AP An) .nil) ⟨.rfl,.rfl,.rfl,mD⟩) ?_;exact Ao (L:=[(0,.sl (List.map Bx p0)),(3,.own 0 0 (List.length (Sh.put f e a))),(4,i64 (Sh.w (e+1)))]) ⟨.rfl,(.len (by simp only[Sh.Au])),.rfl,mD⟩))
 ·exact Ah (E f (Sh.AB b).symm _ (AI AA))
theorem SD {N:Nat}{qm:Block->Option (Block)}(rL :∀{p0:Block} {r:Block},qm p0=some r->AS Tryz.prog 83 [DH p0] [] (λv st=>v=(PH r)/\st=[HL r])){p0 r:Block}(h0:KI N qm p0=some r):AS Tryz.prog 83 [DH p0] [] (λv st=>v=(PH r)/\st=[HL r]):=by
 unfold KI at h0;refine AS.wk (r0:=(PH r)) (st0:=(kM r)) ?_ (GA (L:=[(0,PH r)]) (st':=[HL r]) [0] AA (by decide) rfl AA (.deep (AP An) mD) (.same AA));refine ai Tryz.func83 AA AA AA AA (sr AA λh b=>Aw (m:=0) AR AA AA AA AA AA (Al (m:=1) AR Hq AA AA (dn b AA (sr AA λi c=>Al (m:=2) AR Hq AA AA (dn c AA (sr AA λj d=>zm tb 2 AA (bs h0 λa e h0=>BE (v':=(ow 3 0 a)) AR (hb 132) (Tz rL e) rfl AA ⟨AP An,mD⟩ AA AA ?_)))))));refine zq tb AA (Aq AR UZ AA AA AA AA AA AA qP rfl (dn d AA (sr AA λk f=>zm tb 3 AA (Aq AR Ie AA AA AA AA AA AA qS rfl (dn f AA (sr AA λl g=>zq tb AA (Aq AR Ho AA AA AA AA AA AA qD rfl (dn g AA ?_))))))));obtain rfl:=Sh.AB h0;exact BG (Exists.intro _ (And.intro ((CP (L:=[(2,Dh)]) (st':=[HN a,⟨0,52,2,[O8 a p0.result]⟩]) (st1:=[HN a,ZX a p0.result]) [3,1] AA AA (.deep (AP An) (.raw AA AA .nil)) (.same AA)).trans (Ao (L:=[(2,Dh)]) (.same AA))) (Ch (x:=.tmp 2) (off:=0) (cs:=(O8 a p0.result)) (vs:=(O8 a p0.result)) Ho AA AA AA qD rfl _ ⟨AA,AA⟩)))
theorem Rh {N:Nat}:∀(n:Nat),∀{p0:Block} {r:Block},Gf N n p0=some r->AS Tryz.prog 83 [DH p0] [] (λv st=>v=(PH r)/\st=[HL r]):=by
 intro n
 induction n with
 | zero=>intro p0 r a;cases a
 | succ n ih=>
  intro p0 r a;rw[Gf]at a;exact SD (λh=>ih h) a
theorem UG {N:Nat}:∀{p0:Block} {r:Block},L3 N p0=some r->AS Tryz.prog 83 [DH p0] [] (λv st=>v=(PH r)/\st=[HL r]):=by
 intro p0 r a;exact Rh N a
theorem Ry {N:Nat}{p0 r:Ad}(h0:Ix N p0=some r):AS Tryz.prog 42 [Wc p0] [] (λv st=>v=(.agg (iP r))/\st=[BQ r.params,BQ r.Ar,gn r]):=by
 unfold Ix at h0;refine AS.wk (r0:=(.agg (iP r))) (st0:=[BQ r.params,BQ r.Ar,gn r,⟨0,54,5,[iP r]⟩]) ?_ (GA (L:=[(0,.agg (iP r))]) (st':=[BQ r.params,BQ r.Ar,gn r]) [0,1,2] AA (by decide) rfl AA (.pure (AK λ_=>AA) (.pure (AK λ_=>AA) (.deep (AP An) mD))) (.same AA));refine ai Tryz.func42 AA AA AA AA (sr AA λp e=>Aw (m:=0) AR AA AA AA AA AA (Al (m:=1) AR Ni AA AA (dn e AA (sr AA λq f=>Al (m:=2) AR Ni AA AA (dn f AA (sr AA λs g=>zm tb 2 AA (bs h0 λb h h0=>BE (v':=(ow 3 0 b)) AR (hb 82) (KA h) rfl AA ⟨(Ay λ_=>AA),mD⟩ AA AA ?_)))))));refine zq tb AA (Aq AR Ky AA AA AA AA AA AA qZ rfl (dn g AA (sr AA λt i=>zm tb 2 AA (bs h0 λc j h0=>BE (v':=(ow 4 0 c)) AR (hb 82) (KA j) rfl AA ⟨(Ay λ_=>AA),mD⟩ AA AA (zq tb AA (Aq AR Ky AA AA AA AA AA AA qa rfl (dn i AA (sr AA λu k=>zm tb 3 AA ?_))))))));refine Aq AR Ie AA AA AA AA AA AA qV rfl (dn k AA (sr AA λw l=>zm tb 2 AA (bs h0 λa n h0=>BE (v':=(.agg [ow 5 0 a.steps,i64 a.result])) AR (hb 83) (UG n) rfl AA ⟨AP An,mD⟩ AA AA (zq tb AA (Aq AR Ho AA AA AA AA AA AA (show 3+2<=5 by decide) rfl (dn l AA (sr AA λo d=>zq tb AA (Aq AR Nv AA AA AA AA AA AA qG rfl ?_))))))));refine dn d AA ?_;obtain rfl:=Sh.AB h0;exact BG (Exists.intro _ (And.intro ((CP (L:=[(2,Ue)]) (st':=[BQ b,BQ c,HL a,⟨0,54,5,[[ow 0 0 b,ow 1 0 c,i64 p0.result,ow 2 0 a.steps,i64 a.result]]⟩]) (st1:=[BQ b,BQ c,HL a,⟨0,54,5,[[ow 3 0 b,ow 4 0 c,i64 p0.result,ow 5 0 a.steps,i64 a.result]]⟩]) [3,4,5,1] AA AA (.pure (AK λ_=>AA) (.pure (AK λ_=>AA) (.deep (AP An) (.raw AA AA .nil)))) (.same AA)).trans (Ao (L:=[(2,Ue)]) (.same AA))) (Ch (x:=.tmp 2) (off:=0) (cs:=[ow 0 0 b,ow 1 0 c,i64 p0.result,ow 2 0 a.steps,i64 a.result]) (vs:=[ow 0 0 b,ow 1 0 c,i64 p0.result,ow 2 0 a.steps,i64 a.result]) Nv AA AA AA qG rfl _ ⟨AA,AA⟩)))
theorem Qs {N:Nat}{p0:(List Ad)}{r:(List Ad)}(h0:IF N p0=some r):AS Tryz.prog 17 [ls Aj p0] [] (λv st=>v=(ow 0 0 r)/\st=[Lg r]):=by
 unfold IF at h0;refine ai Tryz.func17 AA AA AA AA (zr tb AA AA (sr AA λK t=>zq tb AA (zl tb AA AA (bs h0 λA x h0=>OQ (m:=0) (st':=[Lg A]) (enc:=(At 3 3 3 52 97)) (u:=(Ad.mk [] [] 0 (Block.mk [] 0))) GZ AA AA ⟨.inr ⟨AA,_,_,AA,by decide⟩,⟨.inr ⟨AA,_,_,AA,by decide⟩,⟨.inl ⟨AA,AA⟩,⟨.inr ⟨AA,_,_,AA,by decide⟩,⟨.inl ⟨AA,AA⟩,mD⟩⟩⟩⟩⟩ x AA AA (zq tb AA (dn t AA (AD λC y=>zr tb AA AA (bs h0 λz d h0=>?_))))))));have D:∀(h:(List Ad)),z=h->∀s,Wk 0 s ⟨23,AN [(3,ow 0 0 h)],[Lg h]⟩->C s:=by
  intro h M s E;subst z;try dsimp only at h0
  refine y _ (AJ E (zr tb AA AA ?_));obtain rfl:=Sh.AB h0;exact rt [(2,ow 0 0 h)]
 refine AL (Af (σ:=Int×(List Ad)) (λn v=>ET N p0 n v.1 v.2=some z) (λ(e,f)=>⟨23,AN [(0,ls Aj p0),(3,ow 0 0 f),(4,i64 e)],[ro 0 54 5 (At 3 3 3 52 97) f]⟩) N (0,A) d (AI AA) (λ_ B=>by rw[ET]at B;cases B) ?_);rintro n ⟨e,f⟩ d;try dsimp only at d⊢
 rw[ET]at d;refine AD λF k=>sr AA λG l=>zm tb 2 AA (zl tb AA AA (zq tb AA (dn l AA ?_)));refine ci d AA ?_ ?_<;>clear d<;>intro H d
 ·refine AG (k _ (AD λI o=>AL (AF AA (zm tb 4 AA (bs d λJ p d=>zx jd p AA AA AA (zq tb AA (bs d λa q d=>BE (v':=(.agg [ow 1 0 a.params,ow 2 0 a.Ar,i64 a.result,ow 3 0 a.body.steps,i64 a.body.result])) AR (hb 42) (Ry q) rfl AA ⟨(Ay λ_=>AA),⟨(Ay λ_=>AA),⟨AP An,mD⟩⟩⟩ AA AA (bs d λg b d=>zz (TP e) (Cb GZ AA AA AA AA b) rfl ?_))))))));refine SL (st':=[⟨0,54,5,hole f (At 3 3 3 52 97) e [ow 1 0 a.params,ow 2 0 a.Ar,i64 a.result,ow 3 0 a.body.steps,i64 a.body.result]⟩,BQ a.params,BQ a.Ar,gn a]) AR Nv AA AA b AA AA AA (show 5<=5 by decide) rfl AA ?_;refine Aa (Wk.take (id:=0) (m:=1) (j:=0) (i:=e) (c:=g) (ys:=a.params) (encY:=eI) rfl b AA AA AA (by decide) qN (λ_=>AA) rfl AA) ?_;refine Aa (Wk.take (id:=0) (m:=2) (j:=1) (i:=e) (c:=g) (ys:=a.Ar) (encY:=eI) rfl b AA AA AA (by decide) qI (λ_=>AA) rfl AA) ?_;refine Aa (Wk.take (id:=0) (m:=3) (j:=3) (i:=e) (c:=g) (ys:=a.body.steps) (encY:=(Bu 3 52 97)) rfl b AA AA AA (by decide) qQ Jp AA AA) ?_;refine Aa (Ev (id:=0) (i:=e) (u:=a) rfl AA AA) (dn o AA (AF AA (zm tb 3 AA ?_)));exact AE (xi (Sh.w (e+1),Sh.put f e a) d (by refine Wk.trans (Ab (L:=[(0,.sl (List.map Aj p0)),(3,.own 0 0 (List.length f)),(4,i64 (Sh.w (e+1)))]) (st':=[⟨0,54,5,List.map (At 3 3 3 52 97) (Sh.put f e a)⟩]) [0] AA AA (.deep (AP λ_=>AA) .nil) ⟨.rfl,.rfl,.rfl,mD⟩) ?_;exact Ao (L:=[(0,.sl (List.map Aj p0)),(3,.own 0 0 (List.length (Sh.put f e a))),(4,i64 (Sh.w (e+1)))]) ⟨.rfl,(.len (by simp only[Sh.Au])),.rfl,mD⟩))
 ·exact Ah (D f (Sh.AB d).symm _ (AI AA))
theorem JB {N:Nat}{p0 r:AT}(h0:GM N p0=some r):AS Tryz.prog 6 [G2 p0] [] (λv st=>v=(.agg (bz r))/\st=[HJ r.decls,Oq r]):=by
 unfold GM at h0;refine AS.wk (r0:=(.agg (bz r))) (st0:=[HJ r.decls,Oq r,⟨0,30,2,[bz r]⟩]) ?_ (GA (L:=[(0,.agg (bz r))]) (st':=[HJ r.decls,Oq r]) [0,1] AA (by decide) rfl AA (.deep (AP λ_=>AA) (.deep (AP λ_=>AA) mD)) (.same AA));refine ai Tryz.func6 AA AA AA AA (sr AA λj c=>Aw (m:=0) AR AA AA AA AA AA (Al (m:=1) AR KW AA AA (dn c AA (sr AA λk d=>Al (m:=2) AR KW AA AA (dn d AA (sr AA λl e=>zm tb 2 AA (bs h0 λa f h0=>BE (v':=(ow 3 0 a)) AR (hb 16) (T2 f) rfl AA ⟨(AP λ_=>AA),mD⟩ AA AA ?_)))))));refine zq tb AA (Aq AR lX AA AA AA AA AA AA qP rfl (dn e AA (sr AA λn g=>zm tb 2 AA (bs h0 λb h h0=>BE (v':=(ow 4 0 b)) AR (hb 17) (Qs h) rfl AA ⟨(AP λ_=>AA),mD⟩ AA AA (zq tb AA (Aq AR fD AA AA AA AA AA AA qS rfl (dn g AA (sr AA λo i=>zq tb AA ?_))))))));refine Aq AR Hs AA AA AA AA AA AA qD rfl (dn i AA ?_);obtain rfl:=Sh.AB h0;exact BG (Exists.intro _ (And.intro ((CP (L:=[(2,G6)]) (st':=(ko a b)) (st1:=[HJ a,Lg b,fZ a b]) [3,4,1] AA AA (.deep (AP λ_=>AA) (.deep (AP λ_=>AA) (.raw AA AA .nil))) (.same AA)).trans (Ao (L:=[(2,G6)]) (.same AA))) (Ch (x:=.tmp 2) (off:=0) (cs:=[ow 0 0 a,ow 1 0 b]) (vs:=[ow 0 0 a,ow 1 0 b]) Hs AA AA AA qD rfl _ ⟨AA,AA⟩)))
theorem Uf {N:Nat}{p0:AT}{r:EM}(h0:LA N p0=some r):AS Tryz.prog 114 [G2 p0] [] (λv st=>v=(.agg [EG r.decls,ls Il r.funcs])/\st=[]):=by
 unfold LA at h0;refine FK AA (ai Tryz.func114 AA AA AA AA (sr AA λG o=>Aw (m:=0) AR AA AA AA AA AA (Al (m:=1) AR bQ AA AA (dn o AA (sr AA λH p=>zm tb 2 AA ?_)))));refine CE (m:=2) (l:=([]:List IK)) (enc:=Il) AR T7 (by decide) rfl AA AA AA AA AA ?_;refine zz (.agg [EG p0.decls,.own 2 0 (List.length ([]:List IK))]) (Fo kK jt bQ AA AA) rfl (Al (m:=3) AR bQ AA AA (Aq AR ae AA AA AA AA AA AA qD rfl (dn p AA (AD λz q=>zr tb AA AA (bs h0 λt b h0=>?_)))));have A:∀(c:(List IK)),t=c->∀s,Wk 0 s ⟨35,AN [(2,Bm),(3,G6)],[fJ,ro 0 178 5 Il c,⟨0,152,2,[[EG p0.decls,ow 1 0 c]]⟩]⟩->z s:=by
  intro c I s B;subst t;try dsimp only at h0
  refine q _ (AJ B (sr AA λJ u=>zq tb AA (Aa (Wk.CQ (L:=[(2,Bm),(34,.agg [EG p0.decls,ls Il c])]) (st':=[fJ,⟨1,178,5,[]⟩,⟨0,152,2,[[EG p0.decls,ow 1 0 c]]⟩]) (id:=1) rfl qN (AK λ_=>AA) ⟨.rfl,.agg ⟨.rfl,.Hr AA,mD⟩,mD⟩ AA) (Aq AR ae AA AA AA AA AA AA qD rfl (dn u AA ?_)))));obtain rfl:=Sh.AB h0;exact BG (Exists.intro _ (And.intro (Wk.refl _ _) (Ch (x:=.tmp 2) (off:=0) (cs:=[EG p0.decls,ls Il c]) (vs:=[EG p0.decls,ls Il c]) ae AA AA AA qD rfl _ AA)))
 refine AL (Af (σ:=Int×(List IK)) (λn v=>FT p0 n v.1 v.2=some t) (λ(k,d)=>⟨35,AN [(1,.ptr 0 0 0 0),(2,.ptr 1 0 0 0),(3,.ptr 3 0 0 0),(4,i64 k)],[Rb p0.decls p0.AH,⟨0,152,2,[[.zc,.zc]]⟩,ro 0 178 5 Il d,⟨0,152,2,[[ls Am p0.decls,ow 2 0 d]]⟩]⟩) N (0,[]) b (AI AA) (λ_ y=>by rw[FT]at y;cases y) ?_);rintro n ⟨k,d⟩ b;try dsimp only at b⊢
 rw[FT]at b;refine AD λC g=>sr AA λD h=>zm tb 3 AA (zl tb AA AA (zq tb AA (dn h AA ?_)));refine ci b AA ?_ ?_<;>clear b<;>intro E b
 ·refine AG (g _ (AD λF i=>AL ?_));refine CC 16 (by kernel_rfl) (by kernel_rfl) (by rfl) ?_;iterate 5 refine yq tb rfl ?_
  refine bs b λa e b=>yx GZ e AA AA AA ?_;iterate 5 refine yq tb rfl ?_
  refine yx GZ e AA AA AA ?_;iterate 2 refine yq tb rfl ?_
  refine yz (.agg [Fs a.params,i64 a.result,i64 0,i64 0,.zc]) (Fo ke kg fS AA AA) rfl ?_;refine jy (l:=([IK.mk a.params a.result (Dy.mk 0 0 [])])) (enc:=Il) (pv':=[(0,.agg [Fs a.params,i64 a.result,i64 0,i64 0,.sl (List.map cY [])])]) AR T7 (by decide) rfl AA (.cons (le.agg ⟨le.rfl,le.rfl,le.rfl,le.rfl,le.zc,mD⟩) .nil) rfl AA AA (AK λ_=>AA) ?_;exact BO (bs b λf j b=>Cd (l2:=([IK.mk a.params a.result (Dy.mk 0 0 [])])) AR T7 AA AA AA AA Nq (λ_=>AA) j AA (zq tb AA (Aq AR kr AA AA AA AA AA AA qS rfl (dn i AA (AF AA (zm tb 3 AA (AE (xi (Sh.w (k+1),f) b (CJ (L:=[(1,Bm),(2,Dh),(3,Ue),(4,MO k)]) (st':=[Rb p0.decls p0.AH,fJ,ro 0 178 5 Il f,⟨0,152,2,[[EG p0.decls,ow 2 0 f]]⟩]) (.raw AA AA (.raw AA AA (.pure (AK λ_=>AA) (.raw AA AA .nil)))) (.same AA))))))))))
 ·exact Ah (A d (Sh.AB b).symm _ (CP (L:=[(2,Bm),(3,G6)]) (st':=[fJ,ro 0 178 5 Il d,⟨0,152,2,[[EG p0.decls,ow 1 0 d]]⟩]) (st1:=[fJ,ro 0 178 5 Il d,⟨0,152,2,[[EG p0.decls,ow 2 0 d]]⟩]) [1,2,3] AA AA (.raw AA AA (.pure (AK λ_=>AA) (.raw AA AA .nil))) (.same AA)))
theorem Bk {p0 p1 p2:Int}{r:Bool}(h0:Bd p0 p1 p2=some r):AS Tryz.prog 117 [i64 p0,i64 p1,i64 p2] [] (λv st=>v=(.bool r)/\st=[]):=by
 unfold Bd at h0;refine ai Tryz.func117 AA AA AA AA (zr tb AA AA (AD λg d=>bs h0 λe b h0=>?_));have f:∀(c:Bool),e=c->∀s,Wk 0 s ⟨15,AN [(6,.bool c)],[]⟩->g s:=by
  intro c i s h;subst e;try dsimp only at h0
  refine d _ (AJ h ?_);obtain rfl:=Sh.AB h0;exact rt [(6,.bool c)]
 refine AF AA (zm tb 4 AA ?_);rcases Sh.AU b with ⟨a,b⟩|⟨a,b⟩
 ·exact zg tb a AA (zg tb a AA (zg tb a AA (zt a AA (zq tb AA (AE (f (decide (p0<=p2)) (Sh.AB b).symm _ (AI AA)))))))
 ·exact zs a AA (zs a AA (zs a AA (zf a AA (zq tb AA (AE (f false (Sh.AB b).symm _ (AI AA)))))))
theorem Nt {N:Nat}{p0:(List Ac)}{p1:(List Int)}{r:Bool}(h0:H7 N p0 p1=some r):AS Tryz.prog 145 [EG p0,ls eI p1] [] (λv st=>v=(.bool r)/\st=[]):=by
 unfold H7 at h0;refine ai Tryz.func145 AA AA AA AA (zr tb AA AA (AD λo h=>zr tb AA AA ?_));obtain⟨i,a,h0⟩:=Sh.Av h0;have p:∀(_:Unit),i=Sum.inr ()->∀s,Wk 0 s ⟨20,AN [],[]⟩->o s:=by
  intro _ A s q;subst i;try dsimp only at h0
  refine h _ (AJ q (zr tb AA AA ?_));obtain rfl:=Sh.AB h0;exact rt [(4,.bool true)]
 refine AL (Af (σ:=Int) (λn v=>E9 p0 p1 n v=some i) (λj=>⟨20,AN [(0,ls Am p0),(1,ls eI p1),(5,i64 j)],[]⟩) N 0 a (AI AA) (λ_ m=>by rw[E9]at m;cases m) ?_);rintro n j a;try dsimp only at a⊢
 rw[E9]at a;refine AD λB k=>sr AA λC l=>zm tb 2 AA (zl tb AA AA (zq tb AA (dn l AA ?_)));refine ci a AA ?_ ?_<;>clear a<;>intro D a
 ·refine AG (k _ (AD λt b=>AL (sr AA λu c=>zm tb 2 AA (bs a λx d a=>zx BD d AA AA AA (zm tb 2 AA (zl tb AA AA (bs a λe f a=>zc (hb 117) (Bk f) rfl AA AA (zq tb AA ?_))))))));refine dn c AA ?_;refine ci a AA ?_ ?_<;>clear a<;>intro g a
  ·have y:e=false:=by simpa using g
   refine zr tb AA AA ?_;obtain rfl:=Sh.AB a;try dsimp only[id]at h0
   obtain rfl:=Sh.AB h0;exact rt [(4,.bool false)]
  ·have z:e=true:=by simpa using g
   exact AG (b _ (AF AA (zm tb 3 AA (AE (xi (Sh.w (j+1)) a (AI AA))))))
 ·exact Ah (p () (Sh.AB a).symm _ (AI AA))
theorem SB {N:Nat}{p0:(List Ac)}{p1:Int}{r:Bool}(h0:Iy N p0 p1=some r):AS Tryz.prog 154 (TY p0 p1) [] (λv st=>v=(.bool r)/\st=[]):=by
 unfold Iy at h0;refine ai Tryz.func154 AA AA AA AA (zr tb AA AA (sr AA λK2 Y=>zm tb 2 AA (bs h0 λk Z h0=>zx Dl Z AA AA AA (zq tb AA (Al (m:=0) AR GY AA AA (Aq AR I9 AA AA AA AA AA AA qJ rfl (dn Y AA (AD λK4 b0=>sr AA λK5 b1=>?_))))))));refine zm tb 2 AA (zl tb AA AA (zq tb AA (dn b1 AA ?_)));refine ci h0 AA ?_ ?_<;>clear h0<;>intro b6 h0
 ·refine AD λK7 b2=>AD λK8 b3=>bs h0 λC a h0=>?_;have t:∀(t9:Bool),C=t9->∀s,Wk 0 s ⟨100,AN [(0,EG p0),(5,Bm),(29,.bool t9)],[T3 k]⟩->K8 s:=by
   intro t9 D s i;subst C;try dsimp only at h0
   refine b3 _ (AJ i ?_);refine ci h0 AA ?_ ?_<;>clear h0<;>intro c6 h0
   ·refine zr tb AA AA ?_;obtain rfl:=Sh.AB h0;exact rd [(4,.bool false)]
   ·refine AG (b2 _ (AD λb4 E=>zr tb AA AA ?_));obtain⟨u,a,h0⟩:=Sh.Av h0;have b5:∀(_:Unit),u=Sum.inr ()->∀s,Wk 0 s ⟨100,AN [],[]⟩->b4 s:=by
     intro _ D s i;subst u;try dsimp only at h0
     refine E _ (AJ i (zr tb AA AA ?_));obtain rfl:=Sh.AB h0;exact rt [(4,.bool true)]
    refine AL (Af (σ:=Int) (λn v=>En N k p0 n v=some u) (λl=>⟨100,AN [(0,ls Am p0),(5,.ptr 0 0 0 0),(6,i64 l)],[⟨0,83,3,[Am k]⟩]⟩) N 0 a (AI AA) (λ_ F=>by rw[En]at F;cases F) ?_);rintro n l a;try dsimp only at a⊢
    rw[En]at a;refine AD λc7 G=>sr AA λc8 H=>zm tb 3 AA (zl tb AA AA (zq tb AA (dn H AA ?_)));refine ci a AA ?_ ?_<;>clear a<;>intro c9 a
    ·refine AG (G _ (AD λd1 I=>AL (AD λb7 J=>bs a λK c a=>?_)));have L:∀(x:Bool),K=x->∀s,Wk 0 s ⟨100,AN [(0,EG p0),(5,Bm),(6,i64 l),(55,.bool x)],[T3 k]⟩->b7 s:=by
      intro x D s i;subst K;try dsimp only at a
      refine J _ (AJ i ?_);refine ci a AA ?_ ?_<;>clear a<;>intro d2 a
      ·refine zr tb AA AA ?_;obtain rfl:=Sh.AB a;try dsimp only[id]at h0
       obtain rfl:=Sh.AB h0;exact rd [(4,.bool false)]
      ·exact AG (I _ (AF AA (zm tb 3 AA (AE (xi (Sh.w (l+1)) a (AI AA))))))
     refine AF AA (zm tb 3 AA (bs c λb8 q c=>zx KV q AA AA AA (zm tb 2 AA (zl tb AA AA (zm tb 2 AA ?_)))));rcases Sh.AU c with ⟨b,c⟩|⟨b,c⟩
     ·refine zs b AA ?_;iterate 8 refine zs b rfl ?_
      exact zt b AA (AE (L true (Sh.AB c).symm _ (AI AA)))
     ·refine zg tb b AA ?_;iterate 3 refine zg tb b rfl ?_
      exact Ap (v:=(.Bt (Bv b8) 0)) (BH AA AA b) rfl (Bc KV AA AA q AA) (zg tb b AA (zg tb b AA (bs c λb9 M c=>zd b (hb 145) (Nt M) rfl AA AA AA (zg tb b AA (zf b AA (AE (L (!b9) (Sh.AB c).symm _ (AI AA))))))))
    ·exact Ah (b5 () (Sh.AB a).symm _ (BF _ AA))
  refine AF AA (zm tb 2 AA (zl tb AA AA (zm tb 2 AA ?_)));rcases Sh.AU a with ⟨e,a⟩|⟨e,a⟩
  ·refine zs e AA (zs e AA (zs e AA (zt e AA (zq tb AA ?_))));iterate 3 refine zs rfl rfl ?_
   exact zt AA AA (AE (t true (Sh.AB a).symm _ (AI AA)))
  ·refine zg tb e AA (zg tb e AA (zg tb e AA (zf e AA (zq tb AA ?_))));rcases Sh.AU a with ⟨f,a⟩|⟨f,a⟩
   ·exact zs f AA (zs f AA (zs f AA (zt f AA (AE (t true (Sh.AB a).symm _ (AI AA))))))
   ·exact zg tb f AA (zg tb f AA (zg tb f AA (zf f AA (AE (t (!decide (k.to=0)) (Sh.AB a).symm _ (AI AA))))))
 ·refine AG (b0 _ (AD λc0 O=>zr tb AA AA ?_));obtain⟨y,a,h0⟩:=Sh.Av h0;have c1:∀(_:Unit),y=Sum.inr ()->∀s,Wk 0 s ⟨100,AN [(0,EG p0),(5,Bm)],[T3 k]⟩->c0 s:=by
   intro _ D s i;subst y;try dsimp only at h0
   refine O _ (AJ i (AD λc2 P=>bs h0 λQ a h0=>?_));have R:∀(o:Bool),Q=o->∀s,Wk 0 s ⟨100,AN [(4,.bool o)],[]⟩->c2 s:=by
    intro o D s i;subst Q;try dsimp only at h0
    refine P _ (AJ i ?_);obtain rfl:=Sh.AB h0;exact rt [(4,.bool o)]
   refine AF AA (zm tb 3 AA (zl tb AA AA (bs a λd3 S a=>zc (hb 117) (Bk S) rfl AA AA (zq tb AA ?_))));rcases Sh.AU a with ⟨d,a⟩|⟨d,a⟩
   ·exact zg tb d AA (zg tb d AA (zg tb d AA (Ap (v:=(Eu p0)) (BH AA AA d) rfl (Br TI AA) (bs a λc4 T a=>zd d (hb 117) (Bk T) rfl AA AA AA (zt d AA (zq tb AA (AE (R c4 (Sh.AB a).symm _ (BF _ AA)))))))))
   ·refine zs d AA ?_;iterate 4 refine zs d rfl ?_
    exact zf d AA (zq tb AA (AE (R false (Sh.AB a).symm _ (BF _ AA))))
  refine AL (Af (σ:=Int) (λn v=>Es k p0 p1 n v=some y) (λp=>⟨100,AN [(0,ls Am p0),(1,i64 p1),(5,.ptr 0 0 0 0),(7,i64 p)],[⟨0,83,3,[Am k]⟩]⟩) N 0 a (AI AA) (λ_ F=>by rw[Es]at F;cases F) ?_);rintro n p a;try dsimp only at a⊢
  rw[Es]at a;refine AD λd4 U=>zr tb AA AA ?_;refine ci a AA ?_ ?_<;>clear a<;>intro d5 a
  ·refine AG (U _ (AD λd6 V=>AL (AD λc5 W=>bs a λX c a=>?_)));have z:∀(A:Bool),X=A->∀s,Wk 0 s ⟨100,AN [(0,EG p0),(1,i64 p1),(5,Bm),(7,i64 p),(87,.bool A)],[T3 k]⟩->c5 s:=by
    intro A D s i;subst X;try dsimp only at a
    refine W _ (AJ i ?_);refine ci a AA ?_ ?_<;>clear a<;>intro d7 a
    ·refine zr tb AA AA ?_;obtain rfl:=Sh.AB a;try dsimp only[id]at h0
     obtain rfl:=Sh.AB h0;exact rd [(4,.bool false)]
    ·exact AG (V _ (AF AA (zm tb 3 AA (AE (xi (Sh.w (p+1)) a (AI AA))))))
   refine CT (by kernel_rfl) (by kernel_rfl) (by rfl) ?_;iterate 2 refine yq tb rfl ?_
   refine bs c λB j c=>yx Dl j AA AA AA ?_;iterate 2 refine yq tb rfl ?_
   refine yl tb AA AA ?_;iterate 2 refine yq tb rfl ?_
   rcases Sh.AU c with ⟨g,c⟩|⟨g,c⟩
   ·refine yg tb g AA (yg tb g AA (IP (v:=(Sk B)) (BH AA AA g) rfl (Bc Dl AA AA j AA) ?_));iterate 5 refine yg tb g rfl ?_
    refine yt g AA (yq tb AA ?_);rcases Sh.AU c with ⟨h,c⟩|⟨h,c⟩
    ·refine yg tb h AA (yg tb h AA (IP (v:=(Sk B)) (BH AA AA h) rfl (Bc Dl AA AA j AA) ?_));iterate 5 refine yg tb h rfl ?_
     exact yt h AA (BO (z (decide (B.to=k.to)) (Sh.AB c).symm _ (AI AA)))
    ·refine ys h AA ?_;iterate 7 refine ys h rfl ?_
     exact yf h AA (BO (z false (Sh.AB c).symm _ (AI AA)))
   ·refine ys g AA ?_;iterate 7 refine ys g rfl ?_
    refine yf g AA (yq tb AA ?_);iterate 8 refine ys rfl rfl ?_
    exact yf AA AA (BO (z false (Sh.AB c).symm _ (AI AA)))
  ·exact Ah (c1 () (Sh.AB a).symm _ (AI AA))
theorem Qz {N:Nat}{p0:(List Ac)}{r:Bool}(h0:IB N p0=some r):AS Tryz.prog 144 [EG p0] [] (λv st=>v=(.bool r)/\st=[]):=by
 unfold IB at h0;refine ai Tryz.func144 AA AA AA AA (zr tb AA AA (AD λD i=>sr AA λE j=>zq tb AA (zl tb AA AA (zq tb AA (dn j AA ?_)))));refine ci h0 AA ?_ ?_<;>clear h0<;>intro F h0
 ·refine zr tb AA AA ?_;obtain rfl:=Sh.AB h0;exact rt [(2,.bool false)]
 ·refine AG (i _ (AD λp k=>zr tb AA AA ?_));obtain⟨l,a,h0⟩:=Sh.Av h0;have q:∀(_:Unit),l=Sum.inr ()->∀s,Wk 0 s ⟨17,AN [],[]⟩->p s:=by
   intro _ G s t;subst l;try dsimp only at h0
   refine k _ (AJ t (zr tb AA AA ?_));obtain rfl:=Sh.AB h0;exact rt [(2,.bool true)]
  refine AL (Af (σ:=Int) (λn v=>EW N p0 n v=some l) (λm=>⟨17,AN [(0,ls Am p0),(3,i64 m)],[]⟩) N 0 a (AI AA) (λ_ o=>by rw[EW]at o;cases o) ?_);rintro n m a;try dsimp only at a⊢
  rw[EW]at a;refine AD λu b=>sr AA λx c=>zm tb 2 AA (zl tb AA AA (zq tb AA (dn c AA ?_)));refine ci a AA ?_ ?_<;>clear a<;>intro y a
  ·refine AG (b _ (AD λz d=>AL (sr AA λA e=>zm tb 2 AA (bs a λf g a=>zc (hb 154) (SB g) rfl AA AA (zq tb AA (dn e AA ?_))))));refine ci a AA ?_ ?_<;>clear a<;>intro h a
   ·have B:f=false:=by simpa using h
    refine zr tb AA AA ?_;obtain rfl:=Sh.AB a;try dsimp only[id]at h0
    obtain rfl:=Sh.AB h0;exact rt [(2,.bool false)]
   ·have C:f=true:=by simpa using h
    exact AG (d _ (AF AA (zm tb 3 AA (AE (xi (Sh.w (m+1)) a (AI AA))))))
  ·exact Ah (q () (Sh.AB a).symm _ (AI AA))
theorem Rj {N:Nat}{p0:EM}{r:Bool}(h0:Io N p0=some r):AS Tryz.prog 113 [.agg [EG p0.decls,ls Il p0.funcs]] [] (λv st=>v=(.bool r)/\st=[]):=by
 unfold Io at h0;refine ai Tryz.func113 AA AA AA AA (sr AA λK1 I=>Aw (m:=0) AR AA AA AA AA AA (zq tb AA (dn I AA (AD λK2 J=>AD λX K=>bs h0 λU a h0=>?_))));have V:∀(L:Bool),U=L->∀s,Wk 0 s ⟨64,AN [(1,Bm),(15,.bool L)],[iL p0.decls p0.funcs]⟩->X s:=by
  intro L M s j;subst U;try dsimp only at h0
  refine K _ (AJ j ?_);refine ci h0 AA ?_ ?_<;>clear h0<;>intro b6 h0
  ·refine zr tb AA AA ?_;obtain rfl:=Sh.AB h0;exact rd [(2,.bool false)]
  ·refine AG (J _ (AD λY O=>zr tb AA AA ?_));obtain⟨k,a,h0⟩:=Sh.Av h0;have P:∀(_:Unit),k=Sum.inr ()->∀s,Wk 0 s ⟨64,AN [(1,Bm)],[iL p0.decls p0.funcs]⟩->Y s:=by
    intro _ M s j;subst k;try dsimp only at h0
    refine O _ (AJ j (AD λQ p=>bs h0 λq a h0=>?_));have t:∀(g:Bool),q=g->∀s,Wk 0 s ⟨64,AN [(2,.bool g)],[]⟩->Q s:=by
     intro g M s j;subst q;try dsimp only at h0
     refine p _ (AJ j ?_);obtain rfl:=Sh.AB h0;exact rt [(2,.bool g)]
    refine AF AA (zm tb 2 AA (bs a λu i a=>zx T7 i AA AA AA (zm tb 2 AA (zl tb AA AA (zm tb 2 AA ?_)))));rcases Sh.AU a with ⟨d,a⟩|⟨d,a⟩
    ·refine zg tb d AA (zg tb d AA (Ap (v:=(.Bt (Il u) 0)) (BH AA AA d) rfl (Bc T7 AA AA i AA) ?_));iterate 3 refine zg tb d rfl ?_
     exact zt d AA (zq tb AA (AE (t (decide (u.result=0)) (Sh.AB a).symm _ (BF _ AA))))
    ·refine zs d AA ?_;iterate 5 refine zs d rfl ?_
     exact zf d AA (zq tb AA (AE (t false (Sh.AB a).symm _ (BF _ AA))))
   refine AL (Af (σ:=Int) (λn v=>EB N p0 n v=some k) (λh=>⟨64,AN [(1,.ptr 0 0 0 0),(3,i64 h)],[iL p0.decls p0.funcs]⟩) N 0 a (AI AA) (λ_ W=>by rw[EB]at W;cases W) ?_);rintro n h a;try dsimp only at a⊢
   rw[EB]at a;refine AD λZ x=>sr AA λb0 y=>zm tb 3 AA (zl tb AA AA (zq tb AA (dn y AA ?_)));refine ci a AA ?_ ?_<;>clear a<;>intro b1 a
   ·refine AG (x _ (AD λb2 z=>AL (sr AA λb3 A=>zm tb 3 AA (bs a λb4 B a=>zx T7 B AA AA AA (zq tb AA (Al (m:=1) AR fS AA AA (Aq AR kq AA AA AA AA AA AA qG rfl (dn A AA (AD λR C=>?_)))))))));refine bs a λD f a=>?_;have l:∀(o:Bool),D=o->∀s,Wk 0 s ⟨64,AN [(1,Bm),(3,i64 h),(48,.bool o)],[iL p0.decls p0.funcs]⟩->R s:=by
     intro o M s j;subst D;try dsimp only at a
     refine C _ (AJ j ?_);refine ci a AA ?_ ?_<;>clear a<;>intro b5 a
     ·refine zr tb AA AA ?_;obtain rfl:=Sh.AB a;try dsimp only[id]at h0
      obtain rfl:=Sh.AB h0;exact rd [(2,.bool false)]
     ·exact AG (z _ (AF AA (zm tb 3 AA (AE (xi (Sh.w (h+1)) a (AI AA))))))
    refine AF AA (zm tb 2 AA (zl tb AA AA (zm tb 2 AA ?_)));rcases Sh.AU f with ⟨e,f⟩|⟨e,f⟩
    ·refine zs e AA ?_;iterate 5 refine zs e rfl ?_
     refine zt e AA (zq tb AA ?_);iterate 7 refine zs rfl rfl ?_
     refine zt AA AA ?_;exact AE (l true (Sh.AB f).symm _ (Ab [0] AA AA (.raw AA AA .nil) (.same AA)))
    ·refine zg tb e AA ?_;iterate 3 refine zg tb e rfl ?_
     refine bs f λb7 E f=>zd e (hb 145) (Nt E) rfl AA AA AA (zg tb e AA (zf e AA (zq tb AA ?_)));rcases Sh.AU f with ⟨b,f⟩|⟨b,f⟩
     ·refine zs b AA ?_;iterate 6 refine zs b rfl ?_
      refine zt b AA ?_;exact AE (l true (Sh.AB f).symm _ (Ab [0] AA AA (.raw AA AA .nil) (.same AA)))
     ·refine zg tb b AA ?_;iterate 3 refine zg tb b rfl ?_
      refine Ap (v:=(Eu p0.decls)) (BH AA AA b) rfl (Br TI AA) (bs f λS F f=>zd b (hb 117) (Bk F) rfl AA AA AA (zg tb b AA (zf b AA ?_)));exact AE (l (!S) (Sh.AB f).symm _ (Ab [0] AA AA (.raw AA AA .nil) (.same AA)))
   ·exact Ah (P () (Sh.AB a).symm _ (AI AA))
 refine AF AA (zm tb 2 AA (bs a λb8 G a=>zc (hb 144) (Qz G) rfl AA AA (zm tb 2 AA ?_)));rcases Sh.AU a with ⟨c,a⟩|⟨c,a⟩
 ·refine zs c AA ?_;iterate 4 refine zs c rfl ?_
  exact zt c AA (AE (V true (Sh.AB a).symm _ (AI AA)))
 ·exact zg tb c AA (zg tb c AA (Ap (v:=(i64 (Sh.len p0.funcs))) (BH AA AA c) rfl (Br jh AA) (bs a λT H a=>zd c (hb 117) (Bk H) rfl AA AA AA (zg tb c AA (zf c AA (AE (V (!T) (Sh.AB a).symm _ (AI AA))))))))
theorem R9 {N:Nat}{p0:(List Int)}{p1:(List Int)}{r:Bool}(h0:Iq N p0 p1=some r):AS Tryz.prog 115 [ls eI p0,ls eI p1] [] (λv st=>v=(.bool r)/\st=[]):=by
 unfold Iq at h0;refine ai Tryz.func115 AA AA AA AA (zr tb AA AA (AD λF u=>zr tb AA AA ?_));obtain⟨x,e,h0⟩:=Sh.Av h0;have G:∀(_:Unit),x=Sum.inr ()->∀s,Wk 0 s ⟨47,AN [],[]⟩->F s:=by
  intro _ H s y;subst x;try dsimp only at h0
  refine u _ (AJ y (zr tb AA AA ?_));obtain rfl:=Sh.AB h0;exact rt [(4,.bool true)]
 refine AL (Af (σ:=Int) (λn v=>Ep p0 p1 n v=some x) (λt=>⟨47,AN [(0,ls eI p0),(1,ls eI p1),(5,i64 t)],[]⟩) N 0 e (AI AA) (λ_ E=>by rw[Ep]at E;cases E) ?_);rintro n t e;try dsimp only at e⊢
 rw[Ep]at e;refine AD λK z=>sr AA λL A=>zm tb 2 AA (zl tb AA AA (zq tb AA (dn A AA ?_)));refine ci e AA ?_ ?_<;>clear e<;>intro M e
 ·refine AG (z _ (AD λI k=>AL (AD λB l=>bs e λm d e=>?_)));have g:∀(i:Bool),m=i->∀s,Wk 0 s ⟨47,AN [(0,ls eI p0),(1,ls eI p1),(5,i64 t),(46,.bool i)],[]⟩->B s:=by
   intro i H s y;subst m;try dsimp only at e
   refine l _ (AJ y ?_);refine ci e AA ?_ ?_<;>clear e<;>intro J e
   ·refine zr tb AA AA ?_;obtain rfl:=Sh.AB e;try dsimp only[id]at h0
    obtain rfl:=Sh.AB h0;exact rt [(4,.bool false)]
   ·exact AG (k _ (AF AA (zm tb 3 AA (AE (xi (Sh.w (t+1)) e (AI AA))))))
  refine CT (by kernel_rfl) (by kernel_rfl) (by rfl) ?_;iterate 2 refine yq tb rfl ?_
  refine bs d λh f d=>yx BD f AA AA AA ?_;iterate 2 refine yq tb rfl ?_
  refine yl tb AA AA (yq tb AA (bs d λC o d=>CI (v:=(.bool C)) AR (hb 117) (Bk o) rfl AA AA ?_));iterate 2 refine yq tb rfl ?_
  rcases Sh.AU d with ⟨a,d⟩|⟨a,d⟩
  ·refine ys a AA ?_;iterate 7 refine ys a rfl ?_
   refine yt a AA (yq tb AA ?_);iterate 3 refine ys rfl rfl ?_
   iterate 10 refine yn rfl ?_
   exact ys AA AA (yt AA AA (BO (g true (Sh.AB d).symm _ (AI AA))))
  ·refine yg tb a AA ?_;iterate 2 refine yg tb a rfl ?_
   refine IP (v:=(Jq h)) (BH AA AA a) rfl (Bc BD AA AA f AA) (yg tb a AA (bs d λD p d=>IP (v:=(Jq D)) (BH AA AA a) rfl (Bc BD AA AA p AA) ?_));iterate 2 refine yg tb a rfl ?_
   refine yf a AA (yq tb AA ?_);rcases Sh.AU d with ⟨b,d⟩|⟨b,d⟩
   ·refine ys b AA ?_;iterate 2 refine ys b rfl ?_
    iterate 10 refine yn rfl ?_
    exact ys b AA (yt b AA (BO (g true (Sh.AB d).symm _ (AI AA))))
   ·refine yg tb b AA ?_;iterate 2 refine yg tb b rfl ?_
    rcases Sh.AU d with ⟨c,d⟩|⟨c,d⟩
    ·refine yg tb c AA (yg tb c AA (IP (v:=(Jq h)) (BH AA AA c) rfl (Bc BD AA AA f AA) ?_));iterate 4 refine yg tb c rfl ?_
     refine bs d λj q d=>IP (v:=(Jq j)) (BH AA AA c) rfl (Bc BD AA AA q AA) ?_;iterate 2 refine yg tb c rfl ?_
     exact IP (v:=(.bool (decide (h<=j)))) (BH AA AA b) rfl (Cc AA c AA) (yf b AA (BO (g (decide (h<=j)) (Sh.AB d).symm _ (AI AA))))
    ·refine ys c AA ?_;iterate 9 refine ys c rfl ?_
     exact IP (v:=(.bool false)) (BH AA AA b) rfl (CO AA c AA) (yf b AA (BO (g false (Sh.AB d).symm _ (AI AA))))
 ·exact Ah (G () (Sh.AB e).symm _ (AI AA))
theorem N5 {N:Nat}{p0:AT}{r:Bool}(h0:F9 N p0=some r):AS Tryz.prog 70 [G2 p0] [] (λv st=>v=(.bool r)/\st=[]):=by
 unfold F9 at h0;refine ai Tryz.func70 AA AA AA AA (sr AA λS t=>Aw (m:=0) AR AA AA AA AA AA (zq tb AA (dn t AA (AD λT u=>AD λG x=>bs h0 λD a h0=>?_))));have E:∀(y:Bool),D=y->∀s,Wk 0 s ⟨35,AN [(1,Bm),(13,.bool y)],[Rb p0.decls p0.AH]⟩->G s:=by
  intro y H s z;subst D;try dsimp only at h0
  refine x _ (AJ z ?_);refine ci h0 AA ?_ ?_<;>clear h0<;>intro U h0
  ·refine zr tb AA AA ?_;obtain rfl:=Sh.AB h0;exact rd [(2,.bool false)]
  ·refine AG (u _ (AD λI A=>zr tb AA AA ?_));obtain⟨d,a,h0⟩:=Sh.Av h0;have B:∀(_:Unit),d=Sum.inr ()->∀s,Wk 0 s ⟨35,AN [],[]⟩->I s:=by
    intro _ H s z;subst d;try dsimp only at h0
    refine A _ (AJ z (zr tb AA AA ?_));obtain rfl:=Sh.AB h0;exact rt [(2,.bool true)]
   refine AL (Af (σ:=Int) (λn v=>Cn N p0 n v=some d) (λe=>⟨35,AN [(1,.ptr 0 0 0 0),(3,i64 e)],[Rb p0.decls p0.AH]⟩) N 0 a (AI AA) (λ_ F=>by rw[Cn]at F;cases F) ?_);rintro n e a;try dsimp only at a⊢
   rw[Cn]at a;refine AD λJ g=>sr AA λK h=>zm tb 3 AA (zl tb AA AA (zq tb AA (dn h AA ?_)));refine ci a AA ?_ ?_<;>clear a<;>intro L a
   ·refine AG (g _ (AD λM i=>AL (AD λO j=>?_)));refine CT (by kernel_rfl) (by kernel_rfl) (by rfl) ?_;iterate 3 refine yq tb rfl ?_
    refine bs a λP c a=>yx GZ c AA AA AA ?_;iterate 5 refine yq tb rfl ?_
    refine yx GZ c AA AA AA ?_;iterate 2 refine yq tb rfl ?_
    refine bs a λf k a=>CI (v:=(.bool f)) AR (hb 115) (R9 k) rfl AA AA (yq tb AA (BO (j _ ?_)));refine ci a AA ?_ ?_<;>clear a<;>intro l a
    ·have Q:f=false:=by simpa using l
     refine zr tb AA AA ?_;obtain rfl:=Sh.AB a;try dsimp only[id]at h0
     obtain rfl:=Sh.AB h0;exact rd [(2,.bool false)]
    ·have R:f=true:=by simpa using l
     exact AG (i _ (AF AA (zm tb 3 AA (AE (xi (Sh.w (e+1)) a (AI AA))))))
   ·exact Ah (B () (Sh.AB a).symm _ (BF _ AA))
 refine AF AA (zm tb 2 AA (zl tb AA AA (zm tb 2 AA ?_)));rcases Sh.AU a with ⟨b,a⟩|⟨b,a⟩
 ·refine zs b AA ?_;iterate 3 refine zs b rfl ?_
  exact zt b AA (AE (E true (Sh.AB a).symm _ (AI AA)))
 ·exact zg tb b AA (bs a λo p a=>zd (v':=(.agg [EG o.decls,ls Il o.funcs])) b (hb 114) (Uf p) rfl AA AA AA (bs a λC q a=>zd b (hb 113) (Rj q) rfl AA AA AA (zg tb b AA (zf b AA (AE (E (!C) (Sh.AB a).symm _ (AI AA)))))))
theorem QK {N:Nat}{qy:Block->Int->Option (Int)}(sf :∀{p0:Block} {p1:Int} {r:Int},qy p0 p1=some r->AS Tryz.prog 73 [DH p0,i64 p1] [] (λv st=>v=(i64 r)/\st=[])){p0:Block}{p1 r:Int}(h0:JC N qy p0 p1=some r):AS Tryz.prog 73 [DH p0,i64 p1] [] (λv st=>v=(i64 r)/\st=[]):=by
 unfold JC at h0;refine ai Tryz.func73 AA AA AA AA (sr AA λY B=>Aw (m:=0) AR AA AA AA AA AA (zq tb AA (dn B AA (AD λJ C=>zr tb AA AA ?_))));obtain⟨D,f,h0⟩:=Sh.Av h0;have K:∀(b:Int),D=Sum.inr b->∀s,Wk 0 s ⟨43,AN [(1,i64 b)],[]⟩->J s:=by
  intro b L s E;subst D;try dsimp only at h0
  refine C _ (AJ E (zr tb AA AA ?_));obtain rfl:=Sh.AB h0;exact rt [(4,i64 b)]
 refine AL (Af (σ:=Int×Int) (λn v=>Da N p0 qy n v.1 v.2=some D) (λ(c,j)=>⟨43,AN [(1,i64 c),(2,.ptr 0 0 0 0),(5,i64 j)],[Vw p0.steps p0.result]⟩) N (p1,0) f (AI AA) (λ_ k=>by rw[Da]at k;cases k) ?_);rintro n ⟨c,j⟩ f;try dsimp only at f⊢
 rw[Da]at f;refine AD λZ F=>sr AA λM l=>zm tb 3 AA (zl tb AA AA (zq tb AA (dn l AA ?_)));refine ci f AA ?_ ?_<;>clear f<;>intro O f
 ·refine AG (F _ (AD λG o=>AL (AD λP p=>zr tb AA AA ?_)));refine ci f AA ?_ ?_<;>clear f<;>intro Q f
  ·refine zr tb AA AA ?_;obtain rfl:=Sh.AB f;try dsimp only[id]at h0
   obtain rfl:=Sh.AB h0;exact rd [(4,i64 (-1))]
  ·refine AG (p _ ?_);iterate 2 refine zr tb rfl rfl ?_
   obtain⟨h,d,f⟩:=Sh.Av f;have H:∀(a:Int),h=Sum.inr a->∀s,Wk 0 s ⟨43,AN [(1,i64 a),(2,Bm),(5,i64 j)],[Vw p0.steps p0.result]⟩->G s:=by
    intro a L s E;subst h;try dsimp only at f
    exact o _ (AJ E (AF AA (zm tb 3 AA (AE (xi (a,Sh.w (j+1)) f (AI AA))))))
   refine AL (Af (σ:=Int×Int) (λn v=>DZ j p0 qy n v.1 v.2=some h) (λ(e,i)=>⟨43,AN [(1,i64 e),(2,.ptr 0 0 0 0),(5,i64 j),(6,i64 i)],[Vw p0.steps p0.result]⟩) N (Sh.w (c-1),0) d (AI AA) (λ_ k=>by rw[DZ]at k;cases k) ?_);rintro n ⟨e,i⟩ d;try dsimp only at d⊢
   rw[DZ]at d;refine AD λR q=>sr AA λS t=>zm tb 4 AA (bs d λu g d=>zz (Lj u) (E3 DT AA AA g (CK _) rfl) rfl (zm tb 2 AA (zl tb AA AA (zq tb AA (dn t AA ?_)))));refine ci d AA ?_ ?_<;>clear d<;>intro T d
   ·refine AG (q _ (AD λU x=>AL (sr AA λV y=>zm tb 3 AA (zz (Lj u) (E3 DT AA AA g (CK _) rfl) rfl (zm tb 3 AA (bs d λW z d=>zx JF z AA AA AA (zm tb 2 AA (bs d λI A d=>zc (hb 73) (sf A) rfl AA AA ?_))))))));refine zq tb AA (dn y AA (zr tb AA AA ?_));refine ci d AA ?_ ?_<;>clear d<;>intro X d
    ·refine zr tb AA AA ?_;obtain rfl:=Sh.AB d;try dsimp only[id]at f
     obtain rfl:=Sh.AB f;try dsimp only[id]at h0
     obtain rfl:=Sh.AB h0;exact rd [(4,i64 (-1))]
    ·exact AG (x _ (AF AA (zm tb 3 AA (AE (xi (I,Sh.w (i+1)) d (AI AA))))))
   ·exact Ah (H e (Sh.AB d).symm _ (AI AA))
 ·exact Ah (K c (Sh.AB f).symm _ (BF _ AA))
theorem QW {N:Nat}:∀(n:Nat),∀{p0:Block} {p1:Int} {r:Int},Fq N n p0 p1=some r->AS Tryz.prog 73 [DH p0,i64 p1] [] (λv st=>v=(i64 r)/\st=[]):=by
 intro n
 induction n with
 | zero=>intro p0 p1 r a;cases a
 | succ n ih=>
  intro p0 p1 r a;rw[Fq]at a;exact QK (λh=>ih h) a
theorem SC {N:Nat}:∀{p0:Block} {p1:Int} {r:Int},MX N p0 p1=some r->AS Tryz.prog 73 [DH p0,i64 p1] [] (λv st=>v=(i64 r)/\st=[]):=by
 intro p0 p1 r a;exact QW N a
theorem OG {N:Nat}{p0:Block}{r:Int}(h0:I2 N p0=some r):AS Tryz.prog 36 [DH p0] [] (λv st=>v=(i64 r)/\st=[]):=by
 unfold I2 at h0;refine ai Tryz.func36 AA AA AA AA (sr AA λf a=>Aw (m:=0) AR AA AA AA AA AA (zq tb AA (dn a AA (sr AA λg b=>zq tb AA (bs h0 λe c h0=>zc (hb 73) (SC c) rfl AA AA (zq tb AA (dn b AA (AD λh d=>?_))))))));refine zr tb AA AA ?_;refine ci h0 AA ?_ ?_<;>clear h0<;>intro i h0
 ·refine zr tb AA AA ?_;obtain rfl:=Sh.AB h0;exact rd [(2,i64 (-1))]
 ·refine AG (d _ (zr tb AA AA ?_));obtain rfl:=Sh.AB h0;exact rd [(2,i64 (Sh.w (600-e)))]
theorem FB {p0:(List Int)}{r:(List Int)}(h0:DW p0=some r):AS Tryz.prog 74 [ls eI p0] [] (λv st=>v=(ow 0 0 r)/\st=[BQ r]):=by
 unfold DW at h0;refine ai Tryz.func74 AA AA AA AA (zr tb AA AA (sr AA λd a=>?_));refine CE (m:=0) (l:=([]:List Int)) (enc:=eI) AR BD (by decide) rfl AA AA AA AA AA ?_;refine zq tb AA (bs h0 λc b h0=>Cd (l2:=p0) AR BD AA AA AA AA Nq (λ_=>AA) b AA (zq tb AA (dn a AA ?_)));obtain rfl:=Sh.AB h0;exact BG (xr (CJ (L:=[(2,ow 0 0 c)]) (st':=[BQ c]) (.pure (AK λ_=>AA) .nil) (.same AA)))
theorem PY {p0:Int}{r:Bool}(h0:IZ p0=some r):AS Tryz.prog 118 [i64 p0] [] (λv st=>v=(.bool r)/\st=[]):=by
 unfold IZ at h0;refine ai Tryz.func118 AA AA AA AA (zr tb AA AA (AD λj h=>bs h0 λi a h0=>?_));have f:∀(g:Bool),i=g->∀s,Wk 0 s ⟨21,AN [(2,.bool g)],[]⟩->j s:=by
  intro g l s k;subst i;try dsimp only at h0
  refine h _ (AJ k ?_);obtain rfl:=Sh.AB h0;exact rt [(2,.bool g)]
 refine AF AA (zm tb 3 AA ?_);rcases Sh.AU a with ⟨b,a⟩|⟨b,a⟩
 ·refine zs b AA (zs b AA (zt b AA (zq tb AA (zs AA AA (zs AA AA (zt AA AA (zq tb AA (zs AA AA (zs AA AA (zt AA AA (zq tb AA ?_)))))))))));exact zs AA AA (zs AA AA (zt AA AA (zq tb AA (AE (f true (Sh.AB a).symm _ (AI AA))))))
 ·refine zg tb b AA (zg tb b AA (zf b AA (zq tb AA ?_)));rcases Sh.AU a with ⟨c,a⟩|⟨c,a⟩
  ·refine zs c AA (zs c AA (zt c AA (zq tb AA (zs AA AA (zs AA AA (zt AA AA (zq tb AA (zs AA AA (zs AA AA (zt AA AA (zq tb AA ?_)))))))))));exact AE (f true (Sh.AB a).symm _ (AI AA))
  ·refine zg tb c AA (zg tb c AA (zf c AA (zq tb AA ?_)));rcases Sh.AU a with ⟨d,a⟩|⟨d,a⟩
   ·exact zs d AA (zs d AA (zt d AA (zq tb AA (zs AA AA (zs AA AA (zt AA AA (zq tb AA (AE (f true (Sh.AB a).symm _ (AI AA))))))))))
   ·refine zg tb d AA (zg tb d AA (zf d AA (zq tb AA ?_)));rcases Sh.AU a with ⟨e,a⟩|⟨e,a⟩
    ·exact zs e AA (zs e AA (zt e AA (zq tb AA (AE (f true (Sh.AB a).symm _ (AI AA))))))
    ·exact zg tb e AA (zg tb e AA (zf e AA (zq tb AA (AE (f (decide (p0=10)) (Sh.AB a).symm _ (AI AA))))))
theorem Ia {p0:(List Int)}{p1:Step}{r:Bool}(h0:Bb p0 p1=some r):AS Tryz.prog 119 [ls eI p0,Mb p1] [] (λv st=>v=(.bool r)/\st=[]):=by
 unfold Bb at h0;refine ai Tryz.func119 AA AA AA AA (sr AA λq h=>Aw (m:=0) AR AA AA AA AA AA (zq tb AA (dn h AA (AD λt i=>zr tb AA AA ?_))));refine ci h0 AA ?_ ?_<;>clear h0<;>intro u h0
 ·refine zr tb AA AA ?_;obtain rfl:=Sh.AB h0;exact rd [(4,.bool true)]
 ·refine AG (i _ (AD λn j=>bs h0 λl b h0=>?_));have k:∀(g:Bool),l=g->∀s,Wk 0 s ⟨27,AN [(4,.bool g)],[]⟩->n s:=by
   intro g w s o;subst l;try dsimp only at h0
   refine j _ (AJ o ?_);obtain rfl:=Sh.AB h0;exact rt [(4,.bool g)]
  refine AF AA (zm tb 4 AA ?_);rcases Sh.AU b with ⟨c,b⟩|⟨c,b⟩
  ·refine zg tb c AA (zg tb c AA (zg tb c AA (Ap (v:=(Eu p0)) (BH AA AA c) rfl (Br F8 AA) (bs b λp d b=>zd c (hb 117) (Bk d) rfl AA AA AA (zt c AA (zq tb AA ?_))))));rcases Sh.AU b with ⟨a,b⟩|⟨a,b⟩
   ·refine zg tb a AA ?_;iterate 3 refine zg tb a rfl ?_
    exact bs b λe f b=>Ap (v:=(Jq e)) (BH AA AA a) rfl (Bc BD AA AA f AA) (zg tb a AA (zg tb a AA (zt a AA (zq tb AA (AE (k (decide (0<e)) (Sh.AB b).symm _ (BF _ AA)))))))
   ·refine zs a AA ?_;iterate 6 refine zs a rfl ?_
    exact zf a AA (zq tb AA (AE (k false (Sh.AB b).symm _ (BF _ AA))))
  ·refine zs c AA ?_;iterate 4 refine zs c rfl ?_
   refine zf c AA (zq tb AA ?_);iterate 7 refine zs rfl rfl ?_
   exact zf AA AA (zq tb AA (AE (k false (Sh.AB b).symm _ (BF _ AA))))
theorem DU {N:Nat}{p0:(List Int)}{p1:(List Int)}{p2:(List Int)}{r:Bool}(h0:Be N p0 p1 p2=some r):AS Tryz.prog 120 [ls eI p0,ls eI p1,ls eI p2] [] (λv st=>v=(.bool r)/\st=[]):=by
 unfold Be at h0;refine ai Tryz.func120 AA AA AA AA (zr tb AA AA (AD λP x=>sr AA λQ y=>zq tb AA (zl tb AA AA (zq tb AA (zl tb AA AA (zq tb AA (dn y AA ?_)))))));refine ci h0 AA ?_ ?_<;>clear h0<;>intro F h0
 ·have R:decide ((Sh.len p1)=(Sh.len p2))=false:=by simpa using F
  refine zr tb AA AA ?_;obtain rfl:=Sh.AB h0;exact rt [(6,.bool false)]
 ·have S:decide ((Sh.len p1)=(Sh.len p2))=true:=by simpa using F
  refine AG (x _ (AD λH z=>zr tb AA AA ?_));obtain⟨f,b,h0⟩:=Sh.Av h0;have A:∀(_:Unit),f=Sum.inr ()->∀s,Wk 0 s ⟨42,AN [],[]⟩->H s:=by
   intro _ I s B;subst f;try dsimp only at h0
   refine z _ (AJ B (zr tb AA AA ?_));obtain rfl:=Sh.AB h0;exact rt [(6,.bool true)]
  refine AL (Af (σ:=Int) (λn v=>GN p0 p1 p2 n v=some f) (λd=>⟨42,AN [(0,ls eI p0),(1,ls eI p1),(2,ls eI p2),(7,i64 d)],[]⟩) N 0 b (AI AA) (λ_ G=>by rw[GN]at G;cases G) ?_);rintro n d b;try dsimp only at b⊢
  rw[GN]at b;refine AD λJ h=>sr AA λK i=>zm tb 2 AA (zl tb AA AA (zq tb AA (dn i AA ?_)));refine ci b AA ?_ ?_<;>clear b<;>intro L b
  ·refine AG (h _ (AD λM j=>AL (AD λC k=>bs b λl c b=>?_)));have m:∀(g:Bool),l=g->∀s,Wk 0 s ⟨42,AN [(0,ls eI p0),(1,ls eI p1),(2,ls eI p2),(7,i64 d),(41,.bool g)],[]⟩->C s:=by
    intro g I s B;subst l;try dsimp only at b
    refine k _ (AJ B ?_);refine ci b AA ?_ ?_<;>clear b<;>intro O b
    ·refine zr tb AA AA ?_;obtain rfl:=Sh.AB b;try dsimp only[id]at h0
     obtain rfl:=Sh.AB h0;exact rt [(6,.bool false)]
    ·exact AG (j _ (AF AA (zm tb 3 AA (AE (xi (Sh.w (d+1)) b (AI AA))))))
   refine CT (by kernel_rfl) (by kernel_rfl) (by rfl) ?_;iterate 2 refine yq tb rfl ?_
   refine bs c λD e c=>yx BD e AA AA AA ?_;iterate 2 refine yq tb rfl ?_
   refine yl tb AA AA (yq tb AA (bs c λE o c=>CI (v:=(.bool E)) AR (hb 117) (Bk o) rfl AA AA ?_));iterate 2 refine yq tb rfl ?_
   rcases Sh.AU c with ⟨a,c⟩|⟨a,c⟩
   ·refine ys a AA ?_;iterate 11 refine ys a rfl ?_
    exact yt a AA (BO (m true (Sh.AB c).symm _ (AI AA)))
   ·refine yg tb a AA ?_;iterate 2 refine yg tb a rfl ?_
    refine IP (v:=(Jq D)) (BH AA AA a) rfl (Bc BD AA AA e AA) (yg tb a AA (bs c λp q c=>IP (v:=(Jq p)) (BH AA AA a) rfl (Bc BD AA AA q AA) ?_));iterate 3 refine yg tb a rfl ?_
    refine bs c λt u c=>IP (v:=(Jq t)) (BH AA AA a) rfl (Bc BD AA AA u AA) ?_;iterate 2 refine yg tb a rfl ?_
    exact yf a AA (BO (m (!decide (p=t)) (Sh.AB c).symm _ (AI AA)))
  ·exact Ah (A () (Sh.AB b).symm _ (AI AA))
theorem Kz {N:Nat}{p0:(List Ac)}{p1 r:Int}(h0:HA N p0 p1=some r):AS Tryz.prog 146 (TY p0 p1) [] (λv st=>v=(i64 r)/\st=[]):=by
 unfold HA at h0;refine ai Tryz.func146 AA AA AA AA ?_;iterate 2 refine zr tb rfl rfl ?_
 refine AD λj e=>zr tb AA AA (bs h0 λf a h0=>?_);have k:∀(n7:Int),f=n7->∀s,Wk 0 s ⟨21,AN [(5,i64 n7)],[]⟩->j s:=by
  intro n7 q s l;subst f;try dsimp only at h0
  refine e _ (AJ l (zr tb AA AA ?_));obtain rfl:=Sh.AB h0;exact rt [(4,i64 n7)]
 refine AL (Af (σ:=Int×Int) (λn v=>Ee p0 p1 n v.1 v.2=some f) (λ(n5,g)=>⟨21,AN [(0,ls Am p0),(1,i64 p1),(5,i64 n5),(6,i64 g)],[]⟩) N (0,0) a (AI AA) (λ_ i=>by rw[Ee]at i;cases i) ?_);rintro n ⟨n5,g⟩ a;try dsimp only at a⊢
 rw[Ee]at a;refine AD λm b=>zr tb AA AA ?_;refine ci a AA ?_ ?_<;>clear a<;>intro o a
 ·refine AG (b _ (AD λp c=>AL (AF AA (zm tb 3 AA (bs a λh d a=>zx Dl d AA AA AA (zm tb 2 AA (zl tb AA AA (zm tb 2 AA (dn c AA (AF AA ?_))))))))));exact zm tb 3 AA (AE (xi (Sh.w (n5+(Sh.len h.cons)),Sh.w (g+1)) a (AI AA)))
 ·exact Ah (k n5 (Sh.AB a).symm _ (AI AA))
theorem IE {N:Nat}{p0:(List Ac)}{p1 r:Int}(h0:Cq N p0 p1=some r):AS Tryz.prog 121 (TY p0 p1) [] (λv st=>v=(i64 r)/\st=[]):=by
 unfold Cq at h0;refine ai Tryz.func121 AA AA AA AA (zr tb AA AA (AD λo i=>zr tb AA AA ?_));obtain⟨j,a,h0⟩:=Sh.Av h0;have p:∀(_:Unit),j=Sum.inr ()->∀s,Wk 0 s ⟨30,AN [],[]⟩->o s:=by
  intro _ C s q;subst j;try dsimp only at h0
  refine i _ (AJ q (zr tb AA AA ?_));obtain rfl:=Sh.AB h0;exact rt [(4,i64 (-1))]
 refine AL (Af (σ:=Int) (λn v=>Dt N p0 p1 n v=some j) (λh=>⟨30,AN [(0,ls Am p0),(1,i64 p1),(5,i64 h)],[]⟩) N 0 a (AI AA) (λ_ m=>by rw[Dt]at m;cases m) ?_);rintro n h a;try dsimp only at a⊢
 rw[Dt]at a;refine AD λD k=>sr AA λE l=>zm tb 2 AA (zl tb AA AA (zq tb AA (dn l AA ?_)));refine ci a AA ?_ ?_<;>clear a<;>intro F a
 ·refine AG (k _ (AD λt b=>AL (sr AA λu c=>zm tb 2 AA (bs a λx d a=>zc (hb 146) (Kz d) rfl AA AA (zq tb AA (dn c AA (sr AA λy e=>zm tb 5 AA (bs a λz f a=>?_))))))));refine zx Dl f AA AA AA (zm tb 2 AA (zl tb AA AA (zm tb 2 AA (bs a λA g a=>zc (hb 117) (Bk g) rfl AA AA (dn e AA ?_)))));refine ci a AA ?_ ?_<;>clear a<;>intro B a
  ·refine zr tb AA AA ?_;obtain rfl:=Sh.AB a;try dsimp only[id]at h0
   obtain rfl:=Sh.AB h0;exact rt [(4,MO h)]
  ·exact AG (b _ (AF AA (zm tb 3 AA (AE (xi (Sh.w (h+1)) a (AI AA))))))
 ·exact Ah (p () (Sh.AB a).symm _ (AI AA))
theorem G8 {N:Nat}{p0:(List Ac)}{p1:Int}{r:(List Int)}(h0:CH N p0 p1=some r):AS Tryz.prog 122 (TY p0 p1) [] (λv st=>v=(ls eI r)/\st=[]):=by
 unfold CH at h0;refine ai Tryz.func122 AA AA AA AA (zr tb AA AA (sr AA λk c=>zm tb 2 AA (bs h0 λn d h0=>zc (hb 121) (IE d) rfl AA AA (zq tb AA (dn c AA (AD λo e=>zr tb AA AA ?_))))));refine ci h0 AA ?_ ?_<;>clear h0<;>intro p h0
 ·refine sr AA λq f=>?_;refine CE (m:=0) (l:=([]:List Int)) (enc:=eI) AR BD (by decide) rfl AA AA AA AA AA ?_;refine zq tb AA (dn f AA ?_);obtain rfl:=Sh.AB h0;exact BG (Exists.intro ⟨27,AN [(4,Yr)],[]⟩ (And.intro (by refine Wk.trans (Wk.CQ (L:=[(4,Yr)]) (st':=XH) (id:=0) rfl qM (AK λ_=>AA) ⟨.CQ AA,mD⟩ AA) ?_;exact Ab [] AA AA .nil (.same AA)) (And.intro AA AA)))
 ·refine AG (e _ (AD λs g=>?_));refine CT (by kernel_rfl) (by kernel_rfl) (by rfl) ?_;iterate 3 refine yq tb rfl ?_
  refine bs h0 λt h h0=>yx Dl h AA AA AA ?_;iterate 6 refine yq tb rfl ?_
  refine bs h0 λi a h0=>CI (v:=(i64 i)) AR (hb 146) (Kz a) rfl AA AA (yq tb AA (bs h0 λj b h0=>yx KV b AA AA AA ?_));iterate 3 refine yq tb rfl ?_
  refine BO (g _ ?_);obtain rfl:=Sh.AB h0;exact rt [(4,ls eI j.fields)]
theorem MU {N:Nat}{p0:(List Ac)}{p1:Int}{r:(List Int)}(h0:Ik N p0 p1=some r):AS Tryz.prog 128 (TY p0 p1) [] (λv st=>v=(ow 0 0 r)/\st=[BQ r]):=by
 unfold Ik at h0;refine ai Tryz.func128 AA AA AA AA (zr tb AA AA (sr AA λK t=>?_));refine CE (m:=0) (l:=([]:List Int)) (enc:=eI) AR BD (by decide) rfl AA AA AA AA AA ?_;refine zq tb AA (dn t AA (AD λM u=>sr AA λO x=>zm tb 2 AA (zl tb AA AA (bs h0 λB y h0=>zc (hb 117) (Bk y) rfl AA AA (zq tb AA (dn x AA ?_))))));refine ci h0 AA ?_ ?_<;>clear h0<;>intro C h0
 ·have P:B=false:=by simpa using C
  refine zr tb AA AA ?_;obtain rfl:=Sh.AB h0;exact rt [(4,aR)]
 ·have Q:B=true:=by simpa using C
  refine AG (u _ (AD λz h=>zr tb AA AA (bs h0 λe a h0=>?_)));have A:∀(c:(List Int)),e=c->∀s,Wk 0 s ⟨35,AN [(5,ow 0 0 c)],[BQ c]⟩->z s:=by
   intro c R s E;subst e;try dsimp only at h0
   refine h _ (AJ E (zr tb AA AA ?_));obtain rfl:=Sh.AB h0;exact rt [(4,ow 0 0 c)]
  refine AL (Af (σ:=Int×(List Int)) (λn v=>FP N p0 p1 n v.1 v.2=some e) (λ(b,d)=>⟨35,AN [(0,ls Am p0),(1,i64 p1),(5,ow 0 0 d),(6,i64 b)],[ro 0 3 1 eI d]⟩) N (0,[]) a (AI AA) (λ_ D=>by rw[FP]at D;cases D) ?_);rintro n ⟨b,d⟩ a;try dsimp only at a⊢
  rw[FP]at a;refine AD λF i=>sr AA λG j=>zm tb 4 AA (bs a λH k a=>zx Dl k AA AA AA (zm tb 2 AA (zl tb AA AA (zq tb AA (dn j AA ?_)))));refine ci a AA ?_ ?_<;>clear a<;>intro I a
  ·refine AG (i _ (AD λJ o=>AL (AF AA (zm tb 4 AA (bs a λf p a=>zc (hb 146) (Kz p) rfl AA AA (zm tb 2 AA ?_))))));refine CE (m:=1) (l:=[Sh.w (f+b)]) (enc:=eI) AR BD (by decide) rfl AA AA AA AA AA ?_;refine bs a λg q a=>Cd (l2:=[Sh.w (f+b)]) AR BD AA AA AA AA (H6 AA AA) (λ_=>AA) q AA (zq tb AA (dn o AA (AF AA (zm tb 3 AA ?_))));exact AE (xi (Sh.w (b+1),g) a (by refine Wk.trans (CJ (L:=[(0,EG p0),(1,i64 p1),(5,ow 0 0 g),(6,MO b)]) (st':=[BQ g,ro 0 3 1 eI [Sh.w (f+b)]]) (.pure (AK λ_=>AA) (.pure (AK λ_=>AA) .nil)) (.same AA)) ?_;exact Ab [0] AA AA (.pure (AK λ_=>AA) .nil) (.same AA)))
  ·exact Ah (A d (Sh.AB a).symm _ (AI AA))
theorem HP {p0:(List Int)}{p1:(List Int)}{r:(List Int)}(h0:Gm p0 p1=some r):AS Tryz.prog 130 [ls eI p0,ls eI p1] [] (λv st=>v=(ow 0 0 r)/\st=[BQ r]):=by
 unfold Gm at h0;refine ai Tryz.func130 AA AA AA AA (zr tb AA AA (sr AA λf a=>zq tb AA (bs h0 λe b h0=>BE (v':=(ow 0 0 e)) AR (hb 74) (FB b) rfl AA ⟨(Ay λ_=>AA),mD⟩ AA AA (zq tb AA (bs h0 λd c h0=>Cd (l2:=p1) AR BD AA AA AA AA Nq (λ_=>AA) c AA (zq tb AA (dn a AA ?_)))))));obtain rfl:=Sh.AB h0;exact BG (xr (CJ (L:=[(4,ow 0 0 d)]) (st':=[BQ d]) (.pure (AK λ_=>AA) .nil) (.same AA)))
theorem N2 {N:Nat}{qk:AT->(List Int)->Block->Option (Int)}(rN :∀{p0:AT} {p1:(List Int)} {p2:Block} {r:Int},qk p0 p1 p2=some r->AS Tryz.prog 71 [G2 p0,ls eI p1,DH p2] [] (λv st=>v=(i64 r)/\st=[])){p0:AT}{p1:(List Int)}{p2:Step}{r:Int}(h0:FJ N qk p0 p1 p2=some r):AS Tryz.prog 123 (ax p0 p1 p2) [] (λv st=>v=(i64 r)/\st=[]):=by
 unfold FJ at h0;refine ai Tryz.func123 AA AA AA AA (sr AA λK1 S=>Aw (m:=0) AR AA AA AA AA AA (Aw (m:=1) AR AA AA AA AA AA (zq tb AA (dn S AA (sr AA λK2 T=>zm tb 4 AA (bs h0 λh U h0=>BE (v':=(ow 2 0 h)) AR (hb 128) (MU U) rfl AA ⟨(Ay λ_=>AA),mD⟩ AA AA (zq tb AA (dn T AA ?_))))))));refine sr AA λK4 V=>zq tb AA (zz (Eu h) (D0 F8 AA AA AA) rfl (zq tb AA (dn V AA (AD λK5 W=>bs h0 λo7 b h0=>?_))));have M7:∀(a:Int),o7=a->∀s,Wk 0 s ⟨71,AN (Gc p1 (Ul h a [])),Rw p0 p2 [BQ h]⟩->K5 s:=by
  intro a R s l;subst o7;try dsimp only at h0
  refine W _ (AJ l (AD λK8 X=>AD λK9 Y=>bs h0 λz b h0=>?_));have A:∀(q:Bool),z=q->∀s,Wk 0 s ⟨71,AN (Gc p1 (Ul h a [(31,.bool q)])),Rw p0 p2 [BQ h]⟩->K9 s:=by
   intro q R s l;subst z;try dsimp only at h0
   refine Y _ (AJ l ?_);refine ci h0 AA ?_ ?_<;>clear h0<;>intro b5 h0
   ·refine zr tb AA AA ?_;obtain rfl:=Sh.AB h0;exact rd [(6,i64 (-1))]
   ·refine AG (X _ (zr tb AA AA (AD λZ B=>zr tb AA AA ?_)));obtain⟨t,b,h0⟩:=Sh.Av h0;have b0:∀(o:Int),t=Sum.inr o->∀s,Wk 0 s ⟨71,AN [(9,i64 o)],[]⟩->Z s:=by
     intro o R s l;subst t;try dsimp only at h0
     refine B _ (AJ l (zr tb AA AA ?_));obtain rfl:=Sh.AB h0;exact rt [(6,i64 o)]
    refine AL (Af (σ:=Int×Int) (λn v=>Dv N a p0 p1 p2 h qk n v.1 v.2=some t) (λ(i,j)=>⟨71,AN [(1,ls eI p1),(3,.ptr 0 0 0 0),(5,.ptr 1 0 0 0),(7,ow 2 0 h),(8,i64 a),(9,i64 i),(10,i64 j)],[Rb p0.decls p0.AH,YO p2.op p2.num p2.BB p2.args p2.kids,ro 0 3 1 eI h]⟩) N (0,0) b (AI AA) (λ_ hv=>by rw[Dv]at hv;cases hv) ?_);rintro n ⟨i,j⟩ b;try dsimp only at b⊢
    rw[Dv]at b;refine AD λb6 C=>zr tb AA AA ?_;refine ci b AA ?_ ?_<;>clear b<;>intro b7 b
    ·refine AG (C _ (AD λb8 D=>AL (zr tb AA AA (AD λb1 E=>bs b λF e b=>?_))));have G:∀(d:(List Int)),F=d->∀s,Wk 0 s ⟨71,AN (Gc p1 (Ul h a [(9,i64 i),(10,i64 j),(11,Fs d)])),Rw p0 p2 [BQ h]⟩->b1 s:=by
      intro d R s l;subst F;try dsimp only at b
      refine E _ (AJ l (AD λb9 H=>?_));refine CT (by kernel_rfl) (by kernel_rfl) (by rfl) ?_;iterate 5 refine yq tb rfl ?_
      refine bs b λc0 I b=>yx JF I AA AA AA (yq tb AA (bs b λk J b=>CI (v:=(i64 k)) AR (hb 71) (rN J) rfl AA AA (yq tb AA (BO (H _ (AD λc1 K=>AD λb2 M=>bs b λO e b=>?_))))));have u:∀(x:Bool),O=x->∀s,Wk 0 s ⟨71,AN (Gc p1 (Ul h a [(10,i64 j),(12,i64 k),(68,.bool x)])),Rw p0 p2 [BQ h]⟩->b2 s:=by
       intro x R s l;subst O;try dsimp only at b
       refine M _ (AJ l ?_);refine ci b AA ?_ ?_<;>clear b<;>intro c2 b
       ·refine zr tb AA AA ?_;obtain rfl:=Sh.AB b;try dsimp only[id]at h0
        obtain rfl:=Sh.AB h0;exact rd [(6,i64 (-1))]
       ·exact AG (K _ (AF AA (zm tb 2 AA (dn D AA (AF AA (zm tb 3 AA (AE (xi (k,Sh.w (j+1)) b (AI AA)))))))))
      refine AF AA (zm tb 3 AA ?_);rcases Sh.AU e with ⟨c,e⟩|⟨c,e⟩
      ·refine zs c AA (zs c AA (zs c AA ?_));iterate 3 refine zn rfl ?_
       exact zs c AA (zt c AA (AE (u true (Sh.AB e).symm _ (AI AA))))
      ·refine zg tb c AA (zg tb c AA (zg tb c AA ?_));rcases Sh.AU e with ⟨g,e⟩|⟨g,e⟩
       ·exact zg tb g AA (zg tb g AA (zg tb g AA (Ap (v:=(.bool (!decide (k=i)))) (BH AA AA c) rfl (Cc AA g AA) (zf c AA (AE (u (!decide (k=i)) (Sh.AB e).symm _ (AI AA)))))))
       ·exact zs g AA (zs g AA (zs g AA (Ap (v:=(.bool false)) (BH AA AA c) rfl (CO AA g AA) (zf c AA (AE (u false (Sh.AB e).symm _ (AI AA)))))))
     refine zr tb AA AA ?_;refine ci e AA ?_ ?_<;>clear e<;>intro c3 e
     ·refine CC 9 (by kernel_rfl) (by kernel_rfl) (by rfl) ?_;iterate 5 refine yq tb rfl ?_
      refine bs e λb3 p e=>yz (.ptr 2 0 (Int.toNat j) 0) (Cb BD AA AA AA AA p) rfl (yz (i64 b3) (DQ Ie AA AA (Ed p) rfl) rfl (bs e λb4 P e=>CI (v:=(ls eI b4)) AR (hb 122) (G8 P) rfl AA AA (bs e λy Q e=>?_)));refine CI (v:=(ls eI y)) AR (hb 130) (AS.wk (HP Q) (by refine Wk.trans (Wk.CQ (L:=[(0,ls eI y)]) (st':=XH) (id:=0) rfl qM (AK λ_=>AA) ⟨.CQ AA,mD⟩ AA) ?_;exact Ab [] AA AA .nil (.same AA))) rfl AA AA ?_;exact BO (zq tb AA (AE (G y (Sh.AB e).symm _ (AI AA))))
     ·exact AG (G p1 (Sh.AB e).symm _ (AI AA))
    ·exact Ah (b0 i (Sh.AB b).symm _ (BF _ AA))
  refine AF AA (zm tb 3 AA ?_);rcases Sh.AU b with ⟨f,b⟩|⟨f,b⟩
  ·refine zs f AA ?_;iterate 4 refine zs f rfl ?_
   exact zt f AA (AE (A true (Sh.AB b).symm _ (AI AA)))
  ·exact zg tb f AA (zg tb f AA (Ap (v:=(Sm p2)) (BH AA AA f) rfl (Br Oi AA) (zg tb f AA (zg tb f AA (zf f AA (AE (A (!decide ((Sh.len p2.kids)=a)) (Sh.AB b).symm _ (AI AA))))))))
 refine zr tb AA AA ?_;refine ci b AA ?_ ?_<;>clear b<;>intro c4 b
 ·exact AF AA (zq tb AA (AE (M7 2 (Sh.AB b).symm _ (AI AA))))
 ·exact AG (M7 (Sh.len h) (Sh.AB b).symm _ (AI AA))
theorem Tw {N:Nat}{p0:(List Ac)}{p1 p2 r:Int}(h0:I4 N p0 p1 p2=some r):AS Tryz.prog 147 [EG p0,i64 p1,i64 p2] [] (λv st=>v=(i64 r)/\st=[]):=by
 unfold I4 at h0;refine ai Tryz.func147 AA AA AA AA (zr tb AA AA (AD λy m=>zr tb AA AA ?_));obtain⟨o,c,h0⟩:=Sh.Av h0;have z:∀(_:Unit),o=Sum.inr ()->∀s,Wk 0 s ⟨41,AN [],[]⟩->y s:=by
  intro _ A s p;subst o;try dsimp only at h0
  refine m _ (AJ p (zr tb AA AA ?_));obtain rfl:=Sh.AB h0;exact rt [(6,i64 (-1))]
 refine AL (Af (σ:=Int) (λn v=>E2 p0 p1 p2 n v=some o) (λi=>⟨41,AN [(0,ls Am p0),(1,i64 p1),(2,i64 p2),(7,i64 i)],[]⟩) N 0 c (AI AA) (λ_ x=>by rw[E2]at x;cases x) ?_);rintro n i c;try dsimp only at c⊢
 rw[E2]at c;refine AD λD q=>sr AA λE t=>zm tb 2 AA (zl tb AA AA (zq tb AA (dn t AA ?_)));refine ci c AA ?_ ?_<;>clear c<;>intro F c
 ·refine AG (q _ (AD λB j=>AL (AD λu k=>bs c λl d c=>?_)));have f:∀(g:Bool),l=g->∀s,Wk 0 s ⟨41,AN [(0,EG p0),(1,i64 p1),(2,i64 p2),(7,i64 i),(38,.bool g)],[]⟩->u s:=by
   intro g A s p;subst l;try dsimp only at c
   refine k _ (AJ p ?_);refine ci c AA ?_ ?_<;>clear c<;>intro C c
   ·refine zr tb AA AA ?_;obtain rfl:=Sh.AB c;try dsimp only[id]at h0
    obtain rfl:=Sh.AB h0;exact rt [(6,MO i)]
   ·exact AG (j _ (AF AA (zm tb 3 AA (AE (xi (Sh.w (i+1)) c (AI AA))))))
  refine AF AA (zm tb 2 AA (bs d λh e d=>zx Dl e AA AA AA (zm tb 2 AA (zl tb AA AA (zm tb 2 AA ?_)))));rcases Sh.AU d with ⟨a,d⟩|⟨a,d⟩
  ·refine zg tb a AA (zg tb a AA (Ap (v:=(Sk h)) (BH AA AA a) rfl (Bc Dl AA AA e AA) ?_));iterate 4 refine zg tb a rfl ?_
   refine zt a AA (zq tb AA ?_);rcases Sh.AU d with ⟨b,d⟩|⟨b,d⟩
   ·refine zg tb b AA (zg tb b AA (Ap (v:=(Sk h)) (BH AA AA b) rfl (Bc Dl AA AA e AA) ?_));iterate 4 refine zg tb b rfl ?_
    exact zt b AA (AE (f (decide (h.to=p2)) (Sh.AB d).symm _ (AI AA)))
   ·refine zs b AA ?_;iterate 6 refine zs b rfl ?_
    exact zf b AA (AE (f false (Sh.AB d).symm _ (AI AA)))
  ·refine zs a AA ?_;iterate 6 refine zs a rfl ?_
   refine zf a AA (zq tb AA ?_);iterate 7 refine zs rfl rfl ?_
   exact zf AA AA (AE (f false (Sh.AB d).symm _ (AI AA)))
 ·exact Ah (z () (Sh.AB c).symm _ (AI AA))
theorem MG {N:Nat}{p0:AT}{p1:(List Int)}{p2:Step}{r:Int}(h0:EX N p0 p1 p2=some r):AS Tryz.prog 124 (ax p0 p1 p2) [] (λv st=>v=(i64 r)/\st=[]):=by
 unfold EX at h0;refine ai Tryz.func124 AA AA AA AA (sr AA λK1 F=>Aw (m:=0) AR AA AA AA AA AA (Aw (m:=1) AR AA AA AA AA AA (zq tb AA (dn F AA (AD λK2 G=>sr AA λK3 H=>zm tb 4 AA (zl tb AA AA (zq tb AA (bs h0 λL I h0=>?_))))))));refine zc (hb 117) (Bk I) rfl AA AA (zq tb AA (dn H AA ?_));refine ci h0 AA ?_ ?_<;>clear h0<;>intro M h0
 ·have b6:L=false:=by simpa using M
  refine zr tb AA AA ?_;obtain rfl:=Sh.AB h0;exact rd [(6,i64 (-1))]
 ·have b8:L=true:=by simpa using M
  refine AG (G _ (sr AA λK9 J=>zm tb 4 AA (bs h0 λb g h0=>zx GZ g AA AA AA (zq tb AA (Al (m:=2) AR Ni AA AA (Aq AR Nv AA AA AA AA AA AA qG rfl (dn J AA (sr AA λO h=>zm tb 2 AA (zl tb AA AA ?_)))))))));refine zq tb AA (dn h AA (AD λP k=>zr tb AA AA ?_));refine ci h0 AA ?_ ?_<;>clear h0<;>intro Q h0
  ·refine AD λR l=>sr AA λS n=>zm tb 5 AA (bs h0 λo p h0=>zc (hb 120) (DU p) rfl AA AA (zq tb AA (dn n AA ?_)));refine ci h0 AA ?_ ?_<;>clear h0<;>intro q h0
   ·have T:o=false:=by simpa using q
    refine zr tb AA AA ?_;obtain rfl:=Sh.AB h0;exact rd [(6,i64 (-1))]
   ·have U:o=true:=by simpa using q
    refine AG (l _ (zr tb AA AA ?_));obtain rfl:=Sh.AB h0;exact rd [(6,i64 b.result)]
  ·refine AG (k _ (AD λV t=>AD λK u=>bs h0 λx d h0=>?_));have e:∀(f:Bool),x=f->∀s,Wk 0 s ⟨69,AN [(3,Bm),(7,Dh),(8,Eu b.params),(57,.bool f)],[Rb p0.decls p0.AH,kG b.params b.Ar b.result b.body.steps b.body.result]⟩->K s:=by
    intro f hq s W;subst x;try dsimp only at h0
    refine u _ (AJ W ?_);refine ci h0 AA ?_ ?_<;>clear h0<;>intro X h0
    ·refine zr tb AA AA ?_;obtain rfl:=Sh.AB h0;exact rd [(6,i64 (-1))]
    ·refine AG (t _ (AD λY y=>?_));refine CT (by kernel_rfl) (by kernel_rfl) (by rfl) ?_;iterate 6 refine yq tb rfl ?_
     refine bs h0 λZ z h0=>yx BD z AA AA AA ?_;iterate 3 refine yq tb rfl ?_
     refine bs h0 λA B h0=>CI (v:=(i64 A)) AR (hb 147) (Tw B) rfl AA AA (yq tb AA (BO (y _ ?_)));obtain rfl:=Sh.AB h0;exact rd [(6,i64 A)]
   refine CC 19 (by kernel_rfl) (by kernel_rfl) (by rfl) ?_;iterate 3 refine yq tb rfl ?_
   rcases Sh.AU d with ⟨c,d⟩|⟨c,d⟩
   ·refine ys c AA ?_;iterate 3 refine ys c rfl ?_
    refine yt c AA (yq tb AA ?_);iterate 10 refine ys rfl rfl ?_
    refine BO (zt AA AA ?_);exact AE (e true (Sh.AB d).symm _ (Ab [0,2] AA AA (.raw AA AA (.raw AA AA .nil)) (.same AA)))
   ·refine yg tb c AA (yg tb c AA (IP (v:=(Eu b.Ar)) (BH AA AA c) rfl (Br F8 AA) (yg tb c AA (yf c AA (yq tb AA ?_)))));rcases Sh.AU d with ⟨a,d⟩|⟨a,d⟩
    ·refine ys a AA ?_;iterate 9 refine ys a rfl ?_
     refine BO (zt a AA ?_);exact AE (e true (Sh.AB d).symm _ (Ab [0,2] AA AA (.raw AA AA (.raw AA AA .nil)) (.same AA)))
    ·refine yg tb a AA ?_;iterate 6 refine yg tb a rfl ?_
     refine bs d λb0 C d=>aX (i:=0) (j:=Sh.w ((Sh.len b.params)-1)) (BH AA AA a) BD AA AA AA (λ_=>AA) C (bs d λD E d=>CI (v:=(.bool D)) (BH AA AA a) (hb 120) (DU E) rfl AA AA (yg tb a AA (BO (zf a AA ?_))));exact AE (e (!D) (Sh.AB d).symm _ (Ab [0,2] AA AA (.raw AA AA (.raw AA AA .nil)) (.same AA)))
theorem Lh {p0:(List Ac)}{p1:Int}{r:Bool}(h0:Gq p0 p1=some r):AS Tryz.prog 125 (TY p0 p1) [] (λv st=>v=(.bool r)/\st=[]):=by
 unfold Gq at h0;refine ai Tryz.func125 AA AA AA AA (zr tb AA AA (AD λj d=>bs h0 λh b h0=>?_));have i:∀(c:Bool),h=c->∀s,Wk 0 s ⟨19,AN [(4,.bool c)],[]⟩->j s:=by
  intro c l s k;subst h;try dsimp only at h0
  refine d _ (AJ k ?_);obtain rfl:=Sh.AB h0;exact rt [(4,.bool c)]
 refine AF AA (zm tb 2 AA (zl tb AA AA (bs b λm e b=>zc (hb 117) (Bk e) rfl AA AA (zq tb AA ?_))));rcases Sh.AU b with ⟨a,b⟩|⟨a,b⟩
 ·exact zg tb a AA (zg tb a AA (zg tb a AA (bs b λf g b=>Ap (v:=(Sk f)) (BH AA AA a) rfl (Bc Dl AA AA g AA) (zg tb a AA (zg tb a AA (Ap (v:=(Zk f)) (BH AA AA a) rfl (Br RN AA) (zg tb a AA (zt a AA (zq tb AA (AE (i (decide ((Sh.len f.cons)=0)) (Sh.AB b).symm _ (AI AA))))))))))))
 ·refine zs a AA ?_;iterate 7 refine zs a rfl ?_
  exact zf a AA (zq tb AA (AE (i false (Sh.AB b).symm _ (AI AA))))
theorem LS {p0:AT}{p1:(List Int)}{p2:Step}{r:Int}(h0:FV p0 p1 p2=some r):AS Tryz.prog 126 (ax p0 p1 p2) [] (λv st=>v=(i64 r)/\st=[]):=by
 unfold FV at h0;refine ai Tryz.func126 AA AA AA AA (sr AA λL u=>Aw (m:=0) AR AA AA AA AA AA (Aw (m:=1) AR AA AA AA AA AA (zq tb AA (dn u AA (AD λM w=>AD λG x=>bs h0 λF a h0=>?_)))));have y:∀(z:Bool),F=z->∀s,Wk 0 s ⟨52,AN (Gc p1 [(31,.bool z)]),Rw p0 p2 []⟩->G s:=by
  intro z H s A;subst F;try dsimp only at h0
  refine x _ (AJ A ?_);refine ci h0 AA ?_ ?_<;>clear h0<;>intro N h0
  ·refine zr tb AA AA ?_;obtain rfl:=Sh.AB h0;exact rd [(6,i64 (-1))]
  ·refine AG (w _ (AD λO B=>AD λI C=>bs h0 λi a h0=>?_));have g:∀(h:Bool),i=h->∀s,Wk 0 s ⟨52,AN [(51,.bool h)],[]⟩->I s:=by
    intro h H s A;subst i;try dsimp only at h0
    refine C _ (AJ A ?_);refine ci h0 AA ?_ ?_<;>clear h0<;>intro J h0
    ·refine zr tb AA AA ?_;obtain rfl:=Sh.AB h0;exact rt [(6,i64 (-1))]
    ·refine AG (B _ (zr tb AA AA ?_));obtain rfl:=Sh.AB h0;exact rt [(6,i64 0)]
   refine CT (by kernel_rfl) (by kernel_rfl) (by rfl) ?_;iterate 4 refine yq tb rfl ?_
   rcases Sh.AU a with ⟨e,a⟩|⟨e,a⟩
   ·refine yg tb e AA ?_;iterate 2 refine yg tb e rfl ?_
    refine yt e AA (yq tb AA ?_);rcases Sh.AU a with ⟨d,a⟩|⟨d,a⟩
    ·refine yg tb d AA ?_;iterate 4 refine yg tb d rfl ?_
     exact bs a λD j a=>IP (v:=(Jq D)) (BH AA AA d) rfl (Bc BD AA AA j AA) (yg tb d AA (bs a λE k a=>IP (v:=(Jq E)) (BH AA AA d) rfl (Bc BD AA AA k AA) (yg tb d AA (bs a λl n a=>CI (v:=(.bool l)) (BH AA AA d) (hb 125) (Lh n) rfl AA AA (yt d AA (BO (g l (Sh.AB a).symm _ (BF _ AA))))))))
    ·refine ys d AA ?_;iterate 9 refine ys d rfl ?_
     exact yf d AA (BO (g false (Sh.AB a).symm _ (BF _ AA)))
   ·refine ys e AA ?_;iterate 2 refine ys e rfl ?_
    refine yf e AA (yq tb AA ?_);iterate 10 refine ys rfl rfl ?_
    exact yf AA AA (BO (g false (Sh.AB a).symm _ (BF _ AA)))
 refine AF AA (zm tb 2 AA (zl tb AA AA (zm tb 2 AA ?_)));rcases Sh.AU a with ⟨b,a⟩|⟨b,a⟩
 ·refine zs b AA ?_;iterate 8 refine zs b rfl ?_
  refine zt b AA (zq tb AA ?_);iterate 8 refine zs rfl rfl ?_
  exact zt AA AA (AE (y true (Sh.AB a).symm _ (AI AA)))
 ·refine zg tb b AA (zg tb b AA (bs a λo f a=>Ap (v:=(Jq o)) (BH AA AA b) rfl (Bc BD AA AA f AA) (zg tb b AA (zg tb b AA (Ap (v:=(Eu p1)) (BH AA AA b) rfl (Br F8 AA) (zg tb b AA (bs a λK p a=>zd b (hb 117) (Bk p) rfl AA AA AA (zg tb b AA (zf b AA ?_)))))))));refine zq tb AA ?_;rcases Sh.AU a with ⟨c,a⟩|⟨c,a⟩
  ·refine zs c AA ?_;iterate 7 refine zs c rfl ?_
   exact zt c AA (AE (y true (Sh.AB a).symm _ (AI AA)))
  ·exact zg tb c AA (zg tb c AA (zg tb c AA (Ap (v:=(Jq o)) (BH AA AA c) rfl (Bc BD AA AA f AA) (zg tb c AA (bs a λq t a=>Ap (v:=(Jq q)) (BH AA AA c) rfl (Bc BD AA AA t AA) (zg tb c AA (zg tb c AA (zf c AA (AE (y (decide (q=0)) (Sh.AB a).symm _ (AI AA)))))))))))
theorem S0 {N:Nat}{qk:AT->(List Int)->Block->Option (Int)}(rN :∀{p0:AT} {p1:(List Int)} {p2:Block} {r:Int},qk p0 p1 p2=some r->AS Tryz.prog 71 [G2 p0,ls eI p1,DH p2] [] (λv st=>v=(i64 r)/\st=[])){p0:AT}{p1:(List Int)}{p2:Step}{r:Int}(h0:EF N qk p0 p1 p2=some r):AS Tryz.prog 75 (ax p0 p1 p2) [] (λv st=>v=(i64 r)/\st=[]):=by
 unfold EF at h0;refine ai Tryz.func75 AA AA AA AA (sr AA λK1 k4=>Aw (m:=0) AR AA AA AA AA AA (Aw (m:=1) AR AA AA AA AA AA (zq tb AA (dn k4 AA (AD λK2 k5=>AD λK3 k6=>bs h0 λo5 a h0=>?_)))));have I:∀(t4:Bool),o5=t4->∀s,Wk 0 s ⟨183,AN (Gc p1 [(38,.bool t4)]),Rw p0 p2 []⟩->K3 s:=by
  intro t4 hq s E;subst o5;try dsimp only at h0
  refine k6 _ (AJ E ?_);refine ci h0 AA ?_ ?_<;>clear h0<;>intro b6 h0
  ·refine zr tb AA AA ?_;obtain rfl:=Sh.AB h0;exact rd [(6,i64 (-1))]
  ·refine AG (k5 _ (AD λK8 k7=>?_));obtain⟨o9,a,h0⟩:=Sh.Av h0;have J:∀(_:Unit),o9=Sum.inr ()->∀s,Wk 0 s ⟨183,AN [],[]⟩->K8 s:=by
    intro _ hq s E;subst o9;try dsimp only at h0
    refine k7 _ (AJ E (zr tb AA AA ?_));obtain rfl:=Sh.AB h0;exact rt [(6,i64 (-1))]
   refine zr tb AA AA (AL (zr tb AA AA ?_));refine ci a AA ?_ ?_<;>clear a<;>intro q2 a
   ·refine AD λk8 Z=>bs a λb0 b a=>?_;have b1:∀(P:Bool),b0=P->∀s,Wk 0 s ⟨183,AN [(51,.bool P)],[]⟩->k8 s:=by
     intro P hq s E;subst b0;try dsimp only at a
     refine Z _ (AJ E ?_);refine ci a AA ?_ ?_<;>clear a<;>intro q3 a
     ·refine zr tb AA AA ?_;obtain rfl:=Sh.AB a;try dsimp only[id]at h0
      obtain rfl:=Sh.AB h0;exact rt [(6,i64 0)]
     ·exact AG (J () (Sh.AB a).symm _ (AI AA))
    refine AF AA (zm tb 2 AA (zl tb AA AA (zm tb 2 AA ?_)));rcases Sh.AU b with ⟨B,b⟩|⟨B,b⟩
    ·exact zg tb B AA (zg tb B AA (bs b λk9 b2 b=>zd B (hb 117) (Bk b2) rfl AA AA AA (zt B AA (AE (b1 k9 (Sh.AB b).symm _ (BF _ AA))))))
    ·exact zs B AA (zs B AA (zs B AA (zf B AA (AE (b1 false (Sh.AB b).symm _ (BF _ AA))))))
   ·refine AD λl0 b3=>bs a λb4 b a=>?_;have K:∀(Q:Bool),b4=Q->∀s,Wk 0 s ⟨183,AN (Gc p1 [(40,i64 p2.op),(52,.bool Q)]),Rw p0 p2 []⟩->l0 s:=by
     intro Q hq s E;subst b4;try dsimp only at a
     refine b3 _ (AJ E ?_);refine ci a AA ?_ ?_<;>clear a<;>intro q4 a
     ·refine sr AA λq5 b5=>zm tb 3 AA ?_;refine CE (m:=2) (l:=[(0:Int),0]) (enc:=eI) AR BD (by decide) rfl AA AA AA AA AA ?_;refine Aa (Wk.CQ (L:=[(57,ls eI p1),(59,Q2 p2),(60,ls eI [(0:Int),0])]) (st':=(Rw p0 p2 [⟨1,3,1,[]⟩])) (id:=2) rfl qI (AK λ_=>AA) ⟨.rfl,.rfl,.CQ AA,mD⟩ AA) (bs a λq6 b7 a=>zc (hb 120) (DU b7) rfl AA AA (dn b5 AA ?_));refine ci a AA ?_ ?_<;>clear a<;>intro q7 a
      ·refine zr tb AA AA ?_;obtain rfl:=Sh.AB a;try dsimp only[id]at h0
       obtain rfl:=Sh.AB h0;exact rd [(6,i64 0)]
      ·exact AG (J () (Sh.AB a).symm _ (BF _ AA))
     ·refine zr tb AA AA ?_;refine ci a AA ?_ ?_<;>clear a<;>intro q8 a
      ·refine sr AA λq9 b8=>zm tb 3 AA ?_;refine CE (m:=2) (l:=[(0:Int)]) (enc:=eI) AR BD (by decide) rfl AA AA AA AA AA ?_;refine Aa (Wk.CQ (L:=[(64,ls eI p1),(66,Q2 p2),(67,ls eI [(0:Int)])]) (st':=(Rw p0 p2 [⟨1,3,1,[]⟩])) (id:=2) rfl qI (AK λ_=>AA) ⟨.rfl,.rfl,.CQ AA,mD⟩ AA) (bs a λt0 b9 a=>zc (hb 120) (DU b9) rfl AA AA (dn b8 AA ?_));refine ci a AA ?_ ?_<;>clear a<;>intro t1 a
       ·refine zr tb AA AA ?_;obtain rfl:=Sh.AB a;try dsimp only[id]at h0
        obtain rfl:=Sh.AB h0;exact rd [(6,i64 0)]
       ·exact AG (J () (Sh.AB a).symm _ (BF _ AA))
      ·refine zr tb AA AA ?_;refine ci a AA ?_ ?_<;>clear a<;>intro t2 a
       ·refine AD λl1 c0=>bs a λc1 b a=>?_;have c2:∀(R:Bool),c1=R->∀s,Wk 0 s ⟨183,AN [(3,Bm),(5,Dh),(87,.bool R)],Rw p0 p2 []⟩->l1 s:=by
         intro R hq s E;subst c1;try dsimp only at a
         refine c0 _ (AJ E ?_);refine ci a AA ?_ ?_<;>clear a<;>intro t3 a
         ·refine sr AA λt5 c3=>zm tb 4 AA (bs a λl2 c4 a=>zc (hb 121) (IE c4) rfl AA AA (zq tb AA (dn c3 AA ?_)));obtain rfl:=Sh.AB a;try dsimp only[id]at h0
          obtain rfl:=Sh.AB h0;exact rd [(6,i64 l2)]
         ·exact AG (J () (Sh.AB a).symm _ (BF _ AA))
        refine CC 16 (by kernel_rfl) (by kernel_rfl) (by rfl) ?_;iterate 4 refine yq tb rfl ?_
        refine bs b λl3 c5 b=>CI (v:=(i64 l3)) AR (hb 121) (IE c5) rfl AA AA ?_;iterate 2 refine yq tb rfl ?_
        rcases Sh.AU b with ⟨C,b⟩|⟨C,b⟩
        ·refine yg tb C AA ?_;iterate 6 refine yg tb C rfl ?_
         exact bs b λl4 c6 b=>CI (v:=(ls eI l4)) (BH AA AA C) (hb 122) (G8 c6) rfl AA AA (bs b λc7 c8 b=>CI (v:=(.bool c7)) (BH AA AA C) (hb 120) (DU c8) rfl AA AA (BO (zt C AA (AE (c2 c7 (Sh.AB b).symm _ (AI AA))))))
        ·refine ys C AA ?_;iterate 8 refine ys C rfl ?_
         exact BO (zf C AA (AE (c2 false (Sh.AB b).symm _ (AI AA))))
       ·refine zr tb AA AA ?_;refine ci a AA ?_ ?_<;>clear a<;>intro t6 a
        ·refine sr AA λt7 c9=>zm tb 3 AA ?_;refine CE (m:=2) (l:=[(0:Int)]) (enc:=eI) AR BD (by decide) rfl AA AA AA AA AA ?_;refine Aa (Wk.CQ (L:=(Gc p1 [(95,ls eI p1),(97,Q2 p2),(98,ls eI [(0:Int)])])) (st':=(Rw p0 p2 [⟨1,3,1,[]⟩])) (id:=2) rfl qI (AK λ_=>AA) ⟨.rfl,.rfl,.rfl,.rfl,.rfl,.CQ AA,mD⟩ AA) (bs a λt8 d1 a=>zc (hb 120) (DU d1) rfl AA AA (dn c9 AA ?_));refine ci a AA ?_ ?_<;>clear a<;>intro t9 a
         ·refine sr AA λv0 d2=>zm tb 3 AA (bs a λl5 d3 a=>zc (hb 123) (N2 rN d3) rfl AA AA (zq tb AA (dn d2 AA ?_)));obtain rfl:=Sh.AB a;try dsimp only[id]at h0
          obtain rfl:=Sh.AB h0;exact rd [(6,i64 l5)]
         ·exact AG (J () (Sh.AB a).symm _ (BF _ AA))
        ·refine zr tb AA AA ?_;refine ci a AA ?_ ?_<;>clear a<;>intro v1 a
         ·refine sr AA λv2 d4=>zm tb 5 AA ?_;refine CE (m:=2) (l:=[p2.num]) (enc:=eI) AR BD (by decide) rfl AA AA AA AA AA ?_;refine Aa (Wk.CQ (L:=(Gc p1 [(106,ls eI p1),(108,Q2 p2),(111,ls eI [p2.num])])) (st':=(Rw p0 p2 [⟨1,3,1,[]⟩])) (id:=2) rfl qI (AK λ_=>AA) ⟨.rfl,.rfl,.rfl,.rfl,.rfl,.CQ AA,mD⟩ AA) (bs a λv3 d5 a=>zc (hb 120) (DU d5) rfl AA AA (dn d4 AA ?_));refine ci a AA ?_ ?_<;>clear a<;>intro v4 a
          ·refine sr AA λv5 d6=>zm tb 3 AA (bs a λl6 d7 a=>zc (hb 123) (N2 rN d7) rfl AA AA (zq tb AA (dn d6 AA ?_)));obtain rfl:=Sh.AB a;try dsimp only[id]at h0
           obtain rfl:=Sh.AB h0;exact rd [(6,i64 l6)]
          ·exact AG (J () (Sh.AB a).symm _ (BF _ AA))
         ·refine AD λl7 d8=>bs a λd9 b a=>?_;have g0:∀(S:Bool),d9=S->∀s,Wk 0 s ⟨183,AN (Gc p1 [(40,i64 p2.op),(117,.bool S)]),Rw p0 p2 []⟩->l7 s:=by
           intro S hq s E;subst d9;try dsimp only at a
           refine d8 _ (AJ E ?_);refine ci a AA ?_ ?_<;>clear a<;>intro v6 a
           ·refine sr AA λv7 g1=>zm tb 3 AA (bs a λl8 g2 a=>zc (hb 124) (MG g2) rfl AA AA (zq tb AA (dn g1 AA ?_)));obtain rfl:=Sh.AB a;try dsimp only[id]at h0
            obtain rfl:=Sh.AB h0;exact rd [(6,i64 l8)]
           ·refine zr tb AA AA ?_;refine ci a AA ?_ ?_<;>clear a<;>intro v8 a
            ·refine AD λl9 g3=>bs a λg4 b a=>?_;have T:∀(U:Bool),g4=U->∀s,Wk 0 s ⟨183,AN (Gc p1 [(151,.bool U)]),Rw p0 p2 []⟩->l9 s:=by
              intro U hq s E;subst g4;try dsimp only at a
              refine g3 _ (AJ E ?_);refine ci a AA ?_ ?_<;>clear a<;>intro v9 a
              ·refine AD λw0 g5=>?_;refine IT (by kernel_rfl) ?_;refine bs a λm0 g6 a=>bs a λG g7 a=>bs a λD F a=>LV λvf f=>?_;have k:vf 0 (bm 14 16383) ⟨183,AN (S4 p1 [(7,Dh)]),[YO p2.op p2.num p2.BB p2.args p2.kids,T3 D]⟩:=(f _ _ _).2 (by
                refine GD AA (by kernel_rfl) ?_;refine g5 _ (AD λw1 g8=>?_);refine CC 7 (by kernel_rfl) (by kernel_rfl) (by rfl) ?_;iterate 3 refine yq tb rfl ?_
                refine bs a λw2 g9 a=>aX (i:=1) (j:=Sh.len p2.args) AR BD AA AA AA (λ_=>AA) g9 ?_;iterate 2 refine yq tb rfl ?_
                refine XU (l:=[D.from_]) (enc:=eI) AR BD (by decide) rfl AA AA AA AA (AK λ_=>AA) ?_;refine BO (bs a λh3 H a=>zc (hb 120) (DU H) rfl AA AA (dn g8 AA ?_));refine ci a AA ?_ ?_<;>clear a<;>intro w a
                ·refine zr tb AA AA ?_;obtain rfl:=Sh.AB a;try dsimp only[id]at h0
                 obtain rfl:=Sh.AB h0;exact rd [(6,i64 D.to)]
                ·exact AG (J () (Sh.AB a).symm _ (by refine Wk.trans (Ab (L:=[]) (st':=[]) [] AA AA .nil mD) ?_;exact Ao (L:=[]) mD)))
               have e:vf 1 (bm 14 8191) ⟨183,AN (S4 p1 [(7,Dh),(163,OJ D)]),[YO p2.op p2.num p2.BB p2.args p2.kids,kR]⟩:=(f _ _ _).2 (by
                refine xa [13] ⟨?_,mD⟩
                ·refine xo 13 ?_;exact Aq AR I9 AA AA AA AA AA AA qJ rfl (xd f k))
               have g:vf 2 (bm 14 4095) ⟨183,AN (S4 p1 [(163,OJ D)]),[YO p2.op p2.num p2.BB p2.args p2.kids]⟩:=(f _ _ _).2 (by
                refine xa [12] ⟨?_,mD⟩
                ·refine xo 12 ?_;exact Al (m:=1) AR GY AA AA (xd f e))
               have h:vf 4 (bm 14 4607) ⟨183,AN (S4 p1 [(7,Dh),(153,EG p0.decls),(160,i64 G)]),[YO p2.op p2.num p2.BB p2.args p2.kids,kR]⟩:=(f _ _ _).2 (by
                refine xa [9] ⟨?_,mD⟩
                ·refine xo 9 ?_;refine zq tb AA (AE ⟨AA,?_⟩);refine G9 10 (v:=(Sk D)) rfl (by kernel_rfl) (by kernel_rfl) (Bc Dl AA AA F AA) ?_;refine BU tb 11 AA (by kernel_rfl) rfl ?_;exact xt f e)
               have y:vf 5 (bm 14 511) ⟨183,AN (S4 p1 [(153,EG p0.decls),(160,i64 G)]),[YO p2.op p2.num p2.BB p2.args p2.kids]⟩:=(f _ _ _).2 (by
                refine xa [9,12] ⟨?_,?_,mD⟩
                ·refine xo 9 ?_;refine zq tb AA (AE ⟨AA,?_⟩);refine G9 10 (v:=(Sk D)) rfl (by kernel_rfl) (by kernel_rfl) (Bc Dl AA AA F AA) ?_;refine BU tb 11 AA (by kernel_rfl) rfl ?_;exact xt f g
                ·refine xo 12 ?_;exact Al (m:=1) AR GY AA AA (xd f h))
               have z:vf 5 (bm 14 4605) ⟨183,AN (S4 p1 [(7,Dh),(152,G6),(160,i64 G)]),[YO p2.op p2.num p2.BB p2.args p2.kids,kR,Rb p0.decls p0.AH]⟩:=(f _ _ _).2 (by
                refine xa [1,9] ⟨?_,?_,mD⟩
                ·refine xo 1 ?_;exact zq tb AA (W5 f h (by exact Ab [0,1] AA AA (.raw AA AA (.raw AA AA .nil)) (.same AA)))
                ·refine xo 9 ?_;refine zq tb AA (AE ⟨AA,?_⟩);refine BU tb 1 AA (by kernel_rfl) rfl ?_;refine G9 10 (v:=(Sk D)) rfl (by kernel_rfl) (by kernel_rfl) (Bc Dl AA AA F AA) ?_;refine BU tb 11 AA (by kernel_rfl) rfl ?_;exact xw f e (by exact Ab [0,1] AA AA (.raw AA AA (.raw AA AA .nil)) (.same AA)))
               have A:vf 6 (bm 14 509) ⟨183,AN (S4 p1 [(152,Dh),(160,i64 G)]),[YO p2.op p2.num p2.BB p2.args p2.kids,Rb p0.decls p0.AH]⟩:=(f _ _ _).2 (by
                refine xa [1,9,12] ⟨?_,?_,?_,mD⟩
                ·refine xo 1 ?_;exact zq tb AA (W5 f y (by exact Ab [0] AA AA (.raw AA AA .nil) (.same AA)))
                ·refine xo 9 ?_;refine zq tb AA (AE ⟨AA,?_⟩);refine BU tb 1 AA (by kernel_rfl) rfl ?_;refine G9 10 (v:=(Sk D)) rfl (by kernel_rfl) (by kernel_rfl) (Bc Dl AA AA F AA) ?_;refine BU tb 11 AA (by kernel_rfl) rfl ?_;exact xw f g (by exact Ab [0] AA AA (.raw AA AA .nil) (.same AA))
                ·refine xo 12 ?_;exact Al (m:=2) AR GY AA AA (W5 f z (by exact Ab [0,2,1] AA AA (.raw AA AA (.raw AA AA (.raw AA AA .nil))) (.same AA))))
               refine (f _ _ _).2 ?_;refine BU tb 0 AA (by kernel_rfl) rfl ?_;refine BU tb 2 AA (by kernel_rfl) rfl ?_;refine BU tb 3 AA (by kernel_rfl) rfl ?_;refine BU tb 4 AA (by kernel_rfl) rfl ?_;refine G9 5 (v:=(Jq m0)) rfl (by kernel_rfl) (by kernel_rfl) (Bc BD AA AA g6 AA) ?_;refine BU tb 6 AA (by kernel_rfl) rfl ?_;refine G9 7 (v:=(Jq G)) rfl (by kernel_rfl) (by kernel_rfl) (Bc BD AA AA g7 AA) ?_;refine BU tb 8 AA (by kernel_rfl) rfl ?_;exact xw f A (by exact Ab [1,0] AA AA (.raw AA AA (.raw AA AA .nil)) (.same AA))
              ·exact AG (J () (Sh.AB a).symm _ (BF _ AA))
             refine CT (by kernel_rfl) (by kernel_rfl) (by rfl) ?_;iterate 2 refine yq tb rfl ?_
             refine yl tb AA AA ?_;iterate 2 refine yq tb rfl ?_
             rcases Sh.AU b with ⟨x,b⟩|⟨x,b⟩
             ·refine yg tb x AA (yg tb x AA (bs b λh4 O b=>IP (v:=(Jq h4)) (BH AA AA x) rfl (Bc BD AA AA O AA) ?_));iterate 2 refine yg tb x rfl ?_
              refine IP (v:=(Eu p1)) (BH AA AA x) rfl (Br F8 AA) (yg tb x AA (bs b λh3 H b=>CI (v:=(.bool h3)) (BH AA AA x) (hb 117) (Bk H) rfl AA AA (yt x AA (yq tb AA ?_))));rcases Sh.AU b with ⟨w,b⟩|⟨w,b⟩
              ·refine yg tb w AA ?_;iterate 4 refine yg tb w rfl ?_
               exact IP (v:=(Jq h4)) (BH AA AA w) rfl (Bc BD AA AA O AA) (yg tb w AA (bs b λm1 h5 b=>IP (v:=(Jq m1)) (BH AA AA w) rfl (Bc BD AA AA h5 AA) (yg tb w AA (bs b λh6 h7 b=>CI (v:=(.bool h6)) (BH AA AA w) (hb 125) (Lh h7) rfl AA AA (yt w AA (BO (T h6 (Sh.AB b).symm _ (AI AA))))))))
              ·refine ys w AA ?_;iterate 9 refine ys w rfl ?_
               exact yf w AA (BO (T false (Sh.AB b).symm _ (AI AA)))
             ·refine ys x AA ?_;iterate 7 refine ys x rfl ?_
              refine yf x AA (yq tb AA ?_);iterate 10 refine ys rfl rfl ?_
              exact yf AA AA (BO (T false (Sh.AB b).symm _ (AI AA)))
            ·refine AD λm2 h8=>bs a λh9 b a=>?_;have M:∀(V:Bool),h9=V->∀s,Wk 0 s ⟨183,AN (Gc p1 [(174,.bool V)]),Rw p0 p2 []⟩->m2 s:=by
              intro V hq s E;subst h9;try dsimp only at a
              refine h8 _ (AJ E ?_);refine ci a AA ?_ ?_<;>clear a<;>intro w3 a
              ·refine sr AA λw4 k0=>zm tb 3 AA (bs a λm3 k1 a=>zc (hb 126) (LS k1) rfl AA AA (zq tb AA (dn k0 AA ?_)));obtain rfl:=Sh.AB a;try dsimp only[id]at h0
               obtain rfl:=Sh.AB h0;exact rd [(6,i64 m3)]
              ·exact AG (J () (Sh.AB a).symm _ (BF _ AA))
             refine zr tb AA AA ?_;refine ci b AA ?_ ?_<;>clear b<;>intro m4 b
             ·exact AG (M true (Sh.AB b).symm _ (Ao (L:=(Gc p1 [(174,.bool true)])) ⟨.rfl,.rfl,.rfl,.of (mr AV.bool m4),mD⟩))
             ·refine zr tb AA AA ?_;refine ci b AA ?_ ?_<;>clear b<;>intro m5 b
              ·exact AG (M true (Sh.AB b).symm _ (Ao (L:=(Gc p1 [(174,.bool true)])) ⟨.rfl,.rfl,.rfl,.of (mr AV.bool m5),mD⟩))
              ·refine zr tb AA AA ?_;refine ci b AA ?_ ?_<;>clear b<;>intro m6 b
               ·exact AG (M true (Sh.AB b).symm _ (Ao (L:=(Gc p1 [(174,.bool true)])) ⟨.rfl,.rfl,.rfl,.of (mr AV.bool m6),mD⟩))
               ·exact AF AA (zm tb 2 AA (AE (M (decide (p2.op=17)) (Sh.AB b).symm _ (AI AA))))
          refine zr tb AA AA ?_;refine ci b AA ?_ ?_<;>clear b<;>intro m7 b
          ·exact AG (g0 true (Sh.AB b).symm _ (Ao (L:=(Gc p1 [(40,i64 p2.op),(117,.bool true)])) ⟨.rfl,.rfl,.rfl,.rfl,.of (mr AV.bool m7),mD⟩))
          ·exact AF AA (zm tb 2 AA (AE (g0 (decide (p2.op=10)) (Sh.AB b).symm _ (AI AA))))
    refine zr tb AA AA ?_;refine ci b AA ?_ ?_<;>clear b<;>intro m8 b
    ·exact AG (K true (Sh.AB b).symm _ (Ao (L:=(Gc p1 (dA p2 []))) ⟨.rfl,.rfl,.rfl,.rfl,.of (mr AV.bool m8),mD⟩))
    ·refine zr tb AA AA ?_;refine ci b AA ?_ ?_<;>clear b<;>intro k2 b
     ·exact AG (K true (Sh.AB b).symm _ (Ao (L:=(Gc p1 (dA p2 []))) ⟨.rfl,.rfl,.rfl,.rfl,.of (mr AV.bool k2),mD⟩))
     ·refine zr tb AA AA ?_;refine ci b AA ?_ ?_<;>clear b<;>intro k3 b
      ·exact AG (K true (Sh.AB b).symm _ (Ao (L:=(Gc p1 (dA p2 []))) ⟨.rfl,.rfl,.rfl,.rfl,.of (mr AV.bool k3),mD⟩))
      ·exact AF AA (zm tb 2 AA (AE (K (decide (p2.op=4)) (Sh.AB b).symm _ (AI AA))))
 refine AF AA (zm tb 4 AA ?_);rcases Sh.AU a with ⟨n,a⟩|⟨n,a⟩
 ·refine zg tb n AA (zg tb n AA (bs a λm9 W a=>zd n (hb 118) (PY W) rfl AA AA AA (zg tb n AA (zt n AA (zq tb AA ?_)))));rcases Sh.AU a with ⟨o,a⟩|⟨o,a⟩
  ·refine zs o AA ?_;iterate 3 refine zs o rfl ?_
   refine zt o AA (zq tb AA ?_);iterate 5 refine zs rfl rfl ?_
   iterate 3 refine zn rfl ?_
   refine zs AA AA (zs AA AA ?_);iterate 3 refine zn rfl ?_
   exact zs AA AA (zt AA AA (AE (I true (Sh.AB a).symm _ (AI AA))))
  ·refine zg tb o AA (zg tb o AA (bs a λq0 X a=>zd o (hb 119) (Ia X) rfl AA AA AA (zg tb o AA (zf o AA (zq tb AA ?_)))));rcases Sh.AU a with ⟨c,a⟩|⟨c,a⟩
   ·refine zs c AA ?_;iterate 4 refine zs c rfl ?_
    iterate 3 refine zn rfl ?_
    refine zs c AA (zs c AA ?_);iterate 3 refine zn rfl ?_
    exact zs c AA (zt c AA (AE (I true (Sh.AB a).symm _ (AI AA))))
   ·refine zg tb c AA (zg tb c AA (Ap (v:=(Sm p2)) (BH AA AA c) rfl (Br Oi AA) (zg tb c AA (zg tb c AA ?_))));rcases Sh.AU a with ⟨p,a⟩|⟨p,a⟩
    ·refine zg tb p AA (zg tb p AA (zg tb p AA (Ap (v:=(.bool (!decide (p2.op=7)))) (BH AA AA c) rfl (Cc AA p AA) (zg tb c AA ?_))));rcases Sh.AU a with ⟨q,a⟩|⟨q,a⟩
     ·exact zg tb q AA (zg tb q AA (zg tb q AA (Ap (v:=(.bool (!decide (p2.op=8)))) (BH AA AA c) rfl (Cc AA q AA) (zf c AA (AE (I (!decide (p2.op=8)) (Sh.AB a).symm _ (AI AA)))))))
     ·exact zs q AA (zs q AA (zs q AA (Ap (v:=(.bool false)) (BH AA AA c) rfl (CO AA q AA) (zf c AA (AE (I false (Sh.AB a).symm _ (AI AA)))))))
    ·refine zs p AA (zs p AA (zs p AA (Ap (v:=(.bool false)) (BH AA AA c) rfl (CO AA p AA) (zg tb c AA ?_))));iterate 3 refine zs rfl rfl ?_
     exact Ap (v:=(.bool false)) (BH AA AA c) rfl (CO AA AA AA) (zf c AA (AE (I false (Sh.AB a).symm _ (AI AA))))
 ·refine zs n AA ?_;iterate 3 refine zs n rfl ?_
  refine zf n AA (zq tb AA (zg tb AA AA (zg tb AA AA (bs a λq1 Y a=>zd AA (hb 119) (Ia Y) rfl AA AA AA (zg tb AA AA (zf AA AA (zq tb AA ?_)))))));rcases Sh.AU a with ⟨d,a⟩|⟨d,a⟩
  ·refine zs d AA ?_;iterate 4 refine zs d rfl ?_
   iterate 3 refine zn rfl ?_
   refine zs d AA (zs d AA ?_);iterate 3 refine zn rfl ?_
   exact zs d AA (zt d AA (AE (I true (Sh.AB a).symm _ (AI AA))))
  ·refine zg tb d AA (zg tb d AA (Ap (v:=(Sm p2)) (BH AA AA d) rfl (Br Oi AA) (zg tb d AA (zg tb d AA ?_))));rcases Sh.AU a with ⟨t,a⟩|⟨t,a⟩
   ·refine zg tb t AA (zg tb t AA (zg tb t AA (Ap (v:=(.bool (!decide (p2.op=7)))) (BH AA AA d) rfl (Cc AA t AA) (zg tb d AA ?_))));rcases Sh.AU a with ⟨u,a⟩|⟨u,a⟩
    ·exact zg tb u AA (zg tb u AA (zg tb u AA (Ap (v:=(.bool (!decide (p2.op=8)))) (BH AA AA d) rfl (Cc AA u AA) (zf d AA (AE (I (!decide (p2.op=8)) (Sh.AB a).symm _ (AI AA)))))))
    ·exact zs u AA (zs u AA (zs u AA (Ap (v:=(.bool false)) (BH AA AA d) rfl (CO AA u AA) (zf d AA (AE (I false (Sh.AB a).symm _ (AI AA)))))))
   ·refine zs t AA (zs t AA (zs t AA (Ap (v:=(.bool false)) (BH AA AA d) rfl (CO AA t AA) (zg tb d AA ?_))));iterate 3 refine zs rfl rfl ?_
    exact Ap (v:=(.bool false)) (BH AA AA d) rfl (CO AA AA AA) (zf d AA (AE (I false (Sh.AB a).symm _ (AI AA))))
theorem Ti {p0:Int}{r:Bool}(h0:Hl p0=some r):AS Tryz.prog 116 [i64 p0] [] (λv st=>v=(.bool r)/\st=[]):=by
 unfold Hl at h0;refine ai Tryz.func116 AA AA AA AA (zr tb AA AA (sr AA λd a=>zq tb AA (bs h0 λc b h0=>zc (hb 117) (Bk b) rfl AA AA (zq tb AA (dn a AA ?_)))));obtain rfl:=Sh.AB h0;exact rt [(2,.bool c)]
theorem QX {N:Nat}{qk:AT->(List Int)->Block->Option (Int)}(rN :∀{p0:AT} {p1:(List Int)} {p2:Block} {r:Int},qk p0 p1 p2=some r->AS Tryz.prog 71 [G2 p0,ls eI p1,DH p2] [] (λv st=>v=(i64 r)/\st=[])){p0:AT}{p1:(List Int)}{p2:Block}{r:Int}(h0:Dw N qk p0 p1 p2=some r):AS Tryz.prog 71 [G2 p0,ls eI p1,DH p2] [] (λv st=>v=(i64 r)/\st=[]):=by
 unfold Dw at h0;refine ai Tryz.func71 AA AA AA AA (sr AA λK1 K=>Aw (m:=0) AR AA AA AA AA AA (Aw (m:=1) AR AA AA AA AA AA (zq tb AA (dn K AA (sr AA λK2 M=>zq tb AA (bs h0 λT O h0=>BE (v':=(ow 2 0 T)) AR (hb 74) (FB O) rfl AA ⟨(Ay λ_=>AA),mD⟩ AA AA (zq tb AA (dn M AA ?_))))))));refine AD λV P=>zr tb AA AA ?_;obtain⟨Q,b,h0⟩:=Sh.Av h0;have W:∀(h:(List Int)),Q=Sum.inr h->∀s,Wk 0 s ⟨52,AN [(5,Bm),(7,ow 1 0 h)],[Vw p2.steps p2.result,BQ h]⟩->V s:=by
  intro h X s R;subst Q;try dsimp only at h0
  refine P _ (AJ R (AD λY i=>sr AA λZ j=>zm tb 3 AA (zz (Eu h) (D0 F8 AA AA AA) rfl (zq tb AA (bs h0 λk o h0=>zc (hb 117) (Bk o) rfl AA AA (zq tb AA (dn j AA ?_)))))));refine ci h0 AA ?_ ?_<;>clear h0<;>intro p h0
  ·have b0:k=false:=by simpa using p
   refine zr tb AA AA ?_;obtain rfl:=Sh.AB h0;exact rd [(6,i64 (-1))]
  ·have b1:k=true:=by simpa using p
   refine AG (i _ (sr AA λb2 q=>zm tb 3 AA (bs h0 λt e h0=>zz (.ptr 1 0 (Int.toNat p2.result) 0) (Cb BD AA AA AA AA e) rfl (zz (i64 t) (DQ Ie AA AA (Ed e) rfl) rfl (zq tb AA (dn q AA ?_))))));obtain rfl:=Sh.AB h0;exact rd [(6,i64 t)]
 refine AL (Af (σ:=Int×(List Int)) (λn v=>BS N p0 p2 qk n v.1 v.2=some Q) (λ(u,x)=>⟨52,AN [(3,.ptr 0 0 0 0),(5,.ptr 1 0 0 0),(7,ow 2 0 x),(8,i64 u)],[Rb p0.decls p0.AH,Vw p2.steps p2.result,ro 0 3 1 eI x]⟩) N (0,T) b (AI AA) (λ_ U=>by rw[BS]at U;cases U) ?_);rintro n ⟨u,x⟩ b;try dsimp only at b⊢
 rw[BS]at b;refine AD λb3 y=>sr AA λb4 z=>zm tb 3 AA (zl tb AA AA (zq tb AA (dn z AA ?_)));refine ci b AA ?_ ?_<;>clear b<;>intro b5 b
 ·refine AG (y _ (AD λS A=>?_));obtain⟨B,a,b⟩:=Sh.Av b;have C:∀(c:(List Int)),B=Sum.inr c->∀s,Wk 0 s ⟨52,AN ((3,Bm)::(5,Dh)::Ul c u []),[Rb p0.decls p0.AH,Vw p2.steps p2.result,BQ c]⟩->S s:=by
   intro c X s R;subst B;try dsimp only at b
   exact A _ (AJ R (AF AA (zm tb 3 AA (AE (xi (Sh.w (u+1),c) b (AI AA))))))
  refine AL (AD λb6 D=>?_);refine CT (by kernel_rfl) (by kernel_rfl) (by rfl) ?_;iterate 5 refine yq tb rfl ?_
  refine bs a λE f a=>yz (Lj E) (E3 DT AA AA f (CK _) rfl) rfl (yq tb AA (bs a λd F a=>WA (v':=(i64 d)) AR (hb 75) (S0 rN F) rfl (.val AA (.own AA AA (λ_=>AA) (.val AA .nil))) rfl AA (yq tb AA (BO (D _ (AD λb7 G=>zr tb AA AA ?_))))));refine ci a AA ?_ ?_<;>clear a<;>intro b8 a
  ·refine zr tb AA AA ?_;obtain rfl:=Sh.AB a;try dsimp only[id]at b
   obtain rfl:=Sh.AB b;try dsimp only[id]at h0
   obtain rfl:=Sh.AB h0;exact rd [(6,i64 (-1))]
  ·refine AG (G _ (sr AA λb9 H=>zm tb 3 AA (zz (Lj E) (E3 DT AA AA f (CK _) rfl) rfl (zm tb 2 AA (bs a λc0 I a=>zc (hb 116) (Ti I) rfl AA AA (dn H AA ?_))))));refine ci a AA ?_ ?_<;>clear a<;>intro c1 a
   ·refine AF AA (zm tb 2 AA ?_);refine CE (m:=3) (l:=[d]) (enc:=eI) AR BD (by decide) rfl AA AA AA AA AA ?_;refine bs a λg J a=>Cd (l2:=[d]) AR BD AA AA AA AA (H6 AA AA) (λ_=>AA) J AA (zq tb AA ?_);exact AE (C g (Sh.AB a).symm _ (by refine Wk.trans (CJ (L:=((3,Bm)::(5,Dh)::Ul g u [])) (st':=[Rb p0.decls p0.AH,Vw p2.steps p2.result,BQ g,Qr d]) (.raw AA AA (.raw AA AA (.pure (AK λ_=>AA) (.pure (AK λ_=>AA) .nil)))) (.same AA)) ?_;exact Ab [0,1,2] AA AA (.raw AA AA (.raw AA AA (.pure (AK λ_=>AA) .nil))) (.same AA)))
   ·exact AG (C x (Sh.AB a).symm _ (AI AA))
 ·exact Ah (W x (Sh.AB b).symm _ (Ab [1,2] AA AA (.raw AA AA (.pure (AK λ_=>AA) .nil)) (.same AA)))
theorem Ps {N:Nat}:∀(n:Nat),∀{p0:AT} {p1:(List Int)} {p2:Block} {r:Int},Db N n p0 p1 p2=some r->AS Tryz.prog 71 [G2 p0,ls eI p1,DH p2] [] (λv st=>v=(i64 r)/\st=[]):=by
 intro n
 induction n with
 | zero=>intro p0 p1 p2 r a;cases a
 | succ n ih=>
  intro p0 p1 p2 r a;rw[Db]at a;exact QX (λh=>ih h) a
theorem NT {N:Nat}:∀{p0:AT} {p1:(List Int)} {p2:Block} {r:Int},Bl N p0 p1 p2=some r->AS Tryz.prog 71 [G2 p0,ls eI p1,DH p2] [] (λv st=>v=(i64 r)/\st=[]):=by
 intro p0 p1 p2 r a;exact Ps N a
theorem P5 {N:Nat}{p0:AT}{r:Bool}(h0:FF N p0=some r):AS Tryz.prog 34 [G2 p0] [] (λv st=>v=(.bool r)/\st=[]):=by
 unfold FF at h0;refine ai Tryz.func34 AA AA AA AA (sr AA λT x=>Aw (m:=0) AR AA AA AA AA AA (zq tb AA (dn x AA (AD λU y=>sr AA λV z=>zq tb AA (bs h0 λH A h0=>zc (hb 70) (N5 A) rfl AA AA (zq tb AA (dn z AA ?_)))))));refine ci h0 AA ?_ ?_<;>clear h0<;>intro I h0
 ·have W:H=false:=by simpa using I
  refine zr tb AA AA ?_;obtain rfl:=Sh.AB h0;exact rd [(2,.bool false)]
 ·have X:H=true:=by simpa using I
  refine AG (y _ (AD λK B=>zr tb AA AA ?_));obtain⟨e,b,h0⟩:=Sh.Av h0;have C:∀(_:Unit),e=Sum.inr ()->∀s,Wk 0 s ⟨35,AN [],[]⟩->K s:=by
   intro _ L s D;subst e;try dsimp only at h0
   refine B _ (AJ D (zr tb AA AA ?_));obtain rfl:=Sh.AB h0;exact rt [(2,.bool true)]
  refine AL (Af (σ:=Int) (λn v=>Ca N p0 n v=some e) (λc=>⟨35,AN [(1,.ptr 0 0 0 0),(3,i64 c)],[Rb p0.decls p0.AH]⟩) N 0 b (AI AA) (λ_ J=>by rw[Ca]at J;cases J) ?_);rintro n c b;try dsimp only at b⊢
  rw[Ca]at b;refine AD λM g=>sr AA λO h=>zm tb 3 AA (zl tb AA AA (zq tb AA (dn h AA ?_)));refine ci b AA ?_ ?_<;>clear b<;>intro P b
  ·refine AG (g _ (AD λQ i=>AL (sr AA λR j=>zm tb 3 AA (bs b λE k b=>zx GZ k AA AA AA (zq tb AA (Al (m:=1) AR Ni AA AA (Aq AR Nv AA AA AA AA AA AA qG rfl (dn j AA (AD λF l=>?_)))))))));refine bs b λo d b=>?_;have p:∀(f:Bool),o=f->∀s,Wk 0 s ⟨35,AN [(1,Bm),(3,i64 c),(34,.bool f)],[Rb p0.decls p0.AH]⟩->F s:=by
    intro f L s D;subst o;try dsimp only at b
    refine l _ (AJ D ?_);refine ci b AA ?_ ?_<;>clear b<;>intro S b
    ·refine zr tb AA AA ?_;obtain rfl:=Sh.AB b;try dsimp only[id]at h0
     obtain rfl:=Sh.AB h0;exact rd [(2,.bool false)]
    ·exact AG (i _ (AF AA (zm tb 3 AA (AE (xi (Sh.w (c+1)) b (AI AA))))))
   refine CT (by kernel_rfl) (by kernel_rfl) (by rfl) ?_;iterate 2 refine yq tb rfl ?_
   refine bs d λG q d=>CI (v:=(i64 G)) AR (hb 36) (OG q) rfl AA AA ?_;iterate 2 refine yq tb rfl ?_
   rcases Sh.AU d with ⟨a,d⟩|⟨a,d⟩
   ·refine ys a AA ?_;iterate 8 refine ys a rfl ?_
    refine yt a AA ?_;exact BO (p true (Sh.AB d).symm _ (Ab [0] AA AA (.raw AA AA .nil) (.same AA)))
   ·refine yg tb a AA ?_;iterate 4 refine yg tb a rfl ?_
    refine bs d λt u d=>CI (v:=(i64 t)) (BH AA AA a) (hb 71) (NT u) rfl AA AA ?_;iterate 3 refine yg tb a rfl ?_
    refine yf a AA ?_;exact BO (p (!decide (t=E.result)) (Sh.AB d).symm _ (Ab [0] AA AA (.raw AA AA .nil) (.same AA)))
  ·exact Ah (C () (Sh.AB b).symm _ (BF _ AA))
theorem Qy {p0:Int}{r:Bool}(h0:IA p0=some r):AS Tryz.prog 72 [i64 p0] [] (λv st=>v=(.bool r)/\st=[]):=by
 unfold IA at h0;refine ai Tryz.func72 AA AA AA AA (zr tb AA AA (sr AA λd a=>zq tb AA (bs h0 λc b h0=>zc (hb 117) (Bk b) rfl AA AA (zq tb AA (dn a AA ?_)))));obtain rfl:=Sh.AB h0;exact rt [(2,.bool c)]
theorem Pg {N:Nat}{qw:Block->Option (Bool)}(sU :∀{p0:Block} {r:Bool},qw p0=some r->AS Tryz.prog 35 [DH p0] [] (λv st=>v=(.bool r)/\st=[])){p0:Block}{r:Bool}(h0:Ih N qw p0=some r):AS Tryz.prog 35 [DH p0] [] (λv st=>v=(.bool r)/\st=[]):=by
 unfold Ih at h0;refine ai Tryz.func35 AA AA AA AA (sr AA λK1 H=>Aw (m:=0) AR AA AA AA AA AA (zq tb AA (dn H AA (AD λR I=>zr tb AA AA ?_))));obtain⟨J,b,h0⟩:=Sh.Av h0;have S:∀(_:Unit),J=Sum.inr ()->∀s,Wk 0 s ⟨50,AN [],[]⟩->R s:=by
  intro _ Q s k;subst J;try dsimp only at h0
  refine I _ (AJ k (zr tb AA AA ?_));obtain rfl:=Sh.AB h0;exact rt [(2,.bool true)]
 refine AL (Af (σ:=Int) (λn v=>Dj N p0 qw n v=some J) (λf=>⟨50,AN [(1,.ptr 0 0 0 0),(3,i64 f)],[Vw p0.steps p0.result]⟩) N 0 b (AI AA) (λ_ l=>by rw[Dj]at l;cases l) ?_);rintro n f b;try dsimp only at b⊢
 rw[Dj]at b;refine AD λK7 K=>sr AA λK8 L=>zm tb 3 AA (zl tb AA AA (zq tb AA (dn L AA ?_)));refine ci b AA ?_ ?_<;>clear b<;>intro b9 b
 ·refine AG (K _ (AD λM o=>AL (AD λT p=>AD λO q=>bs b λt a b=>?_)));have u:∀(g:Bool),t=g->∀s,Wk 0 s ⟨50,AN [(1,Bm),(3,i64 f),(27,.bool g)],[Vw p0.steps p0.result]⟩->O s:=by
   intro g Q s k;subst t;try dsimp only at b
   refine q _ (AJ k ?_);refine ci b AA ?_ ?_<;>clear b<;>intro U b
   ·refine zr tb AA AA ?_;obtain rfl:=Sh.AB b;try dsimp only[id]at h0
    obtain rfl:=Sh.AB h0;exact rd [(2,.bool false)]
   ·refine AG (p _ (zr tb AA AA ?_));obtain⟨h,a,b⟩:=Sh.Av b;have P:∀(_:Unit),h=Sum.inr ()->∀s,Wk 0 s ⟨50,AN [(1,Bm),(3,i64 f)],[Vw p0.steps p0.result]⟩->M s:=by
     intro _ Q s k;subst h;try dsimp only at b
     exact o _ (AJ k (AF AA (zm tb 3 AA (AE (xi (Sh.w (f+1)) b (AI AA))))))
    refine AL (Af (σ:=Int) (λn v=>DD f p0 qw n v=some h) (λi=>⟨50,AN [(1,.ptr 0 0 0 0),(3,i64 f),(4,i64 i)],[Vw p0.steps p0.result]⟩) N 0 a (AI AA) (λ_ l=>by rw[DD]at l;cases l) ?_);rintro n i a;try dsimp only at a⊢
    rw[DD]at a;refine AD λV x=>sr AA λW y=>zm tb 4 AA (bs a λz d a=>zz (Lj z) (E3 DT AA AA d (CK _) rfl) rfl (zm tb 2 AA (zl tb AA AA (zq tb AA (dn y AA ?_)))));refine ci a AA ?_ ?_<;>clear a<;>intro X a
    ·refine AG (x _ (AD λY A=>AL (sr AA λZ B=>zm tb 3 AA (zz (Lj z) (E3 DT AA AA d (CK _) rfl) rfl (zm tb 3 AA (bs a λb0 C a=>zx JF C AA AA AA (zq tb AA (bs a λD E a=>zc (hb 35) (sU E) rfl AA AA ?_))))))));refine zq tb AA (dn B AA ?_);refine ci a AA ?_ ?_<;>clear a<;>intro F a
     ·have b1:D=false:=by simpa using F
      refine zr tb AA AA ?_;obtain rfl:=Sh.AB a;try dsimp only[id]at b
      obtain rfl:=Sh.AB b;try dsimp only[id]at h0
      obtain rfl:=Sh.AB h0;exact rd [(2,.bool false)]
     ·have b2:D=true:=by simpa using F
      exact AG (A _ (AF AA (zm tb 3 AA (AE (xi (Sh.w (i+1)) a (AI AA))))))
    ·exact Ah (P () (Sh.AB a).symm _ (AI AA))
  refine AF AA (zm tb 3 AA (bs a λj e a=>zz (Lj j) (E3 DT AA AA e (CK _) rfl) rfl (zm tb 2 AA (bs a λb3 G a=>zc (hb 72) (Qy G) rfl AA AA (zq tb AA ?_)))));rcases Sh.AU a with ⟨c,a⟩|⟨c,a⟩
  ·refine zs c AA ?_;iterate 6 refine zs c rfl ?_
   exact zt c AA (AE (u true (Sh.AB a).symm _ (AI AA)))
  ·refine zg tb c AA (zg tb c AA (zg tb c AA (Ap (v:=(Lj j)) (BH AA AA c) rfl (E3 DT AA AA e (CK _) rfl) ?_)));iterate 3 refine zg tb c rfl ?_
   exact zf c AA (AE (u (!decide (j.BB=0)) (Sh.AB a).symm _ (AI AA)))
 ·exact Ah (S () (Sh.AB b).symm _ (BF _ AA))
theorem Pm {N:Nat}:∀(n:Nat),∀{p0:Block} {r:Bool},FX N n p0=some r->AS Tryz.prog 35 [DH p0] [] (λv st=>v=(.bool r)/\st=[]):=by
 intro n
 induction n with
 | zero=>intro p0 r a;cases a
 | succ n ih=>
  intro p0 r a;rw[FX]at a;exact Pg (λh=>ih h) a
theorem RB {N:Nat}:∀{p0:Block} {r:Bool},Ju N p0=some r->AS Tryz.prog 35 [DH p0] [] (λv st=>v=(.bool r)/\st=[]):=by
 intro p0 r a;exact Pm N a
theorem UB {N:Nat}{p0:AT}{r:Bool}(h0:Hk N p0=some r):AS Tryz.prog 13 [G2 p0] [] (λv st=>v=(.bool r)/\st=[]):=by
 unfold Hk at h0;refine ai Tryz.func13 AA AA AA AA (sr AA λK l=>Aw (m:=0) AR AA AA AA AA AA (zq tb AA (dn l AA (AD λL o=>sr AA λM p=>zq tb AA (bs h0 λx q h0=>zc (hb 34) (P5 q) rfl AA AA (zq tb AA (dn p AA ?_)))))));refine ci h0 AA ?_ ?_<;>clear h0<;>intro y h0
 ·have O:x=false:=by simpa using y
  refine zr tb AA AA ?_;obtain rfl:=Sh.AB h0;exact rd [(2,.bool false)]
 ·have P:x=true:=by simpa using y
  refine AG (o _ (AD λA t=>zr tb AA AA ?_));obtain⟨b,a,h0⟩:=Sh.Av h0;have u:∀(_:Unit),b=Sum.inr ()->∀s,Wk 0 s ⟨22,AN [],[]⟩->A s:=by
   intro _ Q s B;subst b;try dsimp only at h0
   refine t _ (AJ B (zr tb AA AA ?_));obtain rfl:=Sh.AB h0;exact rt [(2,.bool true)]
  refine AL (Af (σ:=Int) (λn v=>Fe N p0 n v=some b) (λc=>⟨22,AN [(1,.ptr 0 0 0 0),(3,i64 c)],[Rb p0.decls p0.AH]⟩) N 0 a (AI AA) (λ_ z=>by rw[Fe]at z;cases z) ?_);rintro n c a;try dsimp only at a⊢
  rw[Fe]at a;refine AD λC d=>sr AA λD e=>zm tb 3 AA (zl tb AA AA (zq tb AA (dn e AA ?_)));refine ci a AA ?_ ?_<;>clear a<;>intro E a
  ·refine AG (d _ (AD λF f=>AL (sr AA λG g=>zm tb 3 AA (bs a λH h a=>zx GZ h AA AA AA (zm tb 2 AA (bs a λi j a=>zc (hb 35) (RB j) rfl AA AA (zq tb AA (dn g AA ?_))))))));refine ci a AA ?_ ?_<;>clear a<;>intro k a
   ·have I:i=false:=by simpa using k
    refine zr tb AA AA ?_;obtain rfl:=Sh.AB a;try dsimp only[id]at h0
    obtain rfl:=Sh.AB h0;exact rd [(2,.bool false)]
   ·have J:i=true:=by simpa using k
    exact AG (f _ (AF AA (zm tb 3 AA (AE (xi (Sh.w (c+1)) a (AI AA))))))
  ·exact Ah (u () (Sh.AB a).symm _ (BF _ AA))
theorem R5 {N:Nat}{p0:(List Ac)}{r:(List Ac)}(h0:Iz N p0=some r):AS Tryz.prog 37 [EG p0] [] (λv st=>v=(ow 0 0 r)/\st=[bF r]):=by
 unfold Iz at h0;refine ai Tryz.func37 AA AA AA AA (zr tb AA AA (sr AA λK2 K=>?_));refine CE (m:=0) (l:=([]:List Ac)) (enc:=Am) AR Dl (by decide) rfl AA AA AA AA AA ?_;refine zq tb AA (dn K AA (AD λT M=>zr tb AA AA (bs h0 λO c h0=>?_)));have U:∀(t:(List Ac)),O=t->∀s,Wk 0 s ⟨55,AN [(3,ow 0 0 t)],[bF t]⟩->T s:=by
  intro t V s P;subst O;try dsimp only at h0
  refine M _ (AJ P (zr tb AA AA ?_));obtain rfl:=Sh.AB h0;exact rt [(2,ow 0 0 t)]
 refine AL (Af (σ:=Int×(List Ac)) (λn v=>El N p0 n v.1 v.2=some O) (λ(i,d)=>⟨55,AN [(0,ls Am p0),(3,ow 0 0 d),(4,i64 i)],[ro 0 83 3 Am d]⟩) N (0,[]) c (AI AA) (λ_ u=>by rw[El]at u;cases u) ?_);rintro n ⟨i,d⟩ c;try dsimp only at c⊢
 rw[El]at c;refine AD λW y=>sr AA λX z=>zm tb 2 AA (zl tb AA AA (zq tb AA (dn z AA ?_)));refine ci c AA ?_ ?_<;>clear c<;>intro Y c
 ·refine AG (y _ (AD λZ A=>AL (sr AA λb0 B=>?_)));refine CE (m:=1) (l:=([]:List Bh)) (enc:=Bv) AR KV (by decide) rfl AA AA AA AA AA ?_;refine zq tb AA (dn B AA (AD λQ C=>zr tb AA AA (bs c λo a c=>?_)));have R:∀(b:(List Bh)),o=b->∀s,Wk 0 s ⟨55,AN [(0,EG p0),(3,ow 0 0 d),(4,i64 i),(5,ow 1 0 b)],[bF d,ro 0 116 1 Bv b]⟩->Q s:=by
   intro b V s P;subst o;try dsimp only at c
   refine C _ (AJ P (AJ (Wk.CQ (L:=[(0,EG p0),(3,ow 0 0 d),(4,i64 i),(5,ls Bv b)]) (st':=[bF d,⟨1,116,1,[]⟩]) (id:=1) rfl qN (AK λ_=>AA) ⟨.rfl,.rfl,.rfl,.CQ AA,mD⟩ AA) ?_));refine CC 14 (by kernel_rfl) (by kernel_rfl) (by rfl) ?_;iterate 3 refine yq tb rfl ?_
   refine bs c λe j c=>yx Dl j AA AA AA ?_;iterate 4 refine yq tb rfl ?_
   refine yx Dl j AA AA AA ?_;iterate 3 refine yq tb rfl ?_
   refine yz (.agg [i64 e.from_,i64 e.to,ls Bv b]) (Fo jV jZ GY AA AA) rfl ?_;refine XU (l:=[Ac.mk e.from_ e.to b]) (enc:=Am) AR Dl (by decide) rfl AA AA AA AA (AK λ_=>AA) ?_;refine BO (bs c λp D c=>Cd (l2:=[Ac.mk e.from_ e.to b]) AR Dl AA AA AA AA Nq (λ_=>AA) D AA (zq tb AA (dn A AA (AF AA (zm tb 3 AA ?_)))));exact AE (xi (Sh.w (i+1),p) c (by refine Wk.trans (CJ (L:=[(0,EG p0),(3,ow 0 0 p),(4,MO i)]) (st':=[bF p,⟨0,116,1,[]⟩]) (.pure (AK λ_=>AA) (.pure (by intro x S;cases S) .nil)) (.same AA)) ?_;exact Ab [0] AA AA (.pure (AK λ_=>AA) .nil) (.same AA)))
  refine AL (Af (σ:=Int×(List Bh)) (λn v=>EC i p0 n v.1 v.2=some o) (λ(h,f)=>⟨55,AN [(0,ls Am p0),(3,ow 0 0 d),(4,i64 i),(5,ow 1 0 f),(6,i64 h)],[ro 0 83 3 Am d,ro 0 116 1 Bv f]⟩) N (0,[]) a (AI AA) (λ_ u=>by rw[EC]at u;cases u) ?_);rintro n ⟨h,f⟩ a;try dsimp only at a⊢
  rw[EC]at a;refine AD λb1 E=>sr AA λb2 F=>zm tb 3 AA (bs a λb3 k a=>zx Dl k AA AA AA (zm tb 2 AA (zl tb AA AA (zq tb AA (dn F AA ?_)))));refine ci a AA ?_ ?_<;>clear a<;>intro b4 a
  ·refine AG (E _ (AD λb5 G=>AL (AF AA (zm tb 3 AA (zx Dl k AA AA AA (zm tb 3 AA (bs a λb6 H a=>zx KV H AA AA AA (zm tb 2 AA (bs a λg I a=>BE (v':=(ow 2 0 g)) AR (hb 74) (FB I) rfl AA ⟨(Ay λ_=>AA),mD⟩ AA AA ?_)))))))));refine zz (.agg [ow 2 0 g]) (Fo fK eo OB AA AA) rfl (Aa (Wk.CQ (L:=[(0,EG p0),(3,ow 0 0 d),(4,i64 i),(6,i64 h),(25,ow 1 0 f),(36,.agg [ls eI g])]) (st':=[bF d,ro 0 116 1 Bv f,⟨1,3,1,[]⟩]) (id:=2) rfl qI (AK λ_=>AA) ⟨.rfl,.rfl,.rfl,.rfl,.rfl,.agg ⟨.Hr AA,mD⟩,mD⟩ AA) ?_);refine CE (m:=3) (l:=[Bh.mk g]) (enc:=Bv) AR KV (by decide) rfl AA AA AA AA AA ?_;refine bs a λq J a=>Cd (l2:=[Bh.mk g]) AR KV AA AA AA AA (H6 AA AA) (λ_=>AA) J AA (zq tb AA (dn G AA (AF AA (zm tb 3 AA ?_))));exact AE (xi (Sh.w (h+1),q) a (by refine Wk.trans (CJ (L:=[(0,EG p0),(3,ow 0 0 d),(4,i64 i),(5,ow 1 0 q),(6,MO h)]) (st':=[bF d,ro 0 116 1 Bv q,⟨0,3,1,[]⟩,ro 0 116 1 Bv [Bh.mk g]]) (.pure (AK λ_=>AA) (.pure (AK λ_=>AA) (.pure (by intro x S;cases S) (.pure (AK λ_=>AA) .nil)))) (.same AA)) ?_;exact Ab [0,1] AA AA (.pure (AK λ_=>AA) (.pure (AK λ_=>AA) .nil)) (.same AA)))
  ·exact Ah (R f (Sh.AB a).symm _ (AI AA))
 ·exact Ah (U d (Sh.AB c).symm _ (AI AA))
theorem Ra {N:Nat}{p0:(List Int)}{p1:Int}{r:Bool}(h0:Lo N p0 p1=some r):AS Tryz.prog 80 [ls eI p0,i64 p1] [] (λv st=>v=(.bool r)/\st=[]):=by
 unfold Lo at h0;refine ai Tryz.func80 AA AA AA AA (zr tb AA AA (AD λk e=>zr tb AA AA ?_));obtain⟨f,a,h0⟩:=Sh.Av h0;have l:∀(_:Unit),f=Sum.inr ()->∀s,Wk 0 s ⟨18,AN [],[]⟩->k s:=by
  intro _ u s m;subst f;try dsimp only at h0
  refine e _ (AJ m (zr tb AA AA ?_));obtain rfl:=Sh.AB h0;exact rt [(4,.bool false)]
 refine AL (Af (σ:=Int) (λn v=>GF p0 p1 n v=some f) (λg=>⟨18,AN [(0,ls eI p0),(1,i64 p1),(5,i64 g)],[]⟩) N 0 a (AI AA) (λ_ j=>by rw[GF]at j;cases j) ?_);rintro n g a;try dsimp only at a⊢
 rw[GF]at a;refine AD λx h=>sr AA λy i=>zm tb 2 AA (zl tb AA AA (zq tb AA (dn i AA ?_)));refine ci a AA ?_ ?_<;>clear a<;>intro z a
 ·refine AG (h _ (AD λo b=>AL (sr AA λp c=>zm tb 2 AA (bs a λq d a=>zx BD d AA AA AA (zm tb 3 AA (dn c AA ?_))))));refine ci a AA ?_ ?_<;>clear a<;>intro t a
  ·refine zr tb AA AA ?_;obtain rfl:=Sh.AB a;try dsimp only[id]at h0
   obtain rfl:=Sh.AB h0;exact rt [(4,.bool true)]
  ·exact AG (b _ (AF AA (zm tb 3 AA (AE (xi (Sh.w (g+1)) a (AI AA))))))
 ·exact Ah (l () (Sh.AB a).symm _ (AI AA))
theorem SA {N:Nat}{p0:Ad}{r:(List Int)}(h0:Iv N p0=some r):AS Tryz.prog 40 [Wc p0] [] (λv st=>v=(ow 0 0 r)/\st=[BQ r]):=by
 unfold Iv at h0;refine ai Tryz.func40 AA AA AA AA (sr AA λV D=>Aw (m:=0) AR AA AA AA AA AA (zq tb AA (dn D AA (sr AA λW E=>?_))));refine CE (m:=1) (l:=([]:List Int)) (enc:=eI) AR BD (by decide) rfl AA AA AA AA AA ?_;refine zq tb AA (dn E AA (AD λO F=>zr tb AA AA (bs h0 λG b h0=>?_)));have P:∀(j:(List Int)),G=j->∀s,Wk 0 s ⟨31,AN [(3,ow 0 0 j)],[BQ j]⟩->O s:=by
  intro j K s k;subst G;try dsimp only at h0
  refine F _ (AJ k (zr tb AA AA ?_));obtain rfl:=Sh.AB h0;exact rt [(2,ow 0 0 j)]
 refine AL (Af (σ:=Int×(List Int)) (λn v=>D8 N p0 n v.1 v.2=some G) (λ(e,g)=>⟨31,AN [(1,.ptr 0 0 0 0),(3,ow 1 0 g),(4,i64 e)],[kG p0.params p0.Ar p0.result p0.body.steps p0.body.result,ro 0 3 1 eI g]⟩) N (0,[]) b (AI AA) (λ_ M=>by rw[D8]at M;cases M) ?_);rintro n ⟨e,g⟩ b;try dsimp only at b⊢
 rw[D8]at b;refine AD λQ o=>sr AA λR p=>zm tb 3 AA (zl tb AA AA (zq tb AA (dn p AA ?_)));refine ci b AA ?_ ?_<;>clear b<;>intro S b
 ·refine AG (o _ (AD λH q=>bs b λt d b=>?_));have u:∀(c:(List Int)),t=c->∀s,Wk 0 s ⟨31,AN [(1,Bm),(3,ow 1 0 c),(4,i64 e)],kf p0 c []⟩->H s:=by
   intro c K s k;subst t;try dsimp only at b
   exact q _ (AJ k (AF AA (zm tb 3 AA (AE (xi (Sh.w (e+1),c) b (AI AA))))))
  refine AL (AD λI x=>bs d λy f d=>?_);have z:∀(h:Bool),y=h->∀s,Wk 0 s ⟨31,AN [(1,Bm),(3,ow 1 0 g),(4,i64 e),(25,.bool h)],kf p0 g []⟩->I s:=by
   intro h K s k;subst y;try dsimp only at d
   refine x _ (AJ k ?_);refine ci d AA ?_ ?_<;>clear d<;>intro T d
   ·refine AF AA (zm tb 2 AA ?_);refine CE (m:=2) (l:=[e]) (enc:=eI) AR BD (by decide) rfl AA AA AA AA AA ?_;refine bs d λi A d=>Cd (l2:=[e]) AR BD AA AA AA AA (H6 AA AA) (λ_=>AA) A AA (zq tb AA ?_);exact AE (u i (Sh.AB d).symm _ (by refine Wk.trans (CJ (L:=[(1,Bm),(3,ow 1 0 i),(4,i64 e)]) (st':=(kf p0 i [Qr e])) (.raw AA AA (.pure (AK λ_=>AA) (.pure (AK λ_=>AA) .nil))) (.same AA)) ?_;exact Ab [0,1] AA AA (.raw AA AA (.pure (AK λ_=>AA) .nil)) (.same AA)))
   ·exact AG (u g (Sh.AB d).symm _ (AI AA))
  refine AF AA (zm tb 3 AA (bs f λU B f=>zx BD B AA AA AA (zm tb 3 AA ?_)));rcases Sh.AU f with ⟨a,f⟩|⟨a,f⟩
  ·exact zg tb a AA (zg tb a AA (zg tb a AA (bs f λJ C f=>zd a (hb 80) (Ra C) rfl AA AA AA (zg tb a AA (zt a AA (AE (z (!J) (Sh.AB f).symm _ (AI AA))))))))
  ·refine zs a AA ?_;iterate 4 refine zs a rfl ?_
   exact zf a AA (AE (z false (Sh.AB f).symm _ (AI AA)))
 ·exact Ah (P g (Sh.AB b).symm _ (Ab [1] AA AA (.pure (AK λ_=>AA) .nil) (.same AA)))
end
end Go.Proofs.YtgiajkaabnbieaaGreat
