import Derived.Test.YtpahalfiiahddaaGreatProg
import Derived.Test.YtpahalfiiahddaaGreatGAbsXToSSDefs
import Derived.Test.YtpahalfiiahddaaGreatGHADefsToFODefs
import Derived.Test.YtpahalfiiahddaaGreatAbsQ
import Derived.Test.YtpahalfiiahddaaGreatCFWalk
import Derived.Test.YtpahalfiiahddaaGreatLAWalk
namespace Go.Proofs.YtpahalfiiahddaaGreat
open Go Go.Abs RC
attribute [local irreducible] Go.Abs.C3
set_option maxRecDepth 100000
noncomputable abbrev LF (z0:List Ab) (z1:List Am):Go.Abs.Row:=⟨0,30,2,[[(ls Ai z0),(ls A3 z1)]]⟩
noncomputable abbrev VA (z0:Int) (z1:Int) (z2:List AG):Go.Abs.Row:=⟨0,44,3,[[(i64 z0),(i64 z1),(ls BS z2)]]⟩
noncomputable abbrev OB (z0:Int):Go.Abs.Row:=⟨0,3,1,[[(i64 z0)]]⟩
noncomputable abbrev QA:Go.Abs.Row:=⟨0,30,2,[[.zc,.zc]]⟩
noncomputable abbrev Xk:Go.Abs.Row:=⟨0,119,2,[[.zc,.zc]]⟩
noncomputable abbrev I3 (z0:Int) (z1:Int) (z2:List AG):Go.Abs.Row:=⟨0,44,3,[[(i64 z0),(i64 z1),(ls BS z2)]]⟩
noncomputable abbrev PY:Go.Abs.Row:=⟨0,81,3,[[(i64 0),(i64 0),.zc]]⟩
noncomputable abbrev Z9 (z0:List Ab) (z1:List Am):Go.Abs.Row:=⟨0,30,2,[[(ls Ai z0),(ls A3 z1)]]⟩
noncomputable abbrev Dd:Go.Abs.Row:=⟨0,44,3,[[(i64 0),(i64 0),.zc]]⟩
noncomputable abbrev FB (z0:List Ab) (z1:List Am):Go.Abs.Row:=⟨0,30,2,[[(ls Ai z0),(ls A3 z1)]]⟩
noncomputable abbrev IT:Go.Abs.Row:=⟨0,30,2,[[.zc,.zc]]⟩
noncomputable abbrev ba (z0:Int) (z1:Int) (z2:List AG):Go.Abs.Row:=⟨0,44,3,[[(i64 z0),(i64 z1),(ls BS z2)]]⟩
noncomputable abbrev Bs (z0:List Ab) (z1:List Am):Go.Abs.Row:=⟨0,30,2,[[(ls Ai z0),(ls A3 z1)]]⟩
noncomputable abbrev CY:Go.Abs.Row:=⟨0,30,2,[[.zc,.zc]]⟩
noncomputable abbrev Mj (z0:List Ab) (z1:List Am):Go.Abs.Row:=⟨0,30,2,[[(ls Ai z0),(ls A3 z1)]]⟩
noncomputable abbrev T1 (z0:List Ab) (z1:List Am):Go.Abs.Row:=⟨0,25,2,[[(ls Ai z0),(ls A3 z1)]]⟩
noncomputable abbrev Ri (z0:AG):=([(i64 z0.op),(i64 z0.num),(ls BS z0.kids)]:List AV)
noncomputable abbrev fB (z0:Aa):=([(ls Ai z0.decls),(ls A3 z0.funcs)]:List AV)
noncomputable abbrev Ar:=((.ptr 0 0 0 0):AV)
noncomputable abbrev Bj (z0:AG):=((ro 0 44 3 (Av 44) z0.kids):Row)
noncomputable abbrev Ay:=((.ptr 1 0 0 0):AV)
noncomputable abbrev N3 (z0:_) (z1:_) (z2:Am):=(⟨0,48,5,hole z0 (BB 3 44) z1 [(ow 5 0 z2.params),(i64 z2.result),(i64 z2.body.op),(i64 z2.body.num),(.dv 44 3 (List.map (Av 44) z2.body.kids))]⟩:Row)
noncomputable abbrev D9 (z0:_):=(⟨0,119,2,[(Gv z0)]⟩:Row)
noncomputable abbrev CA (z0:_):=((ro 0 48 5 (BB 3 44) z0):Row)
noncomputable abbrev VI (z0:AG):=([(i64 z0.op),(i64 z0.num),(ow 2 0 z0.kids)]:List AV)
noncomputable abbrev Nx (z0:_) (z1:_) (z2:Am):=(⟨0,48,5,hole z0 (BB 3 44) z1 [(ow 5 0 z2.params),(i64 z2.result),(i64 z2.body.op),(i64 z2.body.num),(ow 6 0 z2.body.kids)]⟩:Row)
noncomputable abbrev BK:=((.ptr 2 0 0 0):AV)
noncomputable abbrev B3:=(⟨1,44,3,[]⟩:Row)
noncomputable abbrev EX (z0:_):=((ro 0 44 3 (Av 44) z0):Row)
noncomputable abbrev EC (z0:_):=((ro 0 81 3 (Aj 111 3) z0):Row)
noncomputable abbrev P1 (z0:_) (z1:_) {α2:Type} (z2:List α2):=(⟨0,44,3,[[(i64 z0),(i64 z1),(ow 0 0 z2)]]⟩:Row)
noncomputable abbrev BL (z0:_):=((ro 0 3 1 eI z0):Row)
noncomputable abbrev PR (z0:AG):=([(i64 z0.op),(i64 z0.num),(ow 3 0 z0.kids)]:List AV)
noncomputable abbrev Mc (z0:AG):=([(i64 z0.op),(i64 z0.num),(ow 4 0 z0.kids)]:List AV)
noncomputable abbrev Ed (z0:_):=((.ptr 4 0 (Int.toNat z0) 0):AV)
noncomputable abbrev BT (z0:_):=((ls Ai z0):AV)
noncomputable abbrev Bp {α0:Type} (z0:List α0):=((i64 (Sh.len z0)):AV)
noncomputable abbrev Mw (z0:AG) (z1:_) {α2:Type} (z2:List α2):=(⟨0,44,3,[[(i64 z0.op),(i64 z1),(ow 1 0 z2)]]⟩:Row)
noncomputable abbrev WT (z0:_) (z1:_) (z2:Am):=(⟨0,48,5,hole z0 (BB 3 44) z1 [(.dv 3 1 (List.map eI z2.params)),(i64 z2.result),(i64 z2.body.op),(i64 z2.body.num),(ow 5 0 z2.body.kids)]⟩:Row)
noncomputable abbrev NM (z0:Am):=((.agg [(i64 z0.body.op),(i64 z0.body.num),(ow 5 0 z0.body.kids)]):AV)
noncomputable abbrev Sp (z0:Am):=([(ls eI z0.params),(i64 z0.result),(i64 z0.body.op),(i64 z0.body.num),(ls BS z0.body.kids)]:List AV)
noncomputable abbrev IK (z0:Am):=((ro 0 44 3 (Av 44) z0.body.kids):Row)
noncomputable abbrev B5 (z0:_):=((.agg (Ri z0)):AV)
noncomputable abbrev Jq {α0:Type} (z0:List α0) {α1:Type} (z1:List α1):=(⟨0,30,2,[[(ow 2 0 z0),(ow 3 0 z1)]]⟩:Row)
noncomputable abbrev T2:=([(.sl (List.map Ai [])),(.sl (List.map A3 []))]:List AV)
noncomputable abbrev Xq (z0:AG):=([(i64 z0.op),(i64 z0.num),(ow 0 0 z0.kids)]:List AV)
noncomputable abbrev DK (z0:_):=((.Bu (fB z0) 0):AV)
noncomputable abbrev Fg (z0:_):=((.agg (Gv z0)):AV)
noncomputable abbrev Md (z0:AG):=([(i64 z0.op),(i64 z0.num),(ow 5 0 z0.kids)]:List AV)
noncomputable abbrev Ec:=((.ptr 3 0 0 0):AV)
noncomputable abbrev Ee:=((.ptr 2 0 0 1):AV)
noncomputable abbrev EI (z0:_):=((.Bu (Ri z0) 0):AV)
noncomputable abbrev Tq (z0:Am):=((.agg [(i64 z0.body.op),(i64 z0.body.num),(ow 6 0 z0.body.kids)]):AV)
noncomputable abbrev Rp (z0:AG):=([(i64 z0.op),(i64 z0.num),(ow 1 0 z0.kids)]:List AV)
noncomputable abbrev OV (z0:_):=(⟨0,81,3,List.map (Aj 111 3) z0⟩:Row)
noncomputable abbrev O0 (z0:_):=(⟨0,48,5,List.map (BB 3 44) z0⟩:Row)
noncomputable abbrev Yv (z0:Am):=([(ow 6 0 z0.params),(i64 z0.result),(i64 z0.body.op),(i64 z0.body.num),(ow 5 0 z0.body.kids)]:List AV)
noncomputable abbrev C4 (z0:_):=((ls BS z0):AV)
noncomputable abbrev Y7 (z0:AG):=([(i64 z0.op),(i64 z0.num),(.dv 44 3 (List.map (Av 44) z0.kids))]:List AV)
noncomputable abbrev Ro (z0:_) (z1:_) {α2:Type} (z2:List α2):=(⟨0,44,3,[[(i64 z0),(i64 z1),(ow 1 0 z2)]]⟩:Row)
noncomputable abbrev Kf (z0:_) (z1:_) (z2:_) (z3:_) (z4:_):=([(EX z0),(FB z1 z2),(P1 z3 z4 z0),Dd]:List Row)
noncomputable abbrev IA (z0:AG):=((i64 (Sh.len z0.kids)):AV)
noncomputable abbrev Ny (z0:Aa):=((ro 0 48 5 (BB 3 44) z0.funcs):Row)
noncomputable abbrev G8 (z0:AG):=((ls BS z0.kids):AV)
noncomputable abbrev Wn (z0:_) (z1:_) (z2:_):=(⟨0,44,3,hole z0 (Av 44) z1 (VI z2)⟩:Row)
noncomputable abbrev Pj (z0:_) (z1:_):=((.DT [(.agg (Ai z0)),(.bool z1)]):AV)
noncomputable abbrev VJ (z0:_) (z1:_):=(⟨0,44,3,hole z0 (Av 44) 0 (PR z1)⟩:Row)
noncomputable abbrev Uo:=((ro 0 48 5 (BB 3 44) ([]:List Am)):Row)
noncomputable abbrev IQ (z0:Aa):=((ls A3 z0.funcs):AV)
noncomputable abbrev Ml (z0:_):=((.ptr 0 0 (Int.toNat z0) 0):AV)
noncomputable abbrev O7 (z0:_):=([⟨0,81,3,[(Ai z0)]⟩]:List Row)
noncomputable abbrev YX (z0:Am):=((.agg [(i64 z0.body.op),(i64 z0.body.num),(ls BS z0.body.kids)]):AV)
noncomputable abbrev eo (z0:_) (z1:_):=(⟨0,44,3,hole z0 (Av 44) 0 (VI z1)⟩:Row)
noncomputable abbrev Vg:=((ro 0 81 3 (Aj 111 3) ([]:List Ab)):Row)
noncomputable abbrev Fh (z0:_):=((ls (eS eI) z0):AV)
noncomputable abbrev HM (z0:_):=((.agg (fB z0)):AV)
noncomputable abbrev KL (z0:_):=((i64 (Sh.w (z0+1))):AV)
noncomputable abbrev bZ (z0:Am):=([(ow 5 0 z0.params),(i64 z0.result),(i64 z0.body.op),(i64 z0.body.num),(ow 6 0 z0.body.kids)]:List AV)
noncomputable abbrev VU:=([(.sl (List.map Ai [])),.zc]:List AV)
noncomputable abbrev V7 (z0:_):=(⟨0,44,3,[(Mc z0)]⟩:Row)
noncomputable abbrev bN (z0:Am):=([(ow 0 0 z0.params),(i64 z0.result),(i64 z0.body.op),(i64 z0.body.num),(ow 1 0 z0.body.kids)]:List AV)
noncomputable abbrev aE (z0:_) (z1:_):=([(EC z0),(CA z1),⟨0,30,2,[[(ow 0 0 z0),(ow 1 0 z1)]]⟩]:List Row)
noncomputable abbrev XV:=((.own 0 0 (List.length ([]:List Int))):AV)
noncomputable abbrev LG:=((.ptr 4 0 0 0):AV)
noncomputable abbrev Y9 (z0:AG):=((.agg [(i64 z0.op),(i64 z0.num),(ow 7 0 z0.kids)]):AV)
noncomputable abbrev Q2 (z0:_):=((.ptr 4 0 (Int.toNat z0) 2):AV)
noncomputable abbrev Vb (z0:_) (z1:AG):=([(D9 z0),(VA z1.op z1.num z1.kids)]:List Row)
noncomputable abbrev MG:=((.ptr 2 0 0 2):AV)
noncomputable abbrev WX (z0:_) (z1:_) (z2:AG):=([(BL z0),(D9 z1),(I3 z2.op z2.num z2.kids)]:List Row)
noncomputable abbrev Y1:=((.own 3 0 (List.length ([]:List Am))):AV)
noncomputable abbrev Y0 (z0:_) (z1:_) (z2:_) (z3:AG):=([(Mw z0 z1 z2),(EX z2),Dd,(ba z3.op z3.num z3.kids)]:List Row)
noncomputable abbrev dR:=([(.own 1 0 (List.length ([]:List Ab))),(.own 2 0 (List.length ([]:List Am)))]:List AV)
noncomputable abbrev dX:=([(.own 0 0 (List.length ([]:List Ab))),(.own 1 0 (List.length ([]:List Am)))]:List AV)
noncomputable abbrev Uv (z0:_) (z1:_):=([(BT z0),(ls A3 z1)]:List AV)
noncomputable abbrev U1 (z0:_):=(⟨0,44,3,[(PR z0)]⟩:Row)
noncomputable abbrev bq (z0:_) (z1:_) (z2:_) (z3:_):=([B3,Dd,(Bj z0),⟨0,44,3,[[(i64 z1),(i64 z2),(ow 4 0 z3)]]⟩,(eo z3 z0)]:List Row)
noncomputable abbrev Pk (z0:_):=((ro 0 44 3 BS z0):Row)
noncomputable abbrev Te (z0:_):=((ro 0 111 1 (CX 3) z0):Row)
noncomputable abbrev Yj (z0:_):=(⟨0,44,3,List.map (Av 44) z0⟩:Row)
noncomputable abbrev SQ (z0:_) (z1:_) (z2:_):=([(HM z0),(ls eI z1),(B5 z2)]:List AV)
noncomputable abbrev Yy {α0:Type} (z0:List α0) {α1:Type} (z1:List α1):=(⟨0,30,2,[[(ow 1 0 z0),(ow 3 0 z1)]]⟩:Row)
noncomputable abbrev Wd:=((.sl (List.map eI [])):AV)
noncomputable abbrev bG:=((ro 0 116 3 C0 ([]:List BX)):Row)
noncomputable abbrev Yq (z0:_) (z1:_) (z2:_) (z3:_):=([(Mw z0 z1 z2),(EX z2),Dd,(V7 z3),(Bj z3)]:List Row)
noncomputable abbrev bX:=([(i64 0),(i64 0),(.sl (List.map BZ []))]:List AV)
noncomputable abbrev TN (z0:Ab):=((i64 (Sh.len z0.cons)):AV)
noncomputable abbrev dT (z0:BX):=([⟨0,116,3,[[(ls eI z0.params),(ls eI z0.Ew),(i64 z0.result)]]⟩]:List Row)
noncomputable abbrev Uy:=(⟨1,81,3,[]⟩:Row)
noncomputable abbrev aH (z0:AG) (z1:_) {α2:Type} (z2:List α2):=(⟨0,44,3,[[(i64 z0.op),(i64 z1),(ow 2 0 z2)]]⟩:Row)
noncomputable abbrev bA:=((ro 0 44 3 (Av 44) ([]:List AG)):Row)
noncomputable abbrev Vs:=([⟨1,3,1,[]⟩]:List Row)
noncomputable abbrev dE (z0:_) (z1:_) (z2:_) (z3:_):=([B3,Dd,(U1 z0),(Bj z0),⟨0,44,3,[[(i64 z1),(i64 z2),(ow 5 0 z3)]]⟩,(VJ z3 z0)]:List Row)
noncomputable abbrev Th {α0:Type} (z0:List α0) {α1:Type} (z1:List α1):=([(ow 0 0 z0),(ow 1 0 z1)]:List AV)
noncomputable abbrev cC (z0:_) (z1:_) (z2:_) {α3:Type} (z3:List α3) (z4:_):=([(BT z0),(.agg [(i64 z1),(i64 z2),(ow 0 0 z3)]),(i64 z4),(.fn 34 [Ay])]:List AV)
noncomputable abbrev bU (z0:AG):=([(i64 z0.op),(i64 z0.num),(ow 6 0 z0.kids)]:List AV)
noncomputable abbrev NV (z0:_):=((.agg (VI z0)):AV)
noncomputable abbrev TI (z0:_):=((ls C0 z0):AV)
noncomputable abbrev di (z0:_):=([(i64 0),(i64 z0),(.own 1 0 (List.length ([]:List AG)))]:List AV)
noncomputable abbrev db (z0:_) (z1:_) (z2:_) (z3:_):=([B3,⟨0,44,3,hole z0 (Av 44) 0 (Y7 z1)⟩,(Ro z2 z3 z0),Dd,B3,(V7 z1)]:List Row)
noncomputable abbrev bE (z0:Ab):=([(i64 z0.from_),(i64 z0.to),(ow 0 0 z0.cons)]:List AV)
noncomputable abbrev Xw (z0:_):=(⟨0,44,3,[(VI z0)]⟩:Row)
noncomputable abbrev ZN (z0:_) {α1:Type} (z1:List α1):=(⟨0,30,2,[[(BT z0),(ow 2 0 z1)]]⟩:Row)
noncomputable abbrev cA (z0:_):=([B3,(Bj z0),⟨0,44,3,[(Rp z0)]⟩]:List Row)
noncomputable abbrev Nv (z0:_):=((.agg (Xq z0)):AV)
noncomputable abbrev Ye:=(⟨0,30,2,[T2]⟩:Row)
noncomputable abbrev Y8 (z0:_):=(⟨0,3,1,List.map eI z0⟩:Row)
noncomputable abbrev Um (z0:_):=((ro 0 81 3 Ai z0):Row)
noncomputable abbrev VS:=((.ptr 3 0 0 2):AV)
noncomputable abbrev VM:=((.ptr 1 0 0 1):AV)
noncomputable abbrev ZK (z0:_) (z1:_):=([B3,Dd,(Bj z0),(eo z1 z0)]:List Row)
noncomputable abbrev Uw (z0:_) (z1:_) (z2:_):=([(B5 z0),(i64 z1),(i64 z2)]:List AV)
noncomputable abbrev Yp (z0:_) (z1:_) (z2:_):=((.DT [(.agg (Uv z0 z1)),(.bool z2)]):AV)
noncomputable abbrev YY (z0:_) (z1:_) (z2:_) (z3:_) (z4:_) (z5:_) (z6:_):=([(Wn z0 z1 z2),(FB z3 z4),(Bj z2),(P1 z5 z6 z0),Dd]:List Row)
set_option maxHeartbeats 4000000

def tb:Kh Tryz.prog where
 t:=[(111,true,1),(114,false,1),(116,true,3),(119,true,2),(135,true,1),(22,false,1),(23,false,1),(25,true,2),(27,false,1),(28,false,1),(3,false,1),(30,true,2),(42,false,1),(44,true,3),(46,false,1),(48,true,5),(65,false,1),(67,true,3),(69,false,1),(71,true,3),(73,true,5),(79,false,1),(81,true,3)]
 f:=[(111,0,0),(116,0,0),(116,1,1),(116,2,2),(119,0,0),(119,1,1),(135,0,0),(25,0,0),(25,1,1),(30,0,0),(30,1,1),(44,0,0),(44,1,1),(44,2,2),(48,0,0),(48,1,1),(48,2,2),(67,0,0),(67,1,1),(67,2,2),(71,0,0),(71,1,1),(71,2,2),(73,0,0),(73,1,1),(73,2,2),(81,0,0),(81,1,1),(81,2,2)]
 v:=[]
 b:=[4]
 s:=[114,141,22,23,27,28,42,46,65,69,79]
 ht:=by kernel_rfl
 hf:=by kernel_rfl
 hv:=by kernel_rfl
 hb:=by kernel_rfl
 hs:=by kernel_rfl

noncomputable abbrev KV (z0:Int) (z1:Int) (z2:List AG):Go.Abs.Row:=⟨0,44,3,[[(i64 z0),(i64 z1),(ls BS z2)]]⟩
noncomputable abbrev KZ (z0:List Ab) (z1:List Am):Go.Abs.Row:=⟨0,30,2,[[(ls Ai z0),(ls A3 z1)]]⟩
noncomputable abbrev QU:Go.Abs.Row:=⟨0,44,3,[[(i64 0),(i64 0),.zc]]⟩
theorem RL:HA Tryz.prog 44=true:=by kernel_rfl
theorem RB:IX Tryz.prog 44=some [(0,1),(1,1),(2,1)]:=by kernel_rfl
theorem cQ:CQ Tryz.prog 22=some ⟨67,3,40,[.int .i64 0,.int .i64 0,.sl []]⟩:=by kernel_rfl
theorem cq:CQ Tryz.prog 23=some ⟨73,5,72,[.sl [],.int .i64 0,.int .i64 0,.int .i64 0,.sl []]⟩:=by kernel_rfl
theorem DC:CQ Tryz.prog 27=some ⟨81,3,40,[.int .i64 0,.int .i64 0,.sl []]⟩:=by kernel_rfl
theorem CR:CQ Tryz.prog 28=some ⟨48,5,72,[.sl [],.int .i64 0,.int .i64 0,.int .i64 0,.sl []]⟩:=by kernel_rfl
theorem Bc:CQ Tryz.prog 42=some ⟨44,3,40,[.int .i64 0,.int .i64 0,.sl []]⟩:=by kernel_rfl
theorem Bm:CQ Tryz.prog 46=some ⟨3,1,8,[.int .i64 0]⟩:=by kernel_rfl
theorem cR:CQ Tryz.prog 65=some ⟨135,1,24,[.sl []]⟩:=by kernel_rfl
theorem cc:CQ Tryz.prog 69=some ⟨71,3,40,[.int .i64 0,.int .i64 0,.sl []]⟩:=by kernel_rfl
theorem ID:CQ Tryz.prog 79=some ⟨111,1,24,[.sl []]⟩:=by kernel_rfl
theorem Zh:Ao Tryz.prog 110=true:=by kernel_rfl
theorem dj:Ao Tryz.prog 111=true:=by kernel_rfl
theorem VC:Ao Tryz.prog 112=true:=by kernel_rfl
theorem dq:Ao Tryz.prog 115=true:=by kernel_rfl
theorem dW:Ao Tryz.prog 119=true:=by kernel_rfl
theorem cy:Ao Tryz.prog 120=true:=by kernel_rfl
theorem dt:Ao Tryz.prog 121=true:=by kernel_rfl
theorem dD:Ao Tryz.prog 122=true:=by kernel_rfl
theorem cv:Ao Tryz.prog 123=true:=by kernel_rfl
theorem dw:Ao Tryz.prog 124=true:=by kernel_rfl
theorem XQ:Ao Tryz.prog 134=true:=by kernel_rfl
theorem fp:Ao Tryz.prog 17=true:=by kernel_rfl
theorem eR:Ao Tryz.prog 18=true:=by kernel_rfl
theorem fV:Ao Tryz.prog 22=true:=by kernel_rfl
theorem eW:Ao Tryz.prog 23=true:=by kernel_rfl
theorem cW:Ao Tryz.prog 33=true:=by kernel_rfl
theorem ep:Ao Tryz.prog 42=true:=by kernel_rfl
theorem fK:Ao Tryz.prog 43=true:=by kernel_rfl
theorem eL:Ao Tryz.prog 44=true:=by kernel_rfl
theorem cO:Ao Tryz.prog 45=true:=by kernel_rfl
theorem Li:Ao Tryz.prog 46=true:=by kernel_rfl
theorem aJ:Ao Tryz.prog 49=true:=by kernel_rfl
theorem fe:Ao Tryz.prog 51=true:=by kernel_rfl
theorem fg:Ao Tryz.prog 52=true:=by kernel_rfl
theorem fG:Ao Tryz.prog 66=true:=by kernel_rfl
theorem fb:Ao Tryz.prog 67=true:=by kernel_rfl
theorem NU:Ao Tryz.prog 71=true:=by kernel_rfl
theorem eF:Ao Tryz.prog 75=true:=by kernel_rfl
theorem cV:Ao Tryz.prog 76=true:=by kernel_rfl
theorem fQ:Ao Tryz.prog 81=true:=by kernel_rfl
theorem cP:Ao Tryz.prog 82=true:=by kernel_rfl
theorem cb:Ao Tryz.prog 83=true:=by kernel_rfl
theorem eQ:Ao Tryz.prog 84=true:=by kernel_rfl
theorem cJ:Ao Tryz.prog 85=true:=by kernel_rfl
theorem cT:Ao Tryz.prog 86=true:=by kernel_rfl
theorem cd:Ao Tryz.prog 87=true:=by kernel_rfl
theorem ab:Ao Tryz.prog 88=true:=by kernel_rfl
theorem ak:Ao Tryz.prog 89=true:=by kernel_rfl
theorem YO:Ao Tryz.prog 90=true:=by kernel_rfl
theorem ZY:Ao Tryz.prog 91=true:=by kernel_rfl
theorem fU:Ao Tryz.prog 92=true:=by kernel_rfl
theorem eZ:Ao Tryz.prog 93=true:=by kernel_rfl
theorem eO:Ao Tryz.prog 94=true:=by kernel_rfl
theorem eC:Ao Tryz.prog 95=true:=by kernel_rfl
theorem ck:Ao Tryz.prog 96=true:=by kernel_rfl
theorem cf:Ao Tryz.prog 97=true:=by kernel_rfl
theorem PV:Cv Tryz.prog 27=true:=by kernel_rfl
theorem ZM:Cv Tryz.prog 28=true:=by kernel_rfl
theorem Ss:Cv Tryz.prog 42=true:=by kernel_rfl
theorem Ff:Cv Tryz.prog 46=true:=by kernel_rfl
theorem OD:Cv Tryz.prog 79=true:=by kernel_rfl
theorem JI:Cr Tryz.prog 111=some (true,1):=by kernel_rfl
theorem cu:Cr Tryz.prog 27=some (false,1):=by kernel_rfl
theorem af:Cr Tryz.prog 28=some (false,1):=by kernel_rfl
theorem IJ:Cr Tryz.prog 3=some (false,1):=by kernel_rfl
theorem FV:Cr Tryz.prog 30=some (true,2):=by kernel_rfl
theorem UM:Cr Tryz.prog 42=some (false,1):=by kernel_rfl
theorem Bl:Cr Tryz.prog 44=some (true,3):=by kernel_rfl
theorem HZ:Cr Tryz.prog 46=some (false,1):=by kernel_rfl
theorem Pt:Cr Tryz.prog 48=some (true,5):=by kernel_rfl
theorem OL:Cr Tryz.prog 79=some (false,1):=by kernel_rfl
theorem I4:Cr Tryz.prog 81=some (true,3):=by kernel_rfl
theorem LK:G9 Tryz.prog 111=some [.zc]:=by kernel_rfl
theorem HY:G9 Tryz.prog 30=some [.zc,.zc]:=by kernel_rfl
theorem Fz:G9 Tryz.prog 44=some [.int .i64 0,.int .i64 0,.zc]:=by kernel_rfl
theorem Mx:G9 Tryz.prog 48=some [.zc,.int .i64 0,.int .i64 0,.int .i64 0,.zc]:=by kernel_rfl
theorem GR:G9 Tryz.prog 81=some [.int .i64 0,.int .i64 0,.zc]:=by kernel_rfl

theorem MU {p0:(List Int)} {p1:Int} {r:Int} (h0:HP p0 p1=some r):Ag Tryz.prog 82 [(ls eI p0),(i64 p1)] [] (fun v st=>v=(i64 r)∧st=[]):=by
 unfold HP at h0
 refine ai Tryz.func82 U U U U (zr tb U U (sr U fun K2 hK2=>zm tb 2 U (zl tb U U (zm tb 2 U (dn hK2 U (AF fun K3 hK3=>zr tb U U ?_))))))
 refine ci h0 U ?_ ?_ <;> clear h0
 ·intro b5 h0
  refine zr tb U U ?_
  replace h0:=Sh.AB h0
  subst r
  exact AJ (xr (AT (L:=[(4,(i64 (-1)))]) (.same U)))
 ·intro b5 h0
  refine AI (hK3 _ (zr tb U U ?_))
  replace h0:=Sh.AB h0
  subst r
  exact AJ (xr (AT (L:=[(4,(i64 (Sh.w (p1 - (Sh.len p0)))))]) (.same U)))
theorem TC {p0:BU} {p1:Int} {r:Int} (h0:Jh p0 p1=some r):Ag Tryz.prog 119 [(.agg (BZ p0)),(i64 p1)] [] (fun v st=>v=(i64 r)∧st=[]):=by
 unfold Jh at h0
 refine ai Tryz.func119 U U U U (sr U fun K1 hK1=>BH (m:=0) Ah U U U U U (zq tb U (dn hK1 U (sr U fun K2 hK2=>zm tb 3 U (bs h0 fun q3 gq3 h0=>zc cP (MU gq3) rfl U U (zq tb U (dn hK2 U (AF fun K4 hK4=>?_))))))))
 refine zr tb U U ?_
 refine ci h0 U ?_ ?_ <;> clear h0
 ·intro b6 h0
  refine zr tb U U ?_
  replace h0:=Sh.AB h0
  subst r
  exact AJ (xr (An [(4,(i64 (-1)))] U))
 ·intro b6 h0
  refine AI (hK4 _ (zr tb U U ?_))
  replace h0:=Sh.AB h0
  subst r
  exact AJ (xr (An [(4,(i64 q3))] U))
theorem RW {N:Nat} {p0:(List BU)} {p1:Int} {r:Int} (h0:I0 N p0 p1=some r):Ag Tryz.prog 81 [(ls BZ p0),(i64 p1)] [] (fun v st=>v=(i64 r)∧st=[]):=by
 unfold I0 at h0
 refine ai Tryz.func81 U U U U (zr tb U U (sr U fun K2 hK2=>zm tb 2 U (zl tb U U (zm tb 2 U (dn hK2 U (AF fun K3 hK3=>zr tb U U ?_))))))
 refine ci h0 U ?_ ?_ <;> clear h0
 ·intro b5 h0
  refine zr tb U U ?_
  replace h0:=Sh.AB h0
  subst r
  exact AJ (xr (AT (L:=[(4,(i64 (-1)))]) (.same U)))
 ·intro b5 h0
  refine AI (hK3 _ (AF fun K7 hK7=>zr tb U U ?_))
  obtain⟨o12,h1,h0⟩:=Sh.BF h0
  have M12 :∀(left11:Int),o12=Sum.inr left11→∀s,Wk 0 s ⟨27,AP [(1,(i64 left11))],[]⟩→K7 s:=by
   intro left11 hq s hw
   subst o12
   try dsimp only at h0
   refine hK7 _ (AR hw (zr tb U U ?_))
   replace h0:=Sh.AB h0
   subst r
   exact AJ (xr (AT (L:=[(4,(i64 left11))]) (.same U)))
  refine AU (As (σ:=Int×Int) (fun n v=>Ei p0 n v.1 v.2=some o12) (fun (left9,i10)=>⟨27,AP [(0,(ls BZ p0)),(1,(i64 left9)),(5,(i64 i10))],[]⟩) N (Sh.w (p1 - (Sh.len p0)),0) h1 (AD U) (fun _ hv=>by rw[Ei] at hv;cases hv) ?_)
  rintro n ⟨left9,i10⟩ h1
  try dsimp only at h1 ⊢
  rw[Ei] at h1
  refine AF fun K14 hK14=>sr U fun K15 hK15=>zm tb 2 U (zl tb U U (zq tb U (dn hK15 U ?_)))
  refine ci h1 U ?_ ?_ <;> clear h1
  ·intro b16 h1
   refine AI (hK14 _ (AF fun K17 hK17=>AU (sr U fun K18 hK18=>zm tb 2 U (bs h1 fun c19 gc19 h1=>zx cR gc19 U U U (zm tb 2 U (bs h1 fun q20 gq20 h1=>zc dW (TC gq20) rfl U U (zq tb U (dn hK18 U ?_))))))))
   refine zr tb U U ?_
   refine ci h1 U ?_ ?_ <;> clear h1
   ·intro b22 h1
    refine zr tb U U ?_
    replace h1:=Sh.AB h1
    subst o12
    try dsimp only[id] at h0
    replace h0:=Sh.AB h0
    subst r
    exact AJ (xr (AT (L:=[(4,(i64 (-1)))]) (.same U)))
   ·intro b22 h1
    exact AI (hK17 _ (AK U (zm tb 3 U (AA (xi (q20,Sh.w (i10+1)) h1 (AD U))))))
  ·intro b16 h1
   exact Aw (M12 left9 (Sh.AB h1).symm _ (AD U))
theorem Ra {N:Nat} {p0:Ab} {p1:Int} {r:Int} (h0:Ir N p0 p1=some r):Ag Tryz.prog 42 [(.agg (Ai p0)),(i64 p1)] [] (fun v st=>v=(i64 r)∧st=[]):=by
 unfold Ir at h0
 refine ai Tryz.func42 U U U U (sr U fun K1 hK1=>BH (m:=0) Ah U U U U U (zq tb U (dn hK1 U (sr U fun K2 hK2=>zm tb 3 U (bs h0 fun q3 gq3 h0=>zc fQ (RW gq3) rfl U U (zq tb U (dn hK2 U (AF fun K4 hK4=>?_))))))))
 refine zr tb U U ?_
 refine ci h0 U ?_ ?_ <;> clear h0
 ·intro b6 h0
  refine zr tb U U ?_
  replace h0:=Sh.AB h0
  subst r
  exact AJ (xr (An [(4,(i64 (-1)))] U))
 ·intro b6 h0
  refine AI (hK4 _ (zr tb U U ?_))
  replace h0:=Sh.AB h0
  subst r
  exact AJ (xr (An [(4,(i64 q3))] U))
theorem Qa {N:Nat} {p0:(List Ab)} {p1:Int} {r:Int} (h0:Hf N p0 p1=some r):Ag Tryz.prog 17 [(BT p0),(i64 p1)] [] (fun v st=>v=(i64 r)∧st=[]):=by
 unfold Hf at h0
 refine ai Tryz.func17 U U U U (zr tb U U (sr U fun K2 hK2=>zm tb 2 U (zl tb U U (zm tb 2 U (dn hK2 U (AF fun K3 hK3=>zr tb U U ?_))))))
 refine ci h0 U ?_ ?_ <;> clear h0
 ·intro b5 h0
  refine zr tb U U ?_
  replace h0:=Sh.AB h0
  subst r
  exact AJ (xr (AT (L:=[(4,(i64 (-1)))]) (.same U)))
 ·intro b5 h0
  refine AI (hK3 _ (AF fun K7 hK7=>zr tb U U ?_))
  obtain⟨o12,h1,h0⟩:=Sh.BF h0
  have M12 :∀(left11:Int),o12=Sum.inr left11→∀s,Wk 0 s ⟨27,AP [(1,(i64 left11))],[]⟩→K7 s:=by
   intro left11 hq s hw
   subst o12
   try dsimp only at h0
   refine hK7 _ (AR hw (zr tb U U ?_))
   replace h0:=Sh.AB h0
   subst r
   exact AJ (xr (AT (L:=[(4,(i64 left11))]) (.same U)))
  refine AU (As (σ:=Int×Int) (fun n v=>ED N p0 n v.1 v.2=some o12) (fun (left9,i10)=>⟨27,AP [(0,(BT p0)),(1,(i64 left9)),(5,(i64 i10))],[]⟩) N (Sh.w (p1 - (Sh.len p0)),0) h1 (AD U) (fun _ hv=>by rw[ED] at hv;cases hv) ?_)
  rintro n ⟨left9,i10⟩ h1
  try dsimp only at h1 ⊢
  rw[ED] at h1
  refine AF fun K14 hK14=>sr U fun K15 hK15=>zm tb 2 U (zl tb U U (zq tb U (dn hK15 U ?_)))
  refine ci h1 U ?_ ?_ <;> clear h1
  ·intro b16 h1
   refine AI (hK14 _ (AF fun K17 hK17=>AU (sr U fun K18 hK18=>zm tb 2 U (bs h1 fun c19 gc19 h1=>zx cQ gc19 U U U (zm tb 2 U (bs h1 fun q20 gq20 h1=>zc ep (Ra gq20) rfl U U (zq tb U (dn hK18 U ?_))))))))
   refine zr tb U U ?_
   refine ci h1 U ?_ ?_ <;> clear h1
   ·intro b22 h1
    refine zr tb U U ?_
    replace h1:=Sh.AB h1
    subst o12
    try dsimp only[id] at h0
    replace h0:=Sh.AB h0
    subst r
    exact AJ (xr (AT (L:=[(4,(i64 (-1)))]) (.same U)))
   ·intro b22 h1
    exact AI (hK17 _ (AK U (zm tb 3 U (AA (xi (q20,Sh.w (i10+1)) h1 (AD U))))))
  ·intro b16 h1
   exact Aw (M12 left9 (Sh.AB h1).symm _ (AD U))
theorem QZ {N:Nat} {rec_laws_szExpr:AG→Int→Option (Int)} (hrec_laws_szExpr :∀{p0:AG} {p1:Int} {r:Int},rec_laws_szExpr p0 p1=some r→Ag Tryz.prog 83 [(B5 p0),(i64 p1)] [] (fun v st=>v=(i64 r)∧st=[])) {p0:(List AG)} {p1:Int} {r:Int} (h0:Hu N rec_laws_szExpr p0 p1=some r):Ag Tryz.prog 120 [(C4 p0),(i64 p1)] [] (fun v st=>v=(i64 r)∧st=[]):=by
 unfold Hu at h0
 refine ai Tryz.func120 U U U U (zr tb U U (sr U fun K2 hK2=>zm tb 2 U (zl tb U U (zm tb 2 U (dn hK2 U (AF fun K3 hK3=>zr tb U U ?_))))))
 refine ci h0 U ?_ ?_ <;> clear h0
 ·intro b5 h0
  refine zr tb U U ?_
  replace h0:=Sh.AB h0
  subst r
  exact AJ (xr (AT (L:=[(4,(i64 (-1)))]) (.same U)))
 ·intro b5 h0
  refine AI (hK3 _ (AF fun K7 hK7=>zr tb U U ?_))
  obtain⟨o12,h1,h0⟩:=Sh.BF h0
  have M12 :∀(left11:Int),o12=Sum.inr left11→∀s,Wk 0 s ⟨27,AP [(1,(i64 left11))],[]⟩→K7 s:=by
   intro left11 hq s hw
   subst o12
   try dsimp only at h0
   refine hK7 _ (AR hw (zr tb U U ?_))
   replace h0:=Sh.AB h0
   subst r
   exact AJ (xr (AT (L:=[(4,(i64 left11))]) (.same U)))
  refine AU (As (σ:=Int×Int) (fun n v=>Dg p0 rec_laws_szExpr n v.1 v.2=some o12) (fun (left9,i10)=>⟨27,AP [(0,(C4 p0)),(1,(i64 left9)),(5,(i64 i10))],[]⟩) N (Sh.w (p1 - (Sh.len p0)),0) h1 (AD U) (fun _ hv=>by rw[Dg] at hv;cases hv) ?_)
  rintro n ⟨left9,i10⟩ h1
  try dsimp only at h1 ⊢
  rw[Dg] at h1
  refine AF fun K14 hK14=>sr U fun K15 hK15=>zm tb 2 U (zl tb U U (zq tb U (dn hK15 U ?_)))
  refine ci h1 U ?_ ?_ <;> clear h1
  ·intro b16 h1
   refine AI (hK14 _ (AF fun K17 hK17=>AU (sr U fun K18 hK18=>zm tb 2 U (bs h1 fun c19 gc19 h1=>zz (EI c19) (BM cc U U gc19 (Ax _) rfl) rfl (zm tb 2 U (bs h1 fun q20 gq20 h1=>zc cb (hrec_laws_szExpr gq20) rfl U U (zq tb U (dn hK18 U ?_))))))))
   refine zr tb U U ?_
   refine ci h1 U ?_ ?_ <;> clear h1
   ·intro b22 h1
    refine zr tb U U ?_
    replace h1:=Sh.AB h1
    subst o12
    try dsimp only[id] at h0
    replace h0:=Sh.AB h0
    subst r
    exact AJ (xr (AT (L:=[(4,(i64 (-1)))]) (.same U)))
   ·intro b22 h1
    exact AI (hK17 _ (AK U (zm tb 3 U (AA (xi (q20,Sh.w (i10+1)) h1 (AD U))))))
  ·intro b16 h1
   exact Aw (M12 left9 (Sh.AB h1).symm _ (AD U))
theorem PB {N:Nat} {rec_laws_szExpr:AG→Int→Option (Int)} (hrec_laws_szExpr :∀{p0:AG} {p1:Int} {r:Int},rec_laws_szExpr p0 p1=some r→Ag Tryz.prog 83 [(B5 p0),(i64 p1)] [] (fun v st=>v=(i64 r)∧st=[])) {p0:AG} {p1:Int} {r:Int} (h0:Iq N rec_laws_szExpr p0 p1=some r):Ag Tryz.prog 83 [(B5 p0),(i64 p1)] [] (fun v st=>v=(i64 r)∧st=[]):=by
 unfold Iq at h0
 refine ai Tryz.func83 U U U U (sr U fun K1 hK1=>BH (m:=0) Ah U U U U U (zq tb U (dn hK1 U (sr U fun K2 hK2=>zm tb 3 U (bs h0 fun q3 gq3 h0=>zc cy (QZ hrec_laws_szExpr gq3) rfl U U (zq tb U (dn hK2 U (AF fun K4 hK4=>?_))))))))
 refine zr tb U U ?_
 refine ci h0 U ?_ ?_ <;> clear h0
 ·intro b6 h0
  refine zr tb U U ?_
  replace h0:=Sh.AB h0
  subst r
  exact AJ (xr (An [(4,(i64 (-1)))] U))
 ·intro b6 h0
  refine AI (hK4 _ (zr tb U U ?_))
  replace h0:=Sh.AB h0
  subst r
  exact AJ (xr (An [(4,(i64 q3))] U))

theorem Pf {N:Nat} :∀(n:Nat),∀{p0:AG} {p1:Int} {r:Int},GM N n p0 p1=some r→Ag Tryz.prog 83 [(B5 p0),(i64 p1)] [] (fun v st=>v=(i64 r)∧st=[]):=by
 intro n
 induction n with
 | zero=>intro p0 p1 r h0;cases h0
 | succ n ih=>
  intro p0 p1 r h0
  rw[GM] at h0
  exact PB (fun h=>ih h) h0
theorem RY {N:Nat} :∀{p0:AG} {p1:Int} {r:Int},J2 N p0 p1=some r→Ag Tryz.prog 83 [(B5 p0),(i64 p1)] [] (fun v st=>v=(i64 r)∧st=[]):=by
 intro p0 p1 r h0
 exact Pf N h0
theorem Rr {N:Nat} {p0:Am} {p1:Int} {r:Int} (h0:Iv N p0 p1=some r):Ag Tryz.prog 43 [(.agg (Sp p0)),(i64 p1)] [] (fun v st=>v=(i64 r)∧st=[]):=by
 unfold Iv at h0
 refine ai Tryz.func43 U U U U (sr U fun K1 hK1=>BH (m:=0) Ah U U U U U (zq tb U (dn hK1 U (sr U fun K2 hK2=>zm tb 3 U (bs h0 fun q3 gq3 h0=>zc cP (MU gq3) rfl U U (zq tb U (dn hK2 U (AF fun K4 hK4=>?_))))))))
 refine zr tb U U ?_
 refine ci h0 U ?_ ?_ <;> clear h0
 ·intro b6 h0
  refine zr tb U U ?_
  replace h0:=Sh.AB h0
  subst r
  exact AJ (xr (An [(4,(i64 (-1)))] U))
 ·intro b6 h0
  refine AI (hK4 _ (sr U fun K8 hK8=>zm tb 3 U (bs h0 fun q9 gq9 h0=>zc cb (RY gq9) rfl U U (zq tb U (dn hK8 U (AF fun K10 hK10=>zr tb U U ?_))))))
  refine ci h0 U ?_ ?_ <;> clear h0
  ·intro b12 h0
   refine zr tb U U ?_
   replace h0:=Sh.AB h0
   subst r
   exact AJ (xr (An [(4,(i64 (-1)))] U))
  ·intro b12 h0
   refine AI (hK10 _ (zr tb U U ?_))
   replace h0:=Sh.AB h0
   subst r
   exact AJ (xr (An [(4,(i64 q9))] U))
theorem Qm {N:Nat} {p0:(List Am)} {p1:Int} {r:Int} (h0:Hv N p0 p1=some r):Ag Tryz.prog 18 [(ls A3 p0),(i64 p1)] [] (fun v st=>v=(i64 r)∧st=[]):=by
 unfold Hv at h0
 refine ai Tryz.func18 U U U U (zr tb U U (sr U fun K2 hK2=>zm tb 2 U (zl tb U U (zm tb 2 U (dn hK2 U (AF fun K3 hK3=>zr tb U U ?_))))))
 refine ci h0 U ?_ ?_ <;> clear h0
 ·intro b5 h0
  refine zr tb U U ?_
  replace h0:=Sh.AB h0
  subst r
  exact AJ (xr (AT (L:=[(4,(i64 (-1)))]) (.same U)))
 ·intro b5 h0
  refine AI (hK3 _ (AF fun K7 hK7=>zr tb U U ?_))
  obtain⟨o12,h1,h0⟩:=Sh.BF h0
  have M12 :∀(left11:Int),o12=Sum.inr left11→∀s,Wk 0 s ⟨27,AP [(1,(i64 left11))],[]⟩→K7 s:=by
   intro left11 hq s hw
   subst o12
   try dsimp only at h0
   refine hK7 _ (AR hw (zr tb U U ?_))
   replace h0:=Sh.AB h0
   subst r
   exact AJ (xr (AT (L:=[(4,(i64 left11))]) (.same U)))
  refine AU (As (σ:=Int×Int) (fun n v=>EK N p0 n v.1 v.2=some o12) (fun (left9,i10)=>⟨27,AP [(0,(ls A3 p0)),(1,(i64 left9)),(5,(i64 i10))],[]⟩) N (Sh.w (p1 - (Sh.len p0)),0) h1 (AD U) (fun _ hv=>by rw[EK] at hv;cases hv) ?_)
  rintro n ⟨left9,i10⟩ h1
  try dsimp only at h1 ⊢
  rw[EK] at h1
  refine AF fun K14 hK14=>sr U fun K15 hK15=>zm tb 2 U (zl tb U U (zq tb U (dn hK15 U ?_)))
  refine ci h1 U ?_ ?_ <;> clear h1
  ·intro b16 h1
   refine AI (hK14 _ (AF fun K17 hK17=>AU (sr U fun K18 hK18=>zm tb 2 U (bs h1 fun c19 gc19 h1=>zx cq gc19 U U U (zm tb 2 U (bs h1 fun q20 gq20 h1=>zc fK (Rr gq20) rfl U U (zq tb U (dn hK18 U ?_))))))))
   refine zr tb U U ?_
   refine ci h1 U ?_ ?_ <;> clear h1
   ·intro b22 h1
    refine zr tb U U ?_
    replace h1:=Sh.AB h1
    subst o12
    try dsimp only[id] at h0
    replace h0:=Sh.AB h0
    subst r
    exact AJ (xr (AT (L:=[(4,(i64 (-1)))]) (.same U)))
   ·intro b22 h1
    exact AI (hK17 _ (AK U (zm tb 3 U (AA (xi (q20,Sh.w (i10+1)) h1 (AD U))))))
  ·intro b16 h1
   exact Aw (M12 left9 (Sh.AB h1).symm _ (AD U))
theorem O5 {N:Nat} {p0:Aa} {p1:Int} {r:Int} (h0:Gr N p0 p1=some r):Ag Tryz.prog 6 [(HM p0),(i64 p1)] [] (fun v st=>v=(i64 r)∧st=[]):=by
 unfold Gr at h0
 refine ai Tryz.func6 U U U U (sr U fun K1 hK1=>BH (m:=0) Ah U U U U U (zq tb U (dn hK1 U (sr U fun K2 hK2=>zm tb 3 U (bs h0 fun q3 gq3 h0=>zc fp (Qa gq3) rfl U U (zq tb U (dn hK2 U (AF fun K4 hK4=>?_))))))))
 refine zr tb U U ?_
 refine ci h0 U ?_ ?_ <;> clear h0
 ·intro b6 h0
  refine zr tb U U ?_
  replace h0:=Sh.AB h0
  subst r
  exact AJ (xr (An [(4,(i64 (-1)))] U))
 ·intro b6 h0
  refine AI (hK4 _ (sr U fun K8 hK8=>zm tb 3 U (bs h0 fun q9 gq9 h0=>zc eR (Qm gq9) rfl U U (zq tb U (dn hK8 U (AF fun K10 hK10=>zr tb U U ?_))))))
  refine ci h0 U ?_ ?_ <;> clear h0
  ·intro b12 h0
   refine zr tb U U ?_
   replace h0:=Sh.AB h0
   subst r
   exact AJ (xr (An [(4,(i64 (-1)))] U))
  ·intro b12 h0
   refine AI (hK10 _ (zr tb U U ?_))
   replace h0:=Sh.AB h0
   subst r
   exact AJ (xr (An [(4,(i64 q9))] U))
theorem MW {N:Nat} {p0:(List Int)} {r:(List Int)} (h0:HR N p0=some r):Ag Tryz.prog 96 [(ls eI p0)] [] (fun v st=>v=(ow 0 0 r)∧st=[(BL r)]):=by
 unfold HR at h0
 refine ai Tryz.func96 U U U U (zr tb U U (sr U fun K2 hK2=>zq tb U (zl tb U U (bs h0 fun l3 gl3 h0=>TB (m:=0) (enc:=eI) (u:=0) Ah Bm U U U gl3 U U (zq tb U (dn hK2 U (AF fun K4 hK4=>zr tb U U (bs h0 fun o9 h1 h0=>?_))))))))
 have M9 :∀(l8:(List Int)),o9=l8→∀s,Wk 0 s ⟨22,AP [(3,(ow 0 0 l8))],[(BL l8)]⟩→K4 s:=by
  intro l8 hq s hw
  subst o9
  try dsimp only at h0
  refine hK4 _ (AR hw (zr tb U U ?_))
  replace h0:=Sh.AB h0
  subst r
  exact AJ (xr (AT (L:=[(2,(ow 0 0 l8))]) (.same U)))
 refine AU (As (σ:=Int×(List Int)) (fun n v=>D2 p0 n v.1 v.2=some o9) (fun (i6,l7)=>⟨22,AP [(0,(ls eI p0)),(3,(ow 0 0 l7)),(4,(i64 i6))],[(BL l7)]⟩) N (0,l3) h1 (AD U) (fun _ hv=>by rw[D2] at hv;cases hv) ?_)
 rintro n ⟨i6,l7⟩ h1
 try dsimp only at h1 ⊢
 rw[D2] at h1
 refine AF fun K11 hK11=>sr U fun K12 hK12=>zm tb 2 U (zl tb U U (zq tb U (dn hK12 U ?_)))
 refine ci h1 U ?_ ?_ <;> clear h1
 ·intro b13 h1
  refine AI (hK11 _ (AF fun K14 hK14=>AU (AK U (zm tb 4 U (bs h1 fun c15 gc15 h1=>zx Bm gc15 U U U (zq tb U (bs h1 fun c16 gc16 h1=>zz (Ml i6) (Bf Bm U U U U gc16) rfl (Io (u':=c15) Ah IJ U U gc16 U U U (show 0+1≤1 by decide) rfl U (dn hK14 U ?_)))))))))
  refine AK U (zm tb 3 U ?_)
  exact AA (xi (Sh.w (i6+1),Sh.put l7 i6 c15) h1 (AT (L:=[(0,(.sl (List.map eI p0))),(3,(.own 0 0 (List.length (Sh.put l7 i6 c15)))),(4,(i64 (Sh.w (i6+1))))]) ⟨.rfl,(.len (by simp only[Sh.A7])),.rfl,trivial⟩))
 ·intro b13 h1
  exact Aw (M9 l7 (Sh.AB h1).symm _ (AD U))
theorem Sk {N:Nat} {p0:BU} {r:BU} (h0:JZ N p0=some r):Ag Tryz.prog 123 [(.agg (BZ p0))] [] (fun v st=>v=(.agg [(ow 0 0 r.fields)])∧st=[(ro 0 3 1 eI r.fields)]):=by
 unfold JZ at h0
 refine Ag.wk (r0:=(.agg [(ow 0 0 r.fields)])) (st0:=[(ro 0 3 1 eI r.fields),⟨0,111,1,[[(ow 0 0 r.fields)]]⟩]) ?_ (Ev (L:=[(0,(.agg [(ow 0 0 r.fields)]))]) (st':=[(ro 0 3 1 eI r.fields)]) [0] U (by decide) rfl U (.pure (AN fun _=>U) trivial) (.same U))
 refine ai Tryz.func123 U U U U (sr U fun K1 hK1=>BH (m:=0) Ah U U U U U (A0 (m:=1) Ah LK U U (dn hK1 U (sr U fun K2 hK2=>A0 (m:=2) Ah LK U U (dn hK2 U (sr U fun K3 hK3=>zm tb 2 U (bs h0 fun q4 gq4 h0=>BY (v':=(ow 3 0 q4)) Ah ck (MW gq4) rfl U ⟨(B2 fun _=>U),trivial⟩ U U ?_)))))))
 refine zq tb U (A1 Ah HZ U U U U U U (show 0+1≤1 by decide) rfl (dn hK3 U (sr U fun K5 hK5=>zq tb U (A1 Ah JI U U U U U U (show 0+1≤1 by decide) rfl (dn hK5 U ?_)))))
 replace h0:=Sh.AB h0
 subst r
 exact AJ (Exists.intro _ (And.intro ((A4 (L:=[(2,Ay)]) (st':=[(BL q4),⟨0,111,1,[[(ow 0 0 q4)]]⟩]) (st1:=[(BL q4),⟨0,111,1,[[(ow 3 0 q4)]]⟩]) [3,1] U .nil (by decide) rfl U (.pure (AN fun _=>U) (.raw U U .nil)) (.same U)).trans (AT (L:=[(2,Ay)]) (.same U))) (BE (x:=.tmp 2) (off:=0) (cs:=[(ow 0 0 q4)]) (vs:=[(ow 0 0 q4)]) JI U U U (show 0+1≤1 by decide) rfl _ ⟨U,U⟩)))
theorem RV {N:Nat} {p0:(List BU)} {r:(List BU)} (h0:It N p0=some r):Ag Tryz.prog 95 [(ls BZ p0)] [] (fun v st=>v=(ow 0 0 r)∧st=[(Te r)]):=by
 unfold It at h0
 refine ai Tryz.func95 U U U U (zr tb U U (sr U fun K2 hK2=>zq tb U (zl tb U U (bs h0 fun l3 gl3 h0=>Nn (m:=0) (st':=[(Te l3)]) (enc:=(CX 3)) (u:=(BU.mk [])) ID U U ⟨.inr ⟨U,_,_,U,by decide⟩,trivial⟩ gl3 U U (zq tb U (dn hK2 U (AF fun K4 hK4=>zr tb U U (bs h0 fun o9 h1 h0=>?_))))))))
 have M9 :∀(l8:(List BU)),o9=l8→∀s,Wk 0 s ⟨23,AP [(3,(ow 0 0 l8))],[(Te l8)]⟩→K4 s:=by
  intro l8 hq s hw
  subst o9
  try dsimp only at h0
  refine hK4 _ (AR hw (zr tb U U ?_))
  replace h0:=Sh.AB h0
  subst r
  exact AJ (xr (AT (L:=[(2,(ow 0 0 l8))]) (.same U)))
 refine AU (As (σ:=Int×(List BU)) (fun n v=>Eh N p0 n v.1 v.2=some o9) (fun (i6,l7)=>⟨23,AP [(0,(ls BZ p0)),(3,(ow 0 0 l7)),(4,(i64 i6))],[(Te l7)]⟩) N (0,l3) h1 (AD U) (fun _ hv=>by rw[Eh] at hv;cases hv) ?_)
 rintro n ⟨i6,l7⟩ h1
 try dsimp only at h1 ⊢
 rw[Eh] at h1
 refine AF fun K11 hK11=>sr U fun K12 hK12=>zm tb 2 U (zl tb U U (zq tb U (dn hK12 U ?_)))
 refine ci h1 U ?_ ?_ <;> clear h1
 ·intro b13 h1
  refine AI (hK11 _ (AF fun K14 hK14=>AU (AK U (zm tb 4 U (bs h1 fun c15 gc15 h1=>zx cR gc15 U U U (zq tb U (bs h1 fun q16 gq16 h1=>BY (v':=(.agg [(ow 1 0 q16.fields)])) Ah cv (Sk gq16) rfl U ⟨(B2 fun _=>U),trivial⟩ U U (bs h1 fun c17 gc17 h1=>zz (Ml i6) (Bf ID U U U U gc17) rfl ?_))))))))
  refine Rw (st':=[⟨0,111,1,hole l7 (CX 3) i6 [(ow 1 0 q16.fields)]⟩,(ro 0 3 1 eI q16.fields)]) Ah JI U U gc17 U U U (show 1≤1 by decide) rfl U ?_
  refine Ak (Wk.take (id:=0) (m:=1) (j:=0) (i:=i6) (c:=c17) (ys:=q16.fields) (encY:=eI) rfl gc17 U U U (by decide) (show 0≤1 by decide) (fun _=>U) rfl U) ?_
  refine Ak (EW (id:=0) (i:=i6) (u:=q16) rfl U U) (dn hK14 U (AK U (zm tb 3 U ?_)))
  exact AA (xi (Sh.w (i6+1),Sh.put l7 i6 q16) h1 (by refine Wk.trans (Af (L:=[(0,(.sl (List.map BZ p0))),(3,(.own 0 0 (List.length l7))),(4,(i64 (Sh.w (i6+1))))]) (st':=[⟨0,111,1,List.map (CX 3) (Sh.put l7 i6 q16)⟩]) [0] U (by decide) rfl U (.deep (AL fun _=>U) .nil) ⟨.rfl,.rfl,.rfl,trivial⟩) ?_;exact AT (L:=[(0,(.sl (List.map BZ p0))),(3,(.own 0 0 (List.length (Sh.put l7 i6 q16)))),(4,(i64 (Sh.w (i6+1))))]) ⟨.rfl,(.len (by simp only[Sh.A7])),.rfl,trivial⟩))
 ·intro b13 h1
  exact Aw (M9 l7 (Sh.AB h1).symm _ (AD U))
theorem RR {N:Nat} {p0:Ab} {r:Ab} (h0:IM N p0=some r):Ag Tryz.prog 51 [(.agg (Ai p0))] [] (fun v st=>v=(.agg (bE r))∧st=[(ro 0 111 1 (CX 3) r.cons)]):=by
 unfold IM at h0
 refine Ag.wk (r0:=(.agg (bE r))) (st0:=[(ro 0 111 1 (CX 3) r.cons),⟨0,81,3,[(bE r)]⟩]) ?_ (Ev (L:=[(0,(.agg (bE r)))]) (st':=[(ro 0 111 1 (CX 3) r.cons)]) [0] U (by decide) rfl U (.deep (AL fun _=>U) trivial) (.same U))
 refine ai Tryz.func51 U U U U (sr U fun K1 hK1=>BH (m:=0) Ah U U U U U (A0 (m:=1) Ah GR U U (dn hK1 U (sr U fun K2 hK2=>A0 (m:=2) Ah GR U U (dn hK2 U (sr U fun K3 hK3=>zm tb 3 U (A1 Ah IJ U U U U U U (show 0+1≤3 by decide) rfl (dn hK3 U ?_))))))))
 refine sr U fun K4 hK4=>zm tb 3 U (A1 Ah IJ U U U U U U (show 1+1≤3 by decide) rfl (dn hK4 U (sr U fun K5 hK5=>zm tb 2 U (bs h0 fun q6 gq6 h0=>BY (v':=(ow 3 0 q6)) Ah eC (RV gq6) rfl U ⟨(AL fun _=>U),trivial⟩ U U (zq tb U (A1 Ah OL U U U U U U (show 2+1≤3 by decide) rfl (dn hK5 U (sr U fun K7 hK7=>?_))))))))
 refine zq tb U (A1 Ah I4 U U U U U U (show 0+3≤3 by decide) rfl (dn hK7 U ?_))
 replace h0:=Sh.AB h0
 subst r
 exact AJ (Exists.intro _ (And.intro ((A4 (L:=[(2,Ay)]) (st':=[(Te q6),⟨0,81,3,[[(i64 p0.from_),(i64 p0.to),(ow 0 0 q6)]]⟩]) (st1:=[(Te q6),⟨0,81,3,[[(i64 p0.from_),(i64 p0.to),(ow 3 0 q6)]]⟩]) [3,1] U .nil (by decide) rfl U (.deep (AL fun _=>U) (.raw U U .nil)) (.same U)).trans (AT (L:=[(2,Ay)]) (.same U))) (BE (x:=.tmp 2) (off:=0) (cs:=[(i64 p0.from_),(i64 p0.to),(ow 0 0 q6)]) (vs:=[(i64 p0.from_),(i64 p0.to),(ow 0 0 q6)]) I4 U U U (show 0+3≤3 by decide) rfl _ ⟨U,U⟩)))
theorem QG {N:Nat} {p0:(List Ab)} {r:(List Ab)} (h0:Hr N p0=some r):Ag Tryz.prog 22 [(BT p0)] [] (fun v st=>v=(ow 0 0 r)∧st=[(EC r)]):=by
 unfold Hr at h0
 refine ai Tryz.func22 U U U U (zr tb U U (sr U fun K2 hK2=>zq tb U (zl tb U U (bs h0 fun l3 gl3 h0=>Nn (m:=0) (st':=[(EC l3)]) (enc:=(Aj 111 3)) (u:=(Ab.mk 0 0 [])) DC U U ⟨.inl ⟨U,U⟩,⟨.inl ⟨U,U⟩,⟨.inr ⟨U,_,_,U,by decide⟩,trivial⟩⟩⟩ gl3 U U (zq tb U (dn hK2 U (AF fun K4 hK4=>zr tb U U (bs h0 fun o9 h1 h0=>?_))))))))
 have M9 :∀(l8:(List Ab)),o9=l8→∀s,Wk 0 s ⟨23,AP [(3,(ow 0 0 l8))],[(EC l8)]⟩→K4 s:=by
  intro l8 hq s hw
  subst o9
  try dsimp only at h0
  refine hK4 _ (AR hw (zr tb U U ?_))
  replace h0:=Sh.AB h0
  subst r
  exact AJ (xr (AT (L:=[(2,(ow 0 0 l8))]) (.same U)))
 refine AU (As (σ:=Int×(List Ab)) (fun n v=>EO N p0 n v.1 v.2=some o9) (fun (i6,l7)=>⟨23,AP [(0,(BT p0)),(3,(ow 0 0 l7)),(4,(i64 i6))],[(EC l7)]⟩) N (0,l3) h1 (AD U) (fun _ hv=>by rw[EO] at hv;cases hv) ?_)
 rintro n ⟨i6,l7⟩ h1
 try dsimp only at h1 ⊢
 rw[EO] at h1
 refine AF fun K11 hK11=>sr U fun K12 hK12=>zm tb 2 U (zl tb U U (zq tb U (dn hK12 U ?_)))
 refine ci h1 U ?_ ?_ <;> clear h1
 ·intro b13 h1
  refine AI (hK11 _ (AF fun K14 hK14=>AU (AK U (zm tb 4 U (bs h1 fun c15 gc15 h1=>zx cQ gc15 U U U (zq tb U (bs h1 fun q16 gq16 h1=>BY (v':=(.agg [(i64 q16.from_),(i64 q16.to),(ow 1 0 q16.cons)])) Ah fe (RR gq16) rfl U ⟨(AL fun _=>U),trivial⟩ U U (bs h1 fun c17 gc17 h1=>zz (Ml i6) (Bf DC U U U U gc17) rfl ?_))))))))
  refine Rw (st':=[⟨0,81,3,hole l7 (Aj 111 3) i6 [(i64 q16.from_),(i64 q16.to),(ow 1 0 q16.cons)]⟩,(ro 0 111 1 (CX 3) q16.cons)]) Ah I4 U U gc17 U U U (show 3≤3 by decide) rfl U ?_
  refine Ak (Wk.take (id:=0) (m:=1) (j:=2) (i:=i6) (c:=c17) (ys:=q16.cons) (encY:=(CX 3)) rfl gc17 U U U (by decide) (show 0≤1 by decide) (fun _=>U) rfl U) ?_
  refine Ak (EW (id:=0) (i:=i6) (u:=q16) rfl U U) (dn hK14 U (AK U (zm tb 3 U ?_)))
  exact AA (xi (Sh.w (i6+1),Sh.put l7 i6 q16) h1 (by refine Wk.trans (Af (L:=[(0,(.sl (List.map Ai p0))),(3,(.own 0 0 (List.length l7))),(4,(i64 (Sh.w (i6+1))))]) (st':=[⟨0,81,3,List.map (Aj 111 3) (Sh.put l7 i6 q16)⟩]) [0] U (by decide) rfl U (.deep (AL fun _=>U) .nil) ⟨.rfl,.rfl,.rfl,trivial⟩) ?_;exact AT (L:=[(0,(.sl (List.map Ai p0))),(3,(.own 0 0 (List.length (Sh.put l7 i6 q16)))),(4,(i64 (Sh.w (i6+1))))]) ⟨.rfl,(.len (by simp only[Sh.A7])),.rfl,trivial⟩))
 ·intro b13 h1
  exact Aw (M9 l7 (Sh.AB h1).symm _ (AD U))
theorem QF {N:Nat} {rec_laws_toExpr:AG→Option (AG)} (hrec_laws_toExpr :∀{p0:AG} {r:AG},rec_laws_toExpr p0=some r→Ag Tryz.prog 97 [(B5 p0)] [] (fun v st=>v=(Nv r)∧st=[(Bj r)])) {p0:(List AG)} {r:(List AG)} (h0:JU N rec_laws_toExpr p0=some r):Ag Tryz.prog 124 [(C4 p0)] [] (fun v st=>v=(ow 0 0 r)∧st=[(EX r)]):=by
 unfold JU at h0
 refine ai Tryz.func124 U U U U (zr tb U U (sr U fun K2 hK2=>zq tb U (zl tb U U (bs h0 fun l3 gl3 h0=>?_))))
 refine Nn (m:=0) (st':=[(EX l3)]) (enc:=(Av 44)) (u:=(AG.mk 0 0 [])) Bc U U (by rw[BV];exact⟨.inl ⟨U,U⟩,⟨.inl ⟨U,U⟩,⟨.inr ⟨U,_,_,U,by decide⟩,trivial⟩⟩⟩) gl3 U U ?_
 refine zq tb U (dn hK2 U (AF fun K4 hK4=>zr tb U U (bs h0 fun o9 h1 h0=>?_)))
 have M9 :∀(l8:(List AG)),o9=l8→∀s,Wk 0 s ⟨23,AP [(3,(ow 0 0 l8))],[(EX l8)]⟩→K4 s:=by
  intro l8 hq s hw
  subst o9
  try dsimp only at h0
  refine hK4 _ (AR hw (zr tb U U ?_))
  replace h0:=Sh.AB h0
  subst r
  exact AJ (xr (AT (L:=[(2,(ow 0 0 l8))]) (.same U)))
 refine AU (As (σ:=Int×(List AG)) (fun n v=>EB p0 rec_laws_toExpr n v.1 v.2=some o9) (fun (i6,l7)=>⟨23,AP [(0,(C4 p0)),(3,(ow 0 0 l7)),(4,(i64 i6))],[(EX l7)]⟩) N (0,l3) h1 (AD U) (fun _ hv=>by rw[EB] at hv;cases hv) ?_)
 rintro n ⟨i6,l7⟩ h1
 try dsimp only at h1 ⊢
 rw[EB] at h1
 refine AF fun K11 hK11=>sr U fun K12 hK12=>zm tb 2 U (zl tb U U (zq tb U (dn hK12 U ?_)))
 refine ci h1 U ?_ ?_ <;> clear h1
 ·intro b13 h1
  refine AI (hK11 _ (AF fun K14 hK14=>AU (AK U (zm tb 4 U (bs h1 fun c15 gc15 h1=>zz (EI c15) (BM cc U U gc15 (Ax _) rfl) rfl (zq tb U (bs h1 fun q16 gq16 h1=>BY (v':=(.agg (Rp q16))) Ah cf (hrec_laws_toExpr gq16) rfl U ⟨(AL Ac),trivial⟩ U U (bs h1 fun c17 gc17 h1=>zz (Ml i6) (Bf Bc U U U U gc17) rfl ?_))))))))
  refine Rw (st':=[⟨0,44,3,hole l7 (Av 44) i6 (Rp q16)⟩,(Bj q16)]) Ah Bl U U gc17 U U U (show 3≤3 by decide) (Vc _) rfl ?_
  refine Ak (Wk.take (id:=0) (m:=1) (j:=2) (i:=i6) (c:=c17) (ys:=q16.kids) (encY:=(Av 44)) rfl gc17 U U U (by decide) (show 0≤1 by decide) CM U U) ?_
  refine Ak (EW (id:=0) (i:=i6) (u:=q16) rfl (BV q16).symm U) (dn hK14 U (AK U (zm tb 3 U ?_)))
  exact AA (xi (Sh.w (i6+1),Sh.put l7 i6 q16) h1 (by refine Wk.trans (Af (L:=[(0,(.sl (List.map BS p0))),(3,(.own 0 0 (List.length l7))),(4,(i64 (Sh.w (i6+1))))]) (st':=[⟨0,44,3,List.map (Av 44) (Sh.put l7 i6 q16)⟩]) [0] U (by decide) rfl U (.deep (AL Ac) .nil) ⟨.rfl,.rfl,.rfl,trivial⟩) ?_;exact AT (L:=[(0,(.sl (List.map BS p0))),(3,(.own 0 0 (List.length (Sh.put l7 i6 q16)))),(4,(i64 (Sh.w (i6+1))))]) ⟨.rfl,(.len (by simp only[Sh.A7])),.rfl,trivial⟩))
 ·intro b13 h1
  exact Aw (M9 l7 (Sh.AB h1).symm _ (AD U))
theorem Py {N:Nat} {rec_laws_toExpr:AG→Option (AG)} (hrec_laws_toExpr :∀{p0:AG} {r:AG},rec_laws_toExpr p0=some r→Ag Tryz.prog 97 [(B5 p0)] [] (fun v st=>v=(Nv r)∧st=[(Bj r)])) {p0:AG} {r:AG} (h0:Ix N rec_laws_toExpr p0=some r):Ag Tryz.prog 97 [(B5 p0)] [] (fun v st=>v=(Nv r)∧st=[(Bj r)]):=by
 unfold Ix at h0
 refine Ag.wk (r0:=(Nv r)) (st0:=[(Bj r),⟨0,44,3,[(Xq r)]⟩]) ?_ (Ev (L:=[(0,(Nv r))]) (st':=[(Bj r)]) [0] U (by decide) rfl U (.deep (AL Ac) trivial) (.same U))
 refine ai Tryz.func97 U U U U (sr U fun K1 hK1=>BH (m:=0) Ah U U U U U (A0 (m:=1) Ah Fz U U (dn hK1 U (sr U fun K2 hK2=>A0 (m:=2) Ah Fz U U (dn hK2 U (sr U fun K3 hK3=>zm tb 3 U (A1 Ah IJ U U U U U U (show 0+1≤3 by decide) rfl (dn hK3 U ?_))))))))
 refine sr U fun K4 hK4=>zm tb 3 U (A1 Ah IJ U U U U U U (show 1+1≤3 by decide) rfl (dn hK4 U (sr U fun K5 hK5=>zm tb 2 U (bs h0 fun q6 gq6 h0=>BY (v':=(ow 3 0 q6)) Ah dw (QF hrec_laws_toExpr gq6) rfl U ⟨(AL Ac),trivial⟩ U U (zq tb U (A1 Ah UM U U U U U U (show 2+1≤3 by decide) rfl (dn hK5 U (sr U fun K7 hK7=>?_))))))))
 refine zq tb U (A1 Ah Bl U U U U U U (show 0+3≤3 by decide) rfl (dn hK7 U ?_))
 replace h0:=Sh.AB h0
 subst r
 exact AJ (Exists.intro _ (And.intro ((A4 (L:=[(2,Ay)]) (st':=[(EX q6),⟨0,44,3,[[(i64 p0.op),(i64 p0.num),(ow 0 0 q6)]]⟩]) (st1:=[(EX q6),⟨0,44,3,[[(i64 p0.op),(i64 p0.num),(ow 3 0 q6)]]⟩]) [3,1] U .nil (by decide) rfl U (.deep (AL Ac) (.raw U U .nil)) (.same U)).trans (AT (L:=[(2,Ay)]) (.same U))) (BE (x:=.tmp 2) (off:=0) (cs:=[(i64 p0.op),(i64 p0.num),(ow 0 0 q6)]) (vs:=[(i64 p0.op),(i64 p0.num),(ow 0 0 q6)]) Bl U U U (show 0+3≤3 by decide) rfl _ ⟨U,U⟩)))

theorem P5 {N:Nat} :∀(n:Nat),∀{p0:AG} {r:AG},FP N n p0=some r→Ag Tryz.prog 97 [(B5 p0)] [] (fun v st=>v=(Nv r)∧st=[(Bj r)]):=by
 intro n
 induction n with
 | zero=>intro p0 r h0;cases h0
 | succ n ih=>
  intro p0 r h0
  rw[FP] at h0
  exact Py (fun h=>ih h) h0
theorem Rj {N:Nat} :∀{p0:AG} {r:AG},J4 N p0=some r→Ag Tryz.prog 97 [(B5 p0)] [] (fun v st=>v=(Nv r)∧st=[(Bj r)]):=by
 intro p0 r h0
 exact P5 N h0
theorem Rl {N:Nat} {p0:Am} {r:Am} (h0:I1 N p0=some r):Ag Tryz.prog 52 [(.agg (Sp p0))] [] (fun v st=>v=(.agg (bN r))∧st=[(ro 0 3 1 eI r.params),(IK r)]):=by
 unfold I1 at h0
 refine Ag.wk (r0:=(.agg (bN r))) (st0:=[(ro 0 3 1 eI r.params),(IK r),⟨0,48,5,[(bN r)]⟩]) ?_ (Ev (L:=[(0,(.agg (bN r)))]) (st':=[(ro 0 3 1 eI r.params),(IK r)]) [0,1] U (by decide) rfl U (.pure (AN fun _=>U) (.deep (AL Ac) trivial)) (.same U))
 refine ai Tryz.func52 U U U U (sr U fun K1 hK1=>BH (m:=0) Ah U U U U U (A0 (m:=1) Ah Mx U U (dn hK1 U (sr U fun K2 hK2=>A0 (m:=2) Ah Mx U U (dn hK2 U (sr U fun K3 hK3=>zm tb 2 U (bs h0 fun q4 gq4 h0=>BY (v':=(ow 3 0 q4)) Ah ck (MW gq4) rfl U ⟨(B2 fun _=>U),trivial⟩ U U ?_)))))))
 refine zq tb U (A1 Ah HZ U U U U U U (show 0+1≤5 by decide) rfl (dn hK3 U (sr U fun K5 hK5=>zm tb 3 U (A1 Ah IJ U U U U U U (show 1+1≤5 by decide) rfl (dn hK5 U (sr U fun K6 hK6=>zm tb 2 U (bs h0 fun q7 gq7 h0=>BY (v':=(.agg (Mc q7))) Ah cf (Rj gq7) rfl U ⟨(AL Ac),trivial⟩ U U (zq tb U ?_))))))))
 refine A1 Ah Bl U U U U U U (show 2+3≤5 by decide) rfl (dn hK6 U (sr U fun K8 hK8=>zq tb U (A1 Ah Pt U U U U U U (show 0+5≤5 by decide) rfl (dn hK8 U ?_))))
 replace h0:=Sh.AB h0
 subst r
 exact AJ (Exists.intro _ (And.intro ((A4 (L:=[(2,BK)]) (st':=[(BL q4),(Bj q7),⟨0,48,5,[[(ow 0 0 q4),(i64 p0.result),(i64 q7.op),(i64 q7.num),(ow 1 0 q7.kids)]]⟩]) (st1:=[(BL q4),(Bj q7),⟨0,48,5,[[(ow 3 0 q4),(i64 p0.result),(i64 q7.op),(i64 q7.num),(ow 4 0 q7.kids)]]⟩]) [3,4,1] U .nil (by decide) rfl U (.pure (AN fun _=>U) (.deep (AL Ac) (.raw U U .nil))) (.same U)).trans (AT (L:=[(2,BK)]) (.same U))) (BE (x:=.tmp 2) (off:=0) (cs:=[(ow 0 0 q4),(i64 p0.result),(i64 q7.op),(i64 q7.num),(ow 1 0 q7.kids)]) (vs:=[(ow 0 0 q4),(i64 p0.result),(i64 q7.op),(i64 q7.num),(ow 1 0 q7.kids)]) Pt U U U (show 0+5≤5 by decide) rfl _ ⟨U,U⟩)))
theorem Ql {N:Nat} {p0:(List Am)} {r:(List Am)} (h0:Hk N p0=some r):Ag Tryz.prog 23 [(ls A3 p0)] [] (fun v st=>v=(ow 0 0 r)∧st=[(CA r)]):=by
 unfold Hk at h0
 refine ai Tryz.func23 U U U U (zr tb U U (sr U fun K2 hK2=>zq tb U (zl tb U U (bs h0 fun l3 gl3 h0=>Nn (m:=0) (st':=[(CA l3)]) (enc:=(BB 3 44)) (u:=(Am.mk [] 0 (AG.mk 0 0 []))) CR U U ⟨.inr ⟨U,_,_,U,by decide⟩,⟨.inl ⟨U,U⟩,⟨.inl ⟨U,U⟩,⟨.inl ⟨U,U⟩,⟨.inr ⟨U,_,_,U,by decide⟩,trivial⟩⟩⟩⟩⟩ gl3 U U (zq tb U (dn hK2 U (AF fun K4 hK4=>zr tb U U (bs h0 fun o9 h1 h0=>?_))))))))
 have M9 :∀(l8:(List Am)),o9=l8→∀s,Wk 0 s ⟨23,AP [(3,(ow 0 0 l8))],[(CA l8)]⟩→K4 s:=by
  intro l8 hq s hw
  subst o9
  try dsimp only at h0
  refine hK4 _ (AR hw (zr tb U U ?_))
  replace h0:=Sh.AB h0
  subst r
  exact AJ (xr (AT (L:=[(2,(ow 0 0 l8))]) (.same U)))
 refine AU (As (σ:=Int×(List Am)) (fun n v=>ER N p0 n v.1 v.2=some o9) (fun (i6,l7)=>⟨23,AP [(0,(ls A3 p0)),(3,(ow 0 0 l7)),(4,(i64 i6))],[(CA l7)]⟩) N (0,l3) h1 (AD U) (fun _ hv=>by rw[ER] at hv;cases hv) ?_)
 rintro n ⟨i6,l7⟩ h1
 try dsimp only at h1 ⊢
 rw[ER] at h1
 refine AF fun K11 hK11=>sr U fun K12 hK12=>zm tb 2 U (zl tb U U (zq tb U (dn hK12 U ?_)))
 refine ci h1 U ?_ ?_ <;> clear h1
 ·intro b13 h1
  refine AI (hK11 _ (AF fun K14 hK14=>AU (AK U (zm tb 4 U (bs h1 fun c15 gc15 h1=>zx cq gc15 U U U (zq tb U (bs h1 fun q16 gq16 h1=>BY (v':=(.agg [(ow 1 0 q16.params),(i64 q16.result),(i64 q16.body.op),(i64 q16.body.num),(ow 2 0 q16.body.kids)])) Ah fg (Rl gq16) rfl U ⟨(B2 fun _=>U),⟨(AL Ac),trivial⟩⟩ U U (bs h1 fun c17 gc17 h1=>zz (Ml i6) (Bf CR U U U U gc17) rfl ?_))))))))
  refine Rw (st':=[⟨0,48,5,hole l7 (BB 3 44) i6 [(ow 1 0 q16.params),(i64 q16.result),(i64 q16.body.op),(i64 q16.body.num),(ow 2 0 q16.body.kids)]⟩,(ro 0 3 1 eI q16.params),(IK q16)]) Ah Pt U U gc17 U U U (show 5≤5 by decide) rfl U ?_
  refine Ak (Wk.take (id:=0) (m:=1) (j:=0) (i:=i6) (c:=c17) (ys:=q16.params) (encY:=eI) rfl gc17 U U U (by decide) (show 0≤1 by decide) (fun _=>U) rfl U) ?_
  refine Ak (Wk.take (id:=0) (m:=2) (j:=4) (i:=i6) (c:=c17) (ys:=q16.body.kids) (encY:=(Av 44)) rfl gc17 U U U (by decide) (show 0≤2 by decide) CM U U) ?_
  refine Ak (EW (id:=0) (i:=i6) (u:=q16) rfl U U) (dn hK14 U (AK U (zm tb 3 U ?_)))
  exact AA (xi (Sh.w (i6+1),Sh.put l7 i6 q16) h1 (by refine Wk.trans (Af (L:=[(0,(.sl (List.map A3 p0))),(3,(.own 0 0 (List.length l7))),(4,(i64 (Sh.w (i6+1))))]) (st':=[⟨0,48,5,List.map (BB 3 44) (Sh.put l7 i6 q16)⟩]) [0] U (by decide) rfl U (.deep (AL fun _=>U) .nil) ⟨.rfl,.rfl,.rfl,trivial⟩) ?_;exact AT (L:=[(0,(.sl (List.map A3 p0))),(3,(.own 0 0 (List.length (Sh.put l7 i6 q16)))),(4,(i64 (Sh.w (i6+1))))]) ⟨.rfl,(.len (by simp only[Sh.A7])),.rfl,trivial⟩))
 ·intro b13 h1
  exact Aw (M9 l7 (Sh.AB h1).symm _ (AD U))
theorem GX {N:Nat} {p0:Aa} {r:Aa} (h0:Ef N p0=some r):Ag Tryz.prog 8 [(HM p0)] [] (fun v st=>v=(.agg [(ow 0 0 r.decls),(ow 1 0 r.funcs)])∧st=[(ro 0 81 3 (Aj 111 3) r.decls),(Ny r)]):=by
 unfold Ef at h0
 refine Ag.wk (r0:=(.agg [(ow 0 0 r.decls),(ow 1 0 r.funcs)])) (st0:=[(ro 0 81 3 (Aj 111 3) r.decls),(Ny r),⟨0,30,2,[[(ow 0 0 r.decls),(ow 1 0 r.funcs)]]⟩]) ?_ (Ev (L:=[(0,(.agg [(ow 0 0 r.decls),(ow 1 0 r.funcs)]))]) (st':=[(ro 0 81 3 (Aj 111 3) r.decls),(Ny r)]) [0,1] U (by decide) rfl U (.deep (AL fun _=>U) (.deep (AL fun _=>U) trivial)) (.same U))
 refine ai Tryz.func8 U U U U (sr U fun K1 hK1=>BH (m:=0) Ah U U U U U (A0 (m:=1) Ah HY U U (dn hK1 U (sr U fun K2 hK2=>A0 (m:=2) Ah HY U U (dn hK2 U (sr U fun K3 hK3=>zm tb 2 U (bs h0 fun q4 gq4 h0=>BY (v':=(ow 3 0 q4)) Ah fV (QG gq4) rfl U ⟨(AL fun _=>U),trivial⟩ U U ?_)))))))
 refine zq tb U (A1 Ah cu U U U U U U (show 0+1≤2 by decide) rfl (dn hK3 U (sr U fun K5 hK5=>zm tb 2 U (bs h0 fun q6 gq6 h0=>BY (v':=(ow 4 0 q6)) Ah eW (Ql gq6) rfl U ⟨(AL fun _=>U),trivial⟩ U U (zq tb U (A1 Ah af U U U U U U (show 1+1≤2 by decide) rfl (dn hK5 U (sr U fun K7 hK7=>zq tb U ?_))))))))
 refine A1 Ah FV U U U U U U (show 0+2≤2 by decide) rfl (dn hK7 U ?_)
 replace h0:=Sh.AB h0
 subst r
 exact AJ (Exists.intro _ (And.intro ((A4 (L:=[(2,BK)]) (st':=(aE q4 q6)) (st1:=[(EC q4),(CA q6),⟨0,30,2,[[(ow 3 0 q4),(ow 4 0 q6)]]⟩]) [3,4,1] U .nil (by decide) rfl U (.deep (AL fun _=>U) (.deep (AL fun _=>U) (.raw U U .nil))) (.same U)).trans (AT (L:=[(2,BK)]) (.same U))) (BE (x:=.tmp 2) (off:=0) (cs:=(Th q4 q6)) (vs:=(Th q4 q6)) FV U U U (show 0+2≤2 by decide) rfl _ ⟨U,U⟩)))
theorem Co {p0:Int} {p1:Int} {p2:Int} {r:Bool} (h0:CL p0 p1 p2=some r):Ag Tryz.prog 71 [(i64 p0),(i64 p1),(i64 p2)] [] (fun v st=>v=(.bool r)∧st=[]):=by
 unfold CL at h0
 refine ai Tryz.func71 U U U U (zr tb U U (AF fun K2 hK2=>bs h0 fun o4 h1 h0=>?_))
 have M4 :∀(t3:Bool),o4=t3→∀s,Wk 0 s ⟨15,AP [(6,(.bool t3))],[]⟩→K2 s:=by
  intro t3 hq s hw
  subst o4
  try dsimp only at h0
  refine hK2 _ (AR hw ?_)
  replace h0:=Sh.AB h0
  subst r
  exact AJ (xr (AT (L:=[(6,(.bool t3))]) (.same U)))
 refine AK U (zm tb 4 U ?_)
 rcases Sh.Au h1 with ⟨b5,h1⟩ | ⟨b5,h1⟩
 ·exact zg tb b5 U (zg tb b5 U (zg tb b5 U (zt b5 U (zq tb U (AA (M4 (decide (p0≤p2)) (Sh.AB h1).symm _ (AD U)))))))
 ·exact zs b5 U (zs b5 U (zs b5 U (zf b5 U (zq tb U (AA (M4 false (Sh.AB h1).symm _ (AD U)))))))
theorem Kl {N:Nat} {p0:(List Ab)} {p1:(List Int)} {r:Bool} (h0:F9 N p0 p1=some r):Ag Tryz.prog 85 [(BT p0),(ls eI p1)] [] (fun v st=>v=(.bool r)∧st=[]):=by
 unfold F9 at h0
 refine ai Tryz.func85 U U U U (zr tb U U (AF fun K2 hK2=>zr tb U U ?_))
 obtain⟨o5,h1,h0⟩:=Sh.BF h0
 have M5 :∀(_:Unit),o5=Sum.inr ()→∀s,Wk 0 s ⟨20,AP [],[]⟩→K2 s:=by
  intro _ hq s hw
  subst o5
  try dsimp only at h0
  refine hK2 _ (AR hw (zr tb U U ?_))
  replace h0:=Sh.AB h0
  subst r
  exact AJ (xr (AT (L:=[(4,(.bool true))]) (.same U)))
 refine AU (As (σ:=Int) (fun n v=>Du p0 p1 n v=some o5) (fun i4=>⟨20,AP [(0,(BT p0)),(1,(ls eI p1)),(5,(i64 i4))],[]⟩) N 0 h1 (AD U) (fun _ hv=>by rw[Du] at hv;cases hv) ?_)
 rintro n i4 h1
 try dsimp only at h1 ⊢
 rw[Du] at h1
 refine AF fun K7 hK7=>sr U fun K8 hK8=>zm tb 2 U (zl tb U U (zq tb U (dn hK8 U ?_)))
 refine ci h1 U ?_ ?_ <;> clear h1
 ·intro b9 h1
  refine AI (hK7 _ (AF fun K10 hK10=>AU (sr U fun K11 hK11=>zm tb 2 U (bs h1 fun c12 gc12 h1=>zx Bm gc12 U U U (zm tb 2 U (zl tb U U (bs h1 fun q13 gq13 h1=>zc NU (Co gq13) rfl U U (zq tb U ?_))))))))
  refine dn hK11 U ?_
  refine ci h1 U ?_ ?_ <;> clear h1
  ·intro b14 h1
   have b15:q13=false:=by simpa using b14
   refine zr tb U U ?_
   replace h1:=Sh.AB h1
   subst o5
   try dsimp only[id] at h0
   replace h0:=Sh.AB h0
   subst r
   exact AJ (xr (AT (L:=[(4,(.bool false))]) (.same U)))
  ·intro b14 h1
   have b17:q13=true:=by simpa using b14
   exact AI (hK10 _ (AK U (zm tb 3 U (AA (xi (Sh.w (i4+1)) h1 (AD U))))))
 ·intro b9 h1
  exact Aw (M5 () (Sh.AB h1).symm _ (AD U))
theorem Ot {N:Nat} {p0:(List Ab)} {p1:Int} {r:Bool} (h0:Ge N p0 p1=some r):Ag Tryz.prog 121 [(BT p0),(i64 p1)] [] (fun v st=>v=(.bool r)∧st=[]):=by
 unfold Ge at h0
 refine ai Tryz.func121 U U U U (zr tb U U (sr U fun K2 hK2=>zm tb 2 U (bs h0 fun c3 gc3 h0=>zx DC gc3 U U U (zq tb U (A0 (m:=0) Ah GR U U (A1 Ah I4 U U U U U U (show 0+3≤3 by decide) rfl (dn hK2 U (AF fun K4 hK4=>sr U fun K5 hK5=>?_))))))))
 refine zm tb 2 U (zl tb U U (zq tb U (dn hK5 U ?_)))
 refine ci h0 U ?_ ?_ <;> clear h0
 ·intro b6 h0
  refine AF fun K7 hK7=>AF fun K8 hK8=>bs h0 fun o10 h1 h0=>?_
  have M10 :∀(t9:Bool),o10=t9→∀s,Wk 0 s ⟨100,AP [(0,(BT p0)),(5,Ar),(29,(.bool t9))],(O7 c3)⟩→K8 s:=by
   intro t9 hq s hw
   subst o10
   try dsimp only at h0
   refine hK8 _ (AR hw ?_)
   refine ci h0 U ?_ ?_ <;> clear h0
   ·intro b11 h0
    refine zr tb U U ?_
    replace h0:=Sh.AB h0
    subst r
    exact AJ (xr (An [(4,(.bool false))] U))
   ·intro b11 h0
    refine AI (hK7 _ (AF fun K13 hK13=>zr tb U U ?_))
    obtain⟨o16,h1,h0⟩:=Sh.BF h0
    have M16 :∀(_:Unit),o16=Sum.inr ()→∀s,Wk 0 s ⟨100,AP [],[]⟩→K13 s:=by
     intro _ hq s hw
     subst o16
     try dsimp only at h0
     refine hK13 _ (AR hw (zr tb U U ?_))
     replace h0:=Sh.AB h0
     subst r
     exact AJ (xr (AT (L:=[(4,(.bool true))]) (.same U)))
    refine AU (As (σ:=Int) (fun n v=>Db N c3 p0 n v=some o16) (fun i15=>⟨100,AP [(0,(BT p0)),(5,Ar),(6,(i64 i15))],(O7 c3)⟩) N 0 h1 (AD U) (fun _ hv=>by rw[Db] at hv;cases hv) ?_)
    rintro n i15 h1
    try dsimp only at h1 ⊢
    rw[Db] at h1
    refine AF fun K18 hK18=>sr U fun K19 hK19=>zm tb 3 U (zl tb U U (zq tb U (dn hK19 U ?_)))
    refine ci h1 U ?_ ?_ <;> clear h1
    ·intro b20 h1
     refine AI (hK18 _ (AF fun K21 hK21=>AU (AF fun K22 hK22=>bs h1 fun o24 h2 h1=>?_)))
     have M24 :∀(t23:Bool),o24=t23→∀s,Wk 0 s ⟨100,AP [(0,(BT p0)),(5,Ar),(6,(i64 i15)),(55,(.bool t23))],(O7 c3)⟩→K22 s:=by
      intro t23 hq s hw
      subst o24
      try dsimp only at h1
      refine hK22 _ (AR hw ?_)
      refine ci h1 U ?_ ?_ <;> clear h1
      ·intro b25 h1
       refine zr tb U U ?_
       replace h1:=Sh.AB h1
       subst o16
       try dsimp only[id] at h0
       replace h0:=Sh.AB h0
       subst r
       exact AJ (xr (An [(4,(.bool false))] U))
      ·intro b25 h1
       exact AI (hK21 _ (AK U (zm tb 3 U (AA (xi (Sh.w (i15+1)) h1 (AD U))))))
     refine AK U (zm tb 3 U (bs h2 fun c27 gc27 h2=>zx ID gc27 U U U (zm tb 2 U (zl tb U U (zm tb 2 U ?_)))))
     rcases Sh.Au h2 with ⟨b28,h2⟩ | ⟨b28,h2⟩
     ·refine zs b28 U ?_
      iterate 8 refine zs b28 rfl ?_
      exact zt b28 U (AA (M24 true (Sh.AB h2).symm _ (AD U)))
     ·refine zg tb b28 U ?_
      iterate 3 refine zg tb b28 rfl ?_
      exact BP (v:=(.Bu (BZ c27) 0)) (DF U U b28) rfl (Ex ID U U gc27 U) (zg tb b28 U (zg tb b28 U (bs h2 fun q29 gq29 h2=>zd b28 cJ (Kl gq29) rfl U U U (zg tb b28 U (zf b28 U (AA (M24 (!q29) (Sh.AB h2).symm _ (AD U))))))))
    ·intro b20 h1
     exact Aw (M16 () (Sh.AB h1).symm _ (An _ U))
  refine AK U (zm tb 2 U (zl tb U U (zm tb 2 U ?_)))
  rcases Sh.Au h1 with ⟨b30,h1⟩ | ⟨b30,h1⟩
  ·refine zs b30 U (zs b30 U (zs b30 U (zt b30 U (zq tb U ?_))))
   iterate 3 refine zs rfl rfl ?_
   exact zt U U (AA (M10 true (Sh.AB h1).symm _ (AD U)))
  ·refine zg tb b30 U (zg tb b30 U (zg tb b30 U (zf b30 U (zq tb U ?_))))
   rcases Sh.Au h1 with ⟨b31,h1⟩ | ⟨b31,h1⟩
   ·exact zs b31 U (zs b31 U (zs b31 U (zt b31 U (AA (M10 true (Sh.AB h1).symm _ (AD U))))))
   ·exact zg tb b31 U (zg tb b31 U (zg tb b31 U (zf b31 U (AA (M10 (!decide (c3.to=0)) (Sh.AB h1).symm _ (AD U))))))
 ·intro b6 h0
  refine AI (hK4 _ (AF fun K32 hK32=>zr tb U U ?_))
  obtain⟨o35,h1,h0⟩:=Sh.BF h0
  have M35 :∀(_:Unit),o35=Sum.inr ()→∀s,Wk 0 s ⟨100,AP [(0,(BT p0)),(5,Ar)],(O7 c3)⟩→K32 s:=by
   intro _ hq s hw
   subst o35
   try dsimp only at h0
   refine hK32 _ (AR hw (AF fun K36 hK36=>bs h0 fun o38 h1 h0=>?_))
   have M38 :∀(t37:Bool),o38=t37→∀s,Wk 0 s ⟨100,AP [(4,(.bool t37))],[]⟩→K36 s:=by
    intro t37 hq s hw
    subst o38
    try dsimp only at h0
    refine hK36 _ (AR hw ?_)
    replace h0:=Sh.AB h0
    subst r
    exact AJ (xr (AT (L:=[(4,(.bool t37))]) (.same U)))
   refine AK U (zm tb 3 U (zl tb U U (bs h1 fun q39 gq39 h1=>zc NU (Co gq39) rfl U U (zq tb U ?_))))
   rcases Sh.Au h1 with ⟨b40,h1⟩ | ⟨b40,h1⟩
   ·exact zg tb b40 U (zg tb b40 U (zg tb b40 U (BP (v:=(Bp p0)) (DF U U b40) rfl (Cq PV U) (bs h1 fun q41 gq41 h1=>zd b40 NU (Co gq41) rfl U U U (zt b40 U (zq tb U (AA (M38 q41 (Sh.AB h1).symm _ (An _ U)))))))))
   ·refine zs b40 U ?_
    iterate 4 refine zs b40 rfl ?_
    exact zf b40 U (zq tb U (AA (M38 false (Sh.AB h1).symm _ (An _ U))))
  refine AU (As (σ:=Int) (fun n v=>DR c3 p0 p1 n v=some o35) (fun i34=>⟨100,AP [(0,(BT p0)),(1,(i64 p1)),(5,Ar),(7,(i64 i34))],(O7 c3)⟩) N 0 h1 (AD U) (fun _ hv=>by rw[DR] at hv;cases hv) ?_)
  rintro n i34 h1
  try dsimp only at h1 ⊢
  rw[DR] at h1
  refine AF fun K42 hK42=>zr tb U U ?_
  refine ci h1 U ?_ ?_ <;> clear h1
  ·intro b44 h1
   refine AI (hK42 _ (AF fun K45 hK45=>AU (AF fun K46 hK46=>bs h1 fun o48 h2 h1=>?_)))
   have M48 :∀(t47:Bool),o48=t47→∀s,Wk 0 s ⟨100,AP [(0,(BT p0)),(1,(i64 p1)),(5,Ar),(7,(i64 i34)),(87,(.bool t47))],(O7 c3)⟩→K46 s:=by
    intro t47 hq s hw
    subst o48
    try dsimp only at h1
    refine hK46 _ (AR hw ?_)
    refine ci h1 U ?_ ?_ <;> clear h1
    ·intro b49 h1
     refine zr tb U U ?_
     replace h1:=Sh.AB h1
     subst o35
     try dsimp only[id] at h0
     replace h0:=Sh.AB h0
     subst r
     exact AJ (xr (An [(4,(.bool false))] U))
    ·intro b49 h1
     exact AI (hK45 _ (AK U (zm tb 3 U (AA (xi (Sh.w (i34+1)) h1 (AD U))))))
   refine By (by kernel_rfl) (by kernel_rfl) (by rfl) ?_
   iterate 2 refine yq tb rfl ?_
   refine bs h2 fun c51 gc51 h2=>yx DC gc51 U U U ?_
   iterate 2 refine yq tb rfl ?_
   refine yl tb U U ?_
   iterate 2 refine yq tb rfl ?_
   rcases Sh.Au h2 with ⟨b52,h2⟩ | ⟨b52,h2⟩
   ·refine yg tb b52 U (yg tb b52 U (Jz (v:=(.Bu (Ai c51) 0)) (DF U U b52) rfl (Ex DC U U gc51 U) ?_))
    iterate 5 refine yg tb b52 rfl ?_
    refine yt b52 U (yq tb U ?_)
    rcases Sh.Au h2 with ⟨b53,h2⟩ | ⟨b53,h2⟩
    ·refine yg tb b53 U (yg tb b53 U (Jz (v:=(.Bu (Ai c51) 0)) (DF U U b53) rfl (Ex DC U U gc51 U) ?_))
     iterate 5 refine yg tb b53 rfl ?_
     exact yt b53 U (BR (M48 (decide (c51.to=c3.to)) (Sh.AB h2).symm _ (AD U)))
    ·refine ys b53 U ?_
     iterate 7 refine ys b53 rfl ?_
     exact yf b53 U (BR (M48 false (Sh.AB h2).symm _ (AD U)))
   ·refine ys b52 U ?_
    iterate 7 refine ys b52 rfl ?_
    refine yf b52 U (yq tb U ?_)
    iterate 8 refine ys rfl rfl ?_
    exact yf U U (BR (M48 false (Sh.AB h2).symm _ (AD U)))
  ·intro b44 h1
   exact Aw (M35 () (Sh.AB h1).symm _ (AD U))
theorem N6 {N:Nat} {p0:(List Ab)} {r:Bool} (h0:GI N p0=some r):Ag Tryz.prog 84 [(BT p0)] [] (fun v st=>v=(.bool r)∧st=[]):=by
 unfold GI at h0
 refine ai Tryz.func84 U U U U (zr tb U U (AF fun K2 hK2=>sr U fun K3 hK3=>zq tb U (zl tb U U (zq tb U (dn hK3 U ?_)))))
 refine ci h0 U ?_ ?_ <;> clear h0
 ·intro b4 h0
  refine zr tb U U ?_
  replace h0:=Sh.AB h0
  subst r
  exact AJ (xr (AT (L:=[(2,(.bool false))]) (.same U)))
 ·intro b4 h0
  refine AI (hK2 _ (AF fun K6 hK6=>zr tb U U ?_))
  obtain⟨o9,h1,h0⟩:=Sh.BF h0
  have M9 :∀(_:Unit),o9=Sum.inr ()→∀s,Wk 0 s ⟨17,AP [],[]⟩→K6 s:=by
   intro _ hq s hw
   subst o9
   try dsimp only at h0
   refine hK6 _ (AR hw (zr tb U U ?_))
   replace h0:=Sh.AB h0
   subst r
   exact AJ (xr (AT (L:=[(2,(.bool true))]) (.same U)))
  refine AU (As (σ:=Int) (fun n v=>DE N p0 n v=some o9) (fun i8=>⟨17,AP [(0,(BT p0)),(3,(i64 i8))],[]⟩) N 0 h1 (AD U) (fun _ hv=>by rw[DE] at hv;cases hv) ?_)
  rintro n i8 h1
  try dsimp only at h1 ⊢
  rw[DE] at h1
  refine AF fun K11 hK11=>sr U fun K12 hK12=>zm tb 2 U (zl tb U U (zq tb U (dn hK12 U ?_)))
  refine ci h1 U ?_ ?_ <;> clear h1
  ·intro b13 h1
   refine AI (hK11 _ (AF fun K14 hK14=>AU (sr U fun K15 hK15=>zm tb 2 U (bs h1 fun q16 gq16 h1=>zc dt (Ot gq16) rfl U U (zq tb U (dn hK15 U ?_))))))
   refine ci h1 U ?_ ?_ <;> clear h1
   ·intro b17 h1
    have b18:q16=false:=by simpa using b17
    refine zr tb U U ?_
    replace h1:=Sh.AB h1
    subst o9
    try dsimp only[id] at h0
    replace h0:=Sh.AB h0
    subst r
    exact AJ (xr (AT (L:=[(2,(.bool false))]) (.same U)))
   ·intro b17 h1
    have b20:q16=true:=by simpa using b17
    exact AI (hK14 _ (AK U (zm tb 3 U (AA (xi (Sh.w (i8+1)) h1 (AD U))))))
  ·intro b13 h1
   exact Aw (M9 () (Sh.AB h1).symm _ (AD U))
theorem Oa {N:Nat} {p0:Aa} {r:Bool} (h0:Fk N p0=some r):Ag Tryz.prog 44 [(HM p0)] [] (fun v st=>v=(.bool r)∧st=[]):=by
 unfold Fk at h0
 refine ai Tryz.func44 U U U U (sr U fun K1 hK1=>BH (m:=0) Ah U U U U U (zq tb U (dn hK1 U (AF fun K2 hK2=>AF fun K3 hK3=>bs h0 fun o5 h1 h0=>?_))))
 have M5 :∀(t4:Bool),o5=t4→∀s,Wk 0 s ⟨64,AP [(1,Ar),(15,(.bool t4))],[(KZ p0.decls p0.funcs)]⟩→K3 s:=by
  intro t4 hq s hw
  subst o5
  try dsimp only at h0
  refine hK3 _ (AR hw ?_)
  refine ci h0 U ?_ ?_ <;> clear h0
  ·intro b6 h0
   refine zr tb U U ?_
   replace h0:=Sh.AB h0
   subst r
   exact AJ (xr (An [(2,(.bool false))] U))
  ·intro b6 h0
   refine AI (hK2 _ (AF fun K8 hK8=>zr tb U U ?_))
   obtain⟨o11,h1,h0⟩:=Sh.BF h0
   have M11 :∀(_:Unit),o11=Sum.inr ()→∀s,Wk 0 s ⟨64,AP [(1,Ar)],[(KZ p0.decls p0.funcs)]⟩→K8 s:=by
    intro _ hq s hw
    subst o11
    try dsimp only at h0
    refine hK8 _ (AR hw (AF fun K12 hK12=>bs h0 fun o14 h1 h0=>?_))
    have M14 :∀(t13:Bool),o14=t13→∀s,Wk 0 s ⟨64,AP [(2,(.bool t13))],[]⟩→K12 s:=by
     intro t13 hq s hw
     subst o14
     try dsimp only at h0
     refine hK12 _ (AR hw ?_)
     replace h0:=Sh.AB h0
     subst r
     exact AJ (xr (AT (L:=[(2,(.bool t13))]) (.same U)))
    refine AK U (zm tb 2 U (bs h1 fun c15 gc15 h1=>zx CR gc15 U U U (zm tb 2 U (zl tb U U (zm tb 2 U ?_)))))
    rcases Sh.Au h1 with ⟨b16,h1⟩ | ⟨b16,h1⟩
    ·refine zg tb b16 U (zg tb b16 U (BP (v:=(.Bu (A3 c15) 0)) (DF U U b16) rfl (Ex CR U U gc15 U) ?_))
     iterate 3 refine zg tb b16 rfl ?_
     exact zt b16 U (zq tb U (AA (M14 (decide (c15.result=0)) (Sh.AB h1).symm _ (An _ U))))
    ·refine zs b16 U ?_
     iterate 5 refine zs b16 rfl ?_
     exact zf b16 U (zq tb U (AA (M14 false (Sh.AB h1).symm _ (An _ U))))
   refine AU (As (σ:=Int) (fun n v=>Cw N p0 n v=some o11) (fun i10=>⟨64,AP [(1,Ar),(3,(i64 i10))],[(KZ p0.decls p0.funcs)]⟩) N 0 h1 (AD U) (fun _ hv=>by rw[Cw] at hv;cases hv) ?_)
   rintro n i10 h1
   try dsimp only at h1 ⊢
   rw[Cw] at h1
   refine AF fun K17 hK17=>sr U fun K18 hK18=>zm tb 3 U (zl tb U U (zq tb U (dn hK18 U ?_)))
   refine ci h1 U ?_ ?_ <;> clear h1
   ·intro b19 h1
    refine AI (hK17 _ (AF fun K20 hK20=>AU (sr U fun K21 hK21=>zm tb 3 U (bs h1 fun c22 gc22 h1=>zx CR gc22 U U U (zq tb U (A0 (m:=1) Ah Mx U U (A1 Ah Pt U U U U U U (show 0+5≤5 by decide) rfl (dn hK21 U (AF fun K23 hK23=>?_)))))))))
    refine bs h1 fun o25 h2 h1=>?_
    have M25 :∀(t24:Bool),o25=t24→∀s,Wk 0 s ⟨64,AP [(1,Ar),(3,(i64 i10)),(48,(.bool t24))],[(KZ p0.decls p0.funcs)]⟩→K23 s:=by
     intro t24 hq s hw
     subst o25
     try dsimp only at h1
     refine hK23 _ (AR hw ?_)
     refine ci h1 U ?_ ?_ <;> clear h1
     ·intro b26 h1
      refine zr tb U U ?_
      replace h1:=Sh.AB h1
      subst o11
      try dsimp only[id] at h0
      replace h0:=Sh.AB h0
      subst r
      exact AJ (xr (An [(2,(.bool false))] U))
     ·intro b26 h1
      exact AI (hK20 _ (AK U (zm tb 3 U (AA (xi (Sh.w (i10+1)) h1 (AD U))))))
    refine AK U (zm tb 2 U (zl tb U U (zm tb 2 U ?_)))
    rcases Sh.Au h2 with ⟨b28,h2⟩ | ⟨b28,h2⟩
    ·refine zs b28 U ?_
     iterate 5 refine zs b28 rfl ?_
     refine zt b28 U (zq tb U ?_)
     iterate 7 refine zs rfl rfl ?_
     refine zt U U ?_
     exact AA (M25 true (Sh.AB h2).symm _ (Af [0] U (by decide) rfl U (.raw U U .nil) (.same U)))
    ·refine zg tb b28 U ?_
     iterate 3 refine zg tb b28 rfl ?_
     refine bs h2 fun q29 gq29 h2=>zd b28 cJ (Kl gq29) rfl U U U (zg tb b28 U (zf b28 U (zq tb U ?_)))
     rcases Sh.Au h2 with ⟨b30,h2⟩ | ⟨b30,h2⟩
     ·refine zs b30 U ?_
      iterate 6 refine zs b30 rfl ?_
      refine zt b30 U ?_
      exact AA (M25 true (Sh.AB h2).symm _ (Af [0] U (by decide) rfl U (.raw U U .nil) (.same U)))
     ·refine zg tb b30 U ?_
      iterate 3 refine zg tb b30 rfl ?_
      refine BP (v:=(i64 (Sh.len p0.decls))) (DF U U b30) rfl (Cq PV U) (bs h2 fun q31 gq31 h2=>zd b30 NU (Co gq31) rfl U U U (zg tb b30 U (zf b30 U ?_)))
      exact AA (M25 (!q31) (Sh.AB h2).symm _ (Af [0] U (by decide) rfl U (.raw U U .nil) (.same U)))
   ·intro b19 h1
    exact Aw (M11 () (Sh.AB h1).symm _ (AD U))
 refine AK U (zm tb 2 U (bs h1 fun q32 gq32 h1=>zc eQ (N6 gq32) rfl U U (zm tb 2 U ?_)))
 rcases Sh.Au h1 with ⟨b33,h1⟩ | ⟨b33,h1⟩
 ·refine zs b33 U ?_
  iterate 4 refine zs b33 rfl ?_
  exact zt b33 U (AA (M5 true (Sh.AB h1).symm _ (AD U)))
 ·exact zg tb b33 U (zg tb b33 U (BP (v:=(i64 (Sh.len p0.funcs))) (DF U U b33) rfl (Cq ZM U) (bs h1 fun q34 gq34 h1=>zd b33 NU (Co gq34) rfl U U U (zg tb b33 U (zf b33 U (AA (M5 (!q34) (Sh.AB h1).symm _ (AD U))))))))
theorem NZ {N:Nat} {rec_spec_nodesLeft:AG→Int→Option (Int)} (hrec_spec_nodesLeft :∀{p0:AG} {p1:Int} {r:Int},rec_spec_nodesLeft p0 p1=some r→Ag Tryz.prog 86 [(B5 p0),(i64 p1)] [] (fun v st=>v=(i64 r)∧st=[])) {p0:AG} {p1:Int} {r:Int} (h0:G2 N rec_spec_nodesLeft p0 p1=some r):Ag Tryz.prog 86 [(B5 p0),(i64 p1)] [] (fun v st=>v=(i64 r)∧st=[]):=by
 unfold G2 at h0
 refine ai Tryz.func86 U U U U (sr U fun K1 hK1=>BH (m:=0) Ah U U U U U (zq tb U (dn hK1 U (AF fun K2 hK2=>zr tb U U ?_))))
 refine ci h0 U ?_ ?_ <;> clear h0
 ·intro b4 h0
  refine zr tb U U ?_
  replace h0:=Sh.AB h0
  subst r
  exact AJ (xr (An [(4,(i64 (-1)))] U))
 ·intro b4 h0
  refine AI (hK2 _ (zr tb U U (AF fun K7 hK7=>zr tb U U ?_)))
  obtain⟨o12,h1,h0⟩:=Sh.BF h0
  have M12 :∀(left11:Int),o12=Sum.inr left11→∀s,Wk 0 s ⟨27,AP [(1,(i64 left11))],[]⟩→K7 s:=by
   intro left11 hq s hw
   subst o12
   try dsimp only at h0
   refine hK7 _ (AR hw (zr tb U U ?_))
   replace h0:=Sh.AB h0
   subst r
   exact AJ (xr (AT (L:=[(4,(i64 left11))]) (.same U)))
  refine AU (As (σ:=Int×Int) (fun n v=>CV p0 rec_spec_nodesLeft n v.1 v.2=some o12) (fun (left9,i10)=>⟨27,AP [(1,(i64 left9)),(2,Ar),(5,(i64 i10))],[(KV p0.op p0.num p0.kids)]⟩) N (Sh.w (p1 - 1),0) h1 (AD U) (fun _ hv=>by rw[CV] at hv;cases hv) ?_)
  rintro n ⟨left9,i10⟩ h1
  try dsimp only at h1 ⊢
  rw[CV] at h1
  refine AF fun K14 hK14=>sr U fun K15 hK15=>zm tb 3 U (zl tb U U (zq tb U (dn hK15 U ?_)))
  refine ci h1 U ?_ ?_ <;> clear h1
  ·intro b16 h1
   refine AI (hK14 _ (AF fun K17 hK17=>AU (sr U fun K18 hK18=>zm tb 3 U (bs h1 fun c19 gc19 h1=>zz (EI c19) (BM Bc U U gc19 (Ax _) rfl) rfl (zm tb 2 U (bs h1 fun q20 gq20 h1=>zc cT (hrec_spec_nodesLeft gq20) rfl U U (zq tb U (dn hK18 U ?_))))))))
   refine zr tb U U ?_
   refine ci h1 U ?_ ?_ <;> clear h1
   ·intro b22 h1
    refine zr tb U U ?_
    replace h1:=Sh.AB h1
    subst o12
    try dsimp only[id] at h0
    replace h0:=Sh.AB h0
    subst r
    exact AJ (xr (An [(4,(i64 (-1)))] U))
   ·intro b22 h1
    exact AI (hK17 _ (AK U (zm tb 3 U (AA (xi (q20,Sh.w (i10+1)) h1 (AD U))))))
  ·intro b16 h1
   exact Aw (M12 left9 (Sh.AB h1).symm _ (An _ U))

theorem NY {N:Nat} :∀(n:Nat),∀{p0:AG} {p1:Int} {r:Int},Dn N n p0 p1=some r→Ag Tryz.prog 86 [(B5 p0),(i64 p1)] [] (fun v st=>v=(i64 r)∧st=[]):=by
 intro n
 induction n with
 | zero=>intro p0 p1 r h0;cases h0
 | succ n ih=>
  intro p0 p1 r h0
  rw[Dn] at h0
  exact NZ (fun h=>ih h) h0
theorem Om {N:Nat} :∀{p0:AG} {p1:Int} {r:Int},Jt N p0 p1=some r→Ag Tryz.prog 86 [(B5 p0),(i64 p1)] [] (fun v st=>v=(i64 r)∧st=[]):=by
 intro p0 p1 r h0
 exact NY N h0
theorem Ll {N:Nat} {p0:AG} {r:Int} (h0:F7 N p0=some r):Ag Tryz.prog 45 [(B5 p0)] [] (fun v st=>v=(i64 r)∧st=[]):=by
 unfold F7 at h0
 refine ai Tryz.func45 U U U U (sr U fun K1 hK1=>BH (m:=0) Ah U U U U U (zq tb U (dn hK1 U (sr U fun K2 hK2=>zq tb U (bs h0 fun q3 gq3 h0=>zc cT (Om gq3) rfl U U (zq tb U (dn hK2 U (AF fun K4 hK4=>?_))))))))
 refine zr tb U U ?_
 refine ci h0 U ?_ ?_ <;> clear h0
 ·intro b6 h0
  refine zr tb U U ?_
  replace h0:=Sh.AB h0
  subst r
  exact AJ (xr (An [(2,(i64 (-1)))] U))
 ·intro b6 h0
  refine AI (hK4 _ (zr tb U U ?_))
  replace h0:=Sh.AB h0
  subst r
  exact AJ (xr (An [(2,(i64 (Sh.w (30 - q3))))] U))
theorem Lc {N:Nat} {rec_spec_typeOf:Aa→(List Int)→AG→Option (Int)} (hrec_spec_typeOf :∀{p0:Aa} {p1:(List Int)} {p2:AG} {r:Int},rec_spec_typeOf p0 p1 p2=some r→Ag Tryz.prog 46 (SQ p0 p1 p2) [] (fun v st=>v=(i64 r)∧st=[])) {p0:Aa} {p1:(List Int)} {p2:(List AG)} {p3:Int} {r:Bool} (h0:Gs N rec_spec_typeOf p0 p1 p2 p3=some r):Ag Tryz.prog 87 [(HM p0),(ls eI p1),(C4 p2),(i64 p3)] [] (fun v st=>v=(.bool r)∧st=[]):=by
 unfold Gs at h0
 refine ai Tryz.func87 U U U U (sr U fun K1 hK1=>BH (m:=0) Ah U U U U U (zq tb U (dn hK1 U (AF fun K2 hK2=>sr U fun K3 hK3=>zq tb U (zl tb U U (zm tb 2 U (dn hK3 U ?_)))))))
 refine ci h0 U ?_ ?_ <;> clear h0
 ·intro b4 h0
  have b5:decide ((Sh.len p2)=p3)=false:=by simpa using b4
  refine zr tb U U ?_
  replace h0:=Sh.AB h0
  subst r
  exact AJ (xr (An [(8,(.bool false))] U))
 ·intro b4 h0
  have b7:decide ((Sh.len p2)=p3)=true:=by simpa using b4
  refine AI (hK2 _ (AF fun K8 hK8=>zr tb U U ?_))
  obtain⟨o11,h1,h0⟩:=Sh.BF h0
  have M11 :∀(_:Unit),o11=Sum.inr ()→∀s,Wk 0 s ⟨27,AP [],[]⟩→K8 s:=by
   intro _ hq s hw
   subst o11
   try dsimp only at h0
   refine hK8 _ (AR hw (zr tb U U ?_))
   replace h0:=Sh.AB h0
   subst r
   exact AJ (xr (AT (L:=[(8,(.bool true))]) (.same U)))
  refine AU (As (σ:=Int) (fun n v=>EG p0 p1 p2 p3 rec_spec_typeOf n v=some o11) (fun i10=>⟨27,AP [(1,(ls eI p1)),(2,(C4 p2)),(3,(i64 p3)),(4,Ar),(9,(i64 i10))],[(KZ p0.decls p0.funcs)]⟩) N 0 h1 (AD U) (fun _ hv=>by rw[EG] at hv;cases hv) ?_)
  rintro n i10 h1
  try dsimp only at h1 ⊢
  rw[EG] at h1
  refine AF fun K13 hK13=>zr tb U U ?_
  refine ci h1 U ?_ ?_ <;> clear h1
  ·intro b15 h1
   refine AI (hK13 _ (AF fun K16 hK16=>AU (AF fun K17 hK17=>?_)))
   refine By (by kernel_rfl) (by kernel_rfl) (by rfl) ?_
   iterate 4 refine yq tb rfl ?_
   refine bs h1 fun c18 gc18 h1=>yz (EI c18) (BM Bc U U gc18 (Ax _) rfl) rfl (yq tb U (bs h1 fun q19 gq19 h1=>Bk (v:=(i64 q19)) Ah Li (hrec_spec_typeOf gq19) rfl U U (yq tb U (BR (hK17 _ ?_)))))
   refine ci h1 U ?_ ?_ <;> clear h1
   ·intro b20 h1
    have b21:decide (q19=0)=false:=by simpa using b20
    refine zr tb U U ?_
    replace h1:=Sh.AB h1
    subst o11
    try dsimp only[id] at h0
    replace h0:=Sh.AB h0
    subst r
    exact AJ (xr (An [(8,(.bool false))] U))
   ·intro b20 h1
    have b23:decide (q19=0)=true:=by simpa using b20
    exact AI (hK16 _ (AK U (zm tb 3 U (AA (xi (Sh.w (i10+1)) h1 (AD U))))))
  ·intro b15 h1
   exact Aw (M11 () (Sh.AB h1).symm _ (An _ U))
theorem G5 {N:Nat} {p0:(List Ab)} {p1:Int} {r:Int} (h0:E7 N p0 p1=some r):Ag Tryz.prog 112 [(BT p0),(i64 p1)] [] (fun v st=>v=(i64 r)∧st=[]):=by
 unfold E7 at h0
 refine ai Tryz.func112 U U U U ?_
 iterate 2 refine zr tb rfl rfl ?_
 refine AF fun K3 hK3=>zr tb U U (bs h0 fun o8 h1 h0=>?_)
 have M8 :∀(n7:Int),o8=n7→∀s,Wk 0 s ⟨21,AP [(5,(i64 n7))],[]⟩→K3 s:=by
  intro n7 hq s hw
  subst o8
  try dsimp only at h0
  refine hK3 _ (AR hw (zr tb U U ?_))
  replace h0:=Sh.AB h0
  subst r
  exact AJ (xr (AT (L:=[(4,(i64 n7))]) (.same U)))
 refine AU (As (σ:=Int×Int) (fun n v=>DJ p0 p1 n v.1 v.2=some o8) (fun (n5,i6)=>⟨21,AP [(0,(BT p0)),(1,(i64 p1)),(5,(i64 n5)),(6,(i64 i6))],[]⟩) N (0,0) h1 (AD U) (fun _ hv=>by rw[DJ] at hv;cases hv) ?_)
 rintro n ⟨n5,i6⟩ h1
 try dsimp only at h1 ⊢
 rw[DJ] at h1
 refine AF fun K10 hK10=>zr tb U U ?_
 refine ci h1 U ?_ ?_ <;> clear h1
 ·intro b12 h1
  refine AI (hK10 _ (AF fun K13 hK13=>AU (AK U (zm tb 3 U (bs h1 fun c14 gc14 h1=>zx DC gc14 U U U (zm tb 2 U (zl tb U U (zm tb 2 U (dn hK13 U (AK U ?_))))))))))
  exact zm tb 3 U (AA (xi (Sh.w (n5+(Sh.len c14.cons)),Sh.w (i6+1)) h1 (AD U)))
 ·intro b12 h1
  exact Aw (M8 n5 (Sh.AB h1).symm _ (AD U))
theorem JM {N:Nat} {p0:(List Ab)} {p1:Int} {r:Int} (h0:Ey N p0 p1=some r):Ag Tryz.prog 88 [(BT p0),(i64 p1)] [] (fun v st=>v=(i64 r)∧st=[]):=by
 unfold Ey at h0
 refine ai Tryz.func88 U U U U (zr tb U U (AF fun K2 hK2=>zr tb U U ?_))
 obtain⟨o5,h1,h0⟩:=Sh.BF h0
 have M5 :∀(_:Unit),o5=Sum.inr ()→∀s,Wk 0 s ⟨30,AP [],[]⟩→K2 s:=by
  intro _ hq s hw
  subst o5
  try dsimp only at h0
  refine hK2 _ (AR hw (zr tb U U ?_))
  replace h0:=Sh.AB h0
  subst r
  exact AJ (xr (AT (L:=[(4,(i64 (-1)))]) (.same U)))
 refine AU (As (σ:=Int) (fun n v=>Cn N p0 p1 n v=some o5) (fun i4=>⟨30,AP [(0,(BT p0)),(1,(i64 p1)),(5,(i64 i4))],[]⟩) N 0 h1 (AD U) (fun _ hv=>by rw[Cn] at hv;cases hv) ?_)
 rintro n i4 h1
 try dsimp only at h1 ⊢
 rw[Cn] at h1
 refine AF fun K7 hK7=>sr U fun K8 hK8=>zm tb 2 U (zl tb U U (zq tb U (dn hK8 U ?_)))
 refine ci h1 U ?_ ?_ <;> clear h1
 ·intro b9 h1
  refine AI (hK7 _ (AF fun K10 hK10=>AU (sr U fun K11 hK11=>zm tb 2 U (bs h1 fun q12 gq12 h1=>zc VC (G5 gq12) rfl U U (zq tb U (dn hK11 U (sr U fun K13 hK13=>zm tb 5 U (bs h1 fun c14 gc14 h1=>?_))))))))
  refine zx DC gc14 U U U (zm tb 2 U (zl tb U U (zm tb 2 U (bs h1 fun q15 gq15 h1=>zc NU (Co gq15) rfl U U (dn hK13 U ?_)))))
  refine ci h1 U ?_ ?_ <;> clear h1
  ·intro b16 h1
   refine zr tb U U ?_
   replace h1:=Sh.AB h1
   subst o5
   try dsimp only[id] at h0
   replace h0:=Sh.AB h0
   subst r
   exact AJ (xr (AT (L:=[(4,(KL i4))]) (.same U)))
  ·intro b16 h1
   exact AI (hK10 _ (AK U (zm tb 3 U (AA (xi (Sh.w (i4+1)) h1 (AD U))))))
 ·intro b9 h1
  exact Aw (M5 () (Sh.AB h1).symm _ (AD U))
theorem Gd {N:Nat} {p0:(List Ab)} {p1:Int} {r:(List Int)} (h0:CU N p0 p1=some r):Ag Tryz.prog 90 [(BT p0),(i64 p1)] [] (fun v st=>v=(ls eI r)∧st=[]):=by
 unfold CU at h0
 refine ai Tryz.func90 U U U U (zr tb U U (sr U fun K2 hK2=>zm tb 2 U (bs h0 fun q3 gq3 h0=>zc ab (JM gq3) rfl U U (zq tb U (dn hK2 U (AF fun K4 hK4=>zr tb U U ?_))))))
 refine ci h0 U ?_ ?_ <;> clear h0
 ·intro b6 h0
  refine sr U fun K7 hK7=>?_
  refine Cb (m:=0) (l:=([]:List Int)) (enc:=eI) Ah Bm (by decide) rfl U U U U U ?_
  refine zq tb U (dn hK7 U ?_)
  replace h0:=Sh.AB h0
  subst r
  exact AJ (Exists.intro ⟨27,AP [(4,Wd)],[]⟩ (And.intro (by refine Wk.trans (Wk.Er (L:=[(4,Wd)]) (st':=Vs) (id:=0) rfl (show 0≤0 by decide) (AN fun _=>U) ⟨(.Er U),trivial⟩ U) ?_;exact Af [] U (by decide) rfl U .nil (.same U)) (And.intro U U)))
 ·intro b6 h0
  refine AI (hK4 _ (AF fun K8 hK8=>?_))
  refine By (by kernel_rfl) (by kernel_rfl) (by rfl) ?_
  iterate 3 refine yq tb rfl ?_
  refine bs h0 fun c9 gc9 h0=>yx DC gc9 U U U ?_
  iterate 6 refine yq tb rfl ?_
  refine bs h0 fun q10 gq10 h0=>Bk (v:=(i64 q10)) Ah VC (G5 gq10) rfl U U (yq tb U (bs h0 fun c11 gc11 h0=>yx ID gc11 U U U ?_))
  iterate 3 refine yq tb rfl ?_
  refine BR (hK8 _ ?_)
  replace h0:=Sh.AB h0
  subst r
  exact AJ (xr (AT (L:=[(4,(ls eI c11.fields))]) (.same U)))
theorem Kb {N:Nat} {rec_spec_typeOf:Aa→(List Int)→AG→Option (Int)} (hrec_spec_typeOf :∀{p0:Aa} {p1:(List Int)} {p2:AG} {r:Int},rec_spec_typeOf p0 p1 p2=some r→Ag Tryz.prog 46 (SQ p0 p1 p2) [] (fun v st=>v=(i64 r)∧st=[])) {p0:Aa} {p1:(List Int)} {p2:(List AG)} {p3:(List Int)} {r:Bool} (h0:HL N rec_spec_typeOf p0 p1 p2 p3=some r):Ag Tryz.prog 89 [(HM p0),(ls eI p1),(C4 p2),(ls eI p3)] [] (fun v st=>v=(.bool r)∧st=[]):=by
 unfold HL at h0
 refine ai Tryz.func89 U U U U (sr U fun K1 hK1=>BH (m:=0) Ah U U U U U (zq tb U (dn hK1 U (AF fun K2 hK2=>sr U fun K3 hK3=>zq tb U (zl tb U U (zq tb U (zl tb U U (zq tb U ?_))))))))
 refine dn hK3 U ?_
 refine ci h0 U ?_ ?_ <;> clear h0
 ·intro b4 h0
  have b5:decide ((Sh.len p2)=(Sh.len p3))=false:=by simpa using b4
  refine zr tb U U ?_
  replace h0:=Sh.AB h0
  subst r
  exact AJ (xr (An [(8,(.bool false))] U))
 ·intro b4 h0
  have b7:decide ((Sh.len p2)=(Sh.len p3))=true:=by simpa using b4
  refine AI (hK2 _ (AF fun K8 hK8=>zr tb U U ?_))
  obtain⟨o11,h1,h0⟩:=Sh.BF h0
  have M11 :∀(_:Unit),o11=Sum.inr ()→∀s,Wk 0 s ⟨33,AP [],[]⟩→K8 s:=by
   intro _ hq s hw
   subst o11
   try dsimp only at h0
   refine hK8 _ (AR hw (zr tb U U ?_))
   replace h0:=Sh.AB h0
   subst r
   exact AJ (xr (AT (L:=[(8,(.bool true))]) (.same U)))
  refine AU (As (σ:=Int) (fun n v=>E3 p0 p1 p2 p3 rec_spec_typeOf n v=some o11) (fun i10=>⟨33,AP [(1,(ls eI p1)),(2,(C4 p2)),(3,(ls eI p3)),(4,Ar),(9,(i64 i10))],[(KZ p0.decls p0.funcs)]⟩) N 0 h1 (AD U) (fun _ hv=>by rw[E3] at hv;cases hv) ?_)
  rintro n i10 h1
  try dsimp only at h1 ⊢
  rw[E3] at h1
  refine AF fun K13 hK13=>sr U fun K14 hK14=>zm tb 2 U (zl tb U U (zq tb U (dn hK14 U ?_)))
  refine ci h1 U ?_ ?_ <;> clear h1
  ·intro b15 h1
   refine AI (hK13 _ (AF fun K16 hK16=>AU (AF fun K17 hK17=>?_)))
   refine By (by kernel_rfl) (by kernel_rfl) (by rfl) ?_
   iterate 4 refine yq tb rfl ?_
   refine bs h1 fun c18 gc18 h1=>yz (EI c18) (BM Bc U U gc18 (Ax _) rfl) rfl (yq tb U (bs h1 fun q19 gq19 h1=>Bk (v:=(i64 q19)) Ah Li (hrec_spec_typeOf gq19) rfl U U ?_))
   iterate 2 refine yq tb rfl ?_
   refine bs h1 fun c20 gc20 h1=>yx Bm gc20 U U U ?_
   iterate 2 refine yq tb rfl ?_
   refine BR (hK17 _ ?_)
   refine ci h1 U ?_ ?_ <;> clear h1
   ·intro b21 h1
    have b22:decide (q19=c20)=false:=by simpa using b21
    refine zr tb U U ?_
    replace h1:=Sh.AB h1
    subst o11
    try dsimp only[id] at h0
    replace h0:=Sh.AB h0
    subst r
    exact AJ (xr (An [(8,(.bool false))] U))
   ·intro b21 h1
    have b24:decide (q19=c20)=true:=by simpa using b21
    exact AI (hK16 _ (AK U (zm tb 3 U (AA (xi (Sh.w (i10+1)) h1 (AD U))))))
  ·intro b15 h1
   exact Aw (M11 () (Sh.AB h1).symm _ (An _ U))
theorem IN {p0:(List Int)} {r:(List Int)} (h0:DQ p0=some r):Ag Tryz.prog 49 [(ls eI p0)] [] (fun v st=>v=(ow 0 0 r)∧st=[(BL r)]):=by
 unfold DQ at h0
 refine ai Tryz.func49 U U U U (zr tb U U (sr U fun K2 hK2=>?_))
 refine Cb (m:=0) (l:=([]:List Int)) (enc:=eI) Ah Bm (by decide) rfl U U U U U ?_
 refine zq tb U (bs h0 fun l3 gl3 h0=>Fb (l2:=p0) Ah Bm U U U U NN (fun _=>U) gl3 U (zq tb U (dn hK2 U ?_)))
 replace h0:=Sh.AB h0
 subst r
 exact AJ (xr (Dx (L:=[(2,(ow 0 0 l3))]) (st':=[(BL l3)]) (.pure (AN fun _=>U) .nil) (.same U)))
theorem Jj {p0:(List Int)} {p1:(List Int)} {r:(List Int)} (h0:F3 p0 p1=some r):Ag Tryz.prog 91 [(ls eI p0),(ls eI p1)] [] (fun v st=>v=(ow 0 0 r)∧st=[(BL r)]):=by
 unfold F3 at h0
 refine ai Tryz.func91 U U U U (zr tb U U (sr U fun K2 hK2=>zq tb U (bs h0 fun q3 gq3 h0=>BY (v':=(ow 0 0 q3)) Ah aJ (IN gq3) rfl U ⟨(B2 fun _=>U),trivial⟩ U U (zq tb U (bs h0 fun l4 gl4 h0=>Fb (l2:=p1) Ah Bm U U U U NN (fun _=>U) gl4 U (zq tb U (dn hK2 U ?_)))))))
 replace h0:=Sh.AB h0
 subst r
 exact AJ (xr (Dx (L:=[(4,(ow 0 0 l4))]) (st':=[(BL l4)]) (.pure (AN fun _=>U) .nil) (.same U)))
theorem MQ {N:Nat} {p0:(List Ab)} {p1:Int} {r:(List Int)} (h0:HT N p0 p1=some r):Ag Tryz.prog 110 [(BT p0),(i64 p1)] [] (fun v st=>v=(ow 0 0 r)∧st=[(BL r)]):=by
 unfold HT at h0
 refine ai Tryz.func110 U U U U (zr tb U U (sr U fun K2 hK2=>?_))
 refine Cb (m:=0) (l:=([]:List Int)) (enc:=eI) Ah Bm (by decide) rfl U U U U U ?_
 refine zq tb U (dn hK2 U (AF fun K3 hK3=>sr U fun K4 hK4=>zm tb 2 U (zl tb U U (bs h0 fun q5 gq5 h0=>zc NU (Co gq5) rfl U U (zq tb U (dn hK4 U ?_))))))
 refine ci h0 U ?_ ?_ <;> clear h0
 ·intro b6 h0
  have b7:q5=false:=by simpa using b6
  refine zr tb U U ?_
  replace h0:=Sh.AB h0
  subst r
  exact AJ (xr (AT (L:=[(4,XV)]) (.same U)))
 ·intro b6 h0
  have b9:q5=true:=by simpa using b6
  refine AI (hK3 _ (AF fun K10 hK10=>zr tb U U (bs h0 fun o15 h1 h0=>?_)))
  have M15 :∀(l14:(List Int)),o15=l14→∀s,Wk 0 s ⟨35,AP [(5,(ow 0 0 l14))],[(BL l14)]⟩→K10 s:=by
   intro l14 hq s hw
   subst o15
   try dsimp only at h0
   refine hK10 _ (AR hw (zr tb U U ?_))
   replace h0:=Sh.AB h0
   subst r
   exact AJ (xr (AT (L:=[(4,(ow 0 0 l14))]) (.same U)))
  refine AU (As (σ:=Int×(List Int)) (fun n v=>D8 N p0 p1 n v.1 v.2=some o15) (fun (i12,l13)=>⟨35,AP [(0,(BT p0)),(1,(i64 p1)),(5,(ow 0 0 l13)),(6,(i64 i12))],[(BL l13)]⟩) N (0,[]) h1 (AD U) (fun _ hv=>by rw[D8] at hv;cases hv) ?_)
  rintro n ⟨i12,l13⟩ h1
  try dsimp only at h1 ⊢
  rw[D8] at h1
  refine AF fun K17 hK17=>sr U fun K18 hK18=>zm tb 4 U (bs h1 fun c19 gc19 h1=>zx DC gc19 U U U (zm tb 2 U (zl tb U U (zq tb U (dn hK18 U ?_)))))
  refine ci h1 U ?_ ?_ <;> clear h1
  ·intro b20 h1
   refine AI (hK17 _ (AF fun K21 hK21=>AU (AK U (zm tb 4 U (bs h1 fun q22 gq22 h1=>zc VC (G5 gq22) rfl U U (zm tb 2 U ?_))))))
   refine Cb (m:=1) (l:=[Sh.w (q22+i12)]) (enc:=eI) Ah Bm (by decide) rfl U U U U U ?_
   refine bs h1 fun l23 gl23 h1=>Fb (l2:=[Sh.w (q22+i12)]) Ah Bm U U U U (Jc U U) (fun _=>U) gl23 U (zq tb U (dn hK21 U (AK U (zm tb 3 U ?_))))
   exact AA (xi (Sh.w (i12+1),l23) h1 (by refine Wk.trans (Dx (L:=[(0,(BT p0)),(1,(i64 p1)),(5,(ow 0 0 l23)),(6,(KL i12))]) (st':=[(BL l23),(ro 0 3 1 eI [Sh.w (q22+i12)])]) (.pure (AN fun _=>U) (.pure (AN fun _=>U) .nil)) (.same U)) ?_;exact Af [0] U (by decide) rfl U (.pure (AN fun _=>U) .nil) (.same U)))
  ·intro b20 h1
   exact Aw (M15 l13 (Sh.AB h1).symm _ (AD U))
theorem OW {N:Nat} {rec_spec_typeOf:Aa→(List Int)→AG→Option (Int)} (hrec_spec_typeOf :∀{p0:Aa} {p1:(List Int)} {p2:AG} {r:Int},rec_spec_typeOf p0 p1 p2=some r→Ag Tryz.prog 46 (SQ p0 p1 p2) [] (fun v st=>v=(i64 r)∧st=[])) {p0:Aa} {p1:(List Int)} {p2:AG} {r:Int} (h0:H4 N rec_spec_typeOf p0 p1 p2=some r):Ag Tryz.prog 92 (SQ p0 p1 p2) [] (fun v st=>v=(i64 r)∧st=[]):=by
 unfold H4 at h0
 refine ai Tryz.func92 U U U U (sr U fun K1 hK1=>BH (m:=0) Ah U U U U U (BH (m:=1) Ah U U U U U (zq tb U (dn hK1 U (sr U fun K2 hK2=>zm tb 4 U (bs h0 fun q3 gq3 h0=>BY (v':=(ow 2 0 q3)) Ah Zh (MQ gq3) rfl U ⟨(B2 fun _=>U),trivial⟩ U U (zq tb U (dn hK2 U ?_))))))))
 refine AF fun K4 hK4=>AF fun K5 hK5=>bs h0 fun o7 h1 h0=>?_
 have M7 :∀(t6:Bool),o7=t6→∀s,Wk 0 s ⟨79,AP [(1,(ls eI p1)),(3,Ar),(5,Ay),(7,(ow 2 0 q3)),(38,(.bool t6))],[(KZ p0.decls p0.funcs),(KV p2.op p2.num p2.kids),(BL q3)]⟩→K5 s:=by
  intro t6 hq s hw
  subst o7
  try dsimp only at h0
  refine hK5 _ (AR hw ?_)
  refine ci h0 U ?_ ?_ <;> clear h0
  ·intro b8 h0
   refine zr tb U U ?_
   replace h0:=Sh.AB h0
   subst r
   exact AJ (xr (An [(6,(i64 (-1)))] U))
  ·intro b8 h0
   refine AI (hK4 _ (AF fun K10 hK10=>?_))
   refine Be 14 (by kernel_rfl) (by kernel_rfl) (by rfl) ?_
   iterate 5 refine yq tb rfl ?_
   refine bs h0 fun c11 gc11 h0=>yz (.ptr 2 0 (Int.toNat 0) 0) (Bf Bm U U U U gc11) rfl (yz (i64 c11) (CP IJ U U (GH gc11) rfl) rfl (bs h0 fun q12 gq12 h0=>Bk (v:=(ls eI q12)) Ah YO (Gd gq12) rfl U U (bs h0 fun q13 gq13 h0=>?_)))
   refine Bk (v:=(ls eI q13)) Ah ZY (Ag.wk (Jj gq13) (by refine Wk.trans (Wk.Er (L:=[(0,(ls eI q13))]) (st':=Vs) (id:=0) rfl (show 0≤0 by decide) (AN fun _=>U) ⟨(.Er U),trivial⟩ U) ?_;exact Af [] U (by decide) rfl U .nil (.same U))) rfl U U ?_
   iterate 2 refine yq tb rfl ?_
   refine bs h0 fun c14 gc14 h0=>yz (EI c14) (BM Bc U U gc14 (Ax _) rfl) rfl (yq tb U (bs h0 fun q15 gq15 h0=>Bk (v:=(i64 q15)) Ah Li (hrec_spec_typeOf gq15) rfl U U (BR (zq tb U (dn hK10 U (AF fun K16 hK16=>zr tb U U ?_))))))
   obtain⟨o19,h1,h0⟩:=Sh.BF h0
   have M19 :∀(_:Unit),o19=Sum.inr ()→∀s,Wk 0 s ⟨79,AP [(8,(i64 q15))],[]⟩→K16 s:=by
    intro _ hq s hw
    subst o19
    try dsimp only at h0
    refine hK16 _ (AR hw (zr tb U U ?_))
    replace h0:=Sh.AB h0
    subst r
    exact AJ (xr (AT (L:=[(6,(i64 q15))]) (.same U)))
   refine AU (As (σ:=Int) (fun n v=>C1 N p0 p1 p2 q15 q3 rec_spec_typeOf n v=some o19) (fun i18=>⟨79,AP [(1,(ls eI p1)),(3,Ar),(5,Ay),(7,(ow 2 0 q3)),(8,(i64 q15)),(9,(i64 i18))],[(KZ p0.decls p0.funcs),(KV p2.op p2.num p2.kids),(BL q3)]⟩) N 1 h1 (AD U) (fun _ hv=>by rw[C1] at hv;cases hv) ?_)
   rintro n i18 h1
   try dsimp only at h1 ⊢
   rw[C1] at h1
   refine AF fun K21 hK21=>sr U fun K22 hK22=>zm tb 2 U (zz (Bp q3) (Cs Ff U U U) rfl (zq tb U (dn hK22 U ?_)))
   refine ci h1 U ?_ ?_ <;> clear h1
   ·intro b23 h1
    refine AI (hK21 _ (AF fun K24 hK24=>AU (AF fun K25 hK25=>?_)))
    refine Be 18 (by kernel_rfl) (by kernel_rfl) (by rfl) ?_
    iterate 6 refine yq tb rfl ?_
    refine bs h1 fun c26 gc26 h1=>yz (.ptr 2 0 (Int.toNat i18) 0) (Bf Bm U U U U gc26) rfl (yz (i64 c26) (CP IJ U U (GH gc26) rfl) rfl (bs h1 fun q27 gq27 h1=>Bk (v:=(ls eI q27)) Ah YO (Gd gq27) rfl U U (bs h1 fun q28 gq28 h1=>?_)))
    refine Bk (v:=(ls eI q28)) Ah ZY (Ag.wk (Jj gq28) (by refine Wk.trans (Wk.Er (L:=[(0,(ls eI q28))]) (st':=Vs) (id:=0) rfl (show 0≤0 by decide) (AN fun _=>U) ⟨(.Er U),trivial⟩ U) ?_;exact Af [] U (by decide) rfl U .nil (.same U))) rfl U U ?_
    iterate 4 refine yq tb rfl ?_
    refine bs h1 fun c29 gc29 h1=>yz (EI c29) (BM Bc U U gc29 (Ax _) rfl) rfl (yq tb U (bs h1 fun q30 gq30 h1=>Bk (v:=(i64 q30)) Ah Li (hrec_spec_typeOf gq30) rfl U U (yq tb U (BR (zq tb U (dn hK25 U ?_))))))
    refine ci h1 U ?_ ?_ <;> clear h1
    ·intro b31 h1
     have b32:decide (q30=q15)=false:=by simpa using b31
     refine zr tb U U ?_
     replace h1:=Sh.AB h1
     subst o19
     try dsimp only[id] at h0
     replace h0:=Sh.AB h0
     subst r
     exact AJ (xr (An [(6,(i64 (-1)))] U))
    ·intro b31 h1
     have b34:decide (q30=q15)=true:=by simpa using b31
     exact AI (hK24 _ (AK U (zm tb 3 U (AA (xi (Sh.w (i18+1)) h1 (AD U))))))
   ·intro b23 h1
    exact Aw (M19 () (Sh.AB h1).symm _ (An _ U))
 refine By (by kernel_rfl) (by kernel_rfl) (by rfl) ?_
 refine yq tb U (yz (Bp q3) (Cs Ff U U U) rfl ?_)
 iterate 2 refine yq tb rfl ?_
 rcases Sh.Au h1 with ⟨b35,h1⟩ | ⟨b35,h1⟩
 ·refine ys b35 U ?_
  iterate 6 refine ys b35 rfl ?_
  refine yt b35 U (yq tb U ?_)
  iterate 10 refine ys rfl rfl ?_
  exact yt U U (BR (M7 true (Sh.AB h1).symm _ (AD U)))
 ·refine yg tb b35 U (yg tb b35 U (Jz (v:=(IA p2)) (DF U U b35) rfl (Cq Ss U) (yg tb b35 U (Jz (v:=(Bp q3)) (DF U U b35) rfl (Cs Ff U U U) ?_))))
  iterate 2 refine yg tb b35 rfl ?_
  refine yf b35 U (yq tb U ?_)
  rcases Sh.Au h1 with ⟨b36,h1⟩ | ⟨b36,h1⟩
  ·refine ys b36 U ?_
   iterate 9 refine ys b36 rfl ?_
   exact yt b36 U (BR (M7 true (Sh.AB h1).symm _ (AD U)))
  ·refine yg tb b36 U ?_
   iterate 3 refine yg tb b36 rfl ?_
   refine bs h1 fun c37 gc37 h1=>Jz (v:=(EI c37)) (DF U U b36) rfl (BM Bc U U gc37 (Ax _) rfl) (yg tb b36 U (bs h1 fun q38 gq38 h1=>Bk (v:=(i64 q38)) (DF U U b36) Li (hrec_spec_typeOf gq38) rfl U U ?_))
   iterate 3 refine yg tb b36 rfl ?_
   exact yf b36 U (BR (M7 (!decide (q38=p2.num)) (Sh.AB h1).symm _ (AD U)))
theorem QH {N:Nat} {p0:(List Ab)} {p1:Int} {p2:Int} {r:Int} (h0:Hn N p0 p1 p2=some r):Ag Tryz.prog 122 [(BT p0),(i64 p1),(i64 p2)] [] (fun v st=>v=(i64 r)∧st=[]):=by
 unfold Hn at h0
 refine ai Tryz.func122 U U U U (zr tb U U (AF fun K2 hK2=>zr tb U U ?_))
 obtain⟨o5,h1,h0⟩:=Sh.BF h0
 have M5 :∀(_:Unit),o5=Sum.inr ()→∀s,Wk 0 s ⟨41,AP [],[]⟩→K2 s:=by
  intro _ hq s hw
  subst o5
  try dsimp only at h0
  refine hK2 _ (AR hw (zr tb U U ?_))
  replace h0:=Sh.AB h0
  subst r
  exact AJ (xr (AT (L:=[(6,(i64 (-1)))]) (.same U)))
 refine AU (As (σ:=Int) (fun n v=>Df p0 p1 p2 n v=some o5) (fun i4=>⟨41,AP [(0,(BT p0)),(1,(i64 p1)),(2,(i64 p2)),(7,(i64 i4))],[]⟩) N 0 h1 (AD U) (fun _ hv=>by rw[Df] at hv;cases hv) ?_)
 rintro n i4 h1
 try dsimp only at h1 ⊢
 rw[Df] at h1
 refine AF fun K7 hK7=>sr U fun K8 hK8=>zm tb 2 U (zl tb U U (zq tb U (dn hK8 U ?_)))
 refine ci h1 U ?_ ?_ <;> clear h1
 ·intro b9 h1
  refine AI (hK7 _ (AF fun K10 hK10=>AU (AF fun K11 hK11=>bs h1 fun o13 h2 h1=>?_)))
  have M13 :∀(t12:Bool),o13=t12→∀s,Wk 0 s ⟨41,AP [(0,(BT p0)),(1,(i64 p1)),(2,(i64 p2)),(7,(i64 i4)),(38,(.bool t12))],[]⟩→K11 s:=by
   intro t12 hq s hw
   subst o13
   try dsimp only at h1
   refine hK11 _ (AR hw ?_)
   refine ci h1 U ?_ ?_ <;> clear h1
   ·intro b14 h1
    refine zr tb U U ?_
    replace h1:=Sh.AB h1
    subst o5
    try dsimp only[id] at h0
    replace h0:=Sh.AB h0
    subst r
    exact AJ (xr (AT (L:=[(6,(KL i4))]) (.same U)))
   ·intro b14 h1
    exact AI (hK10 _ (AK U (zm tb 3 U (AA (xi (Sh.w (i4+1)) h1 (AD U))))))
  refine AK U (zm tb 2 U (bs h2 fun c16 gc16 h2=>zx DC gc16 U U U (zm tb 2 U (zl tb U U (zm tb 2 U ?_)))))
  rcases Sh.Au h2 with ⟨b17,h2⟩ | ⟨b17,h2⟩
  ·refine zg tb b17 U (zg tb b17 U (BP (v:=(.Bu (Ai c16) 0)) (DF U U b17) rfl (Ex DC U U gc16 U) ?_))
   iterate 4 refine zg tb b17 rfl ?_
   refine zt b17 U (zq tb U ?_)
   rcases Sh.Au h2 with ⟨b18,h2⟩ | ⟨b18,h2⟩
   ·refine zg tb b18 U (zg tb b18 U (BP (v:=(.Bu (Ai c16) 0)) (DF U U b18) rfl (Ex DC U U gc16 U) ?_))
    iterate 4 refine zg tb b18 rfl ?_
    exact zt b18 U (AA (M13 (decide (c16.to=p2)) (Sh.AB h2).symm _ (AD U)))
   ·refine zs b18 U ?_
    iterate 6 refine zs b18 rfl ?_
    exact zf b18 U (AA (M13 false (Sh.AB h2).symm _ (AD U)))
  ·refine zs b17 U ?_
   iterate 6 refine zs b17 rfl ?_
   refine zf b17 U (zq tb U ?_)
   iterate 7 refine zs rfl rfl ?_
   exact zf U U (AA (M13 false (Sh.AB h2).symm _ (AD U)))
 ·intro b9 h1
  exact Aw (M5 () (Sh.AB h1).symm _ (AD U))
theorem Pb {N:Nat} {rec_spec_typeOf:Aa→(List Int)→AG→Option (Int)} (hrec_spec_typeOf :∀{p0:Aa} {p1:(List Int)} {p2:AG} {r:Int},rec_spec_typeOf p0 p1 p2=some r→Ag Tryz.prog 46 (SQ p0 p1 p2) [] (fun v st=>v=(i64 r)∧st=[])) {p0:Aa} {p1:(List Int)} {p2:AG} {r:Int} (h0:E5 N rec_spec_typeOf p0 p1 p2=some r):Ag Tryz.prog 93 (SQ p0 p1 p2) [] (fun v st=>v=(i64 r)∧st=[]):=by
 unfold E5 at h0
 refine ai Tryz.func93 U U U U (sr U fun K1 hK1=>BH (m:=0) Ah U U U U U (BH (m:=1) Ah U U U U U (zq tb U (dn hK1 U (AF fun K2 hK2=>sr U fun K3 hK3=>zm tb 4 U (zl tb U U (zq tb U (bs h0 fun q4 gq4 h0=>?_))))))))
 refine zc NU (Co gq4) rfl U U (zq tb U (dn hK3 U ?_))
 refine ci h0 U ?_ ?_ <;> clear h0
 ·intro b5 h0
  have b6:q4=false:=by simpa using b5
  refine zr tb U U ?_
  replace h0:=Sh.AB h0
  subst r
  exact AJ (xr (An [(6,(i64 (-1)))] U))
 ·intro b5 h0
  have b8:q4=true:=by simpa using b5
  refine AI (hK2 _ (sr U fun K9 hK9=>zm tb 4 U (bs h0 fun c10 gc10 h0=>zx CR gc10 U U U (zq tb U (A0 (m:=2) Ah Mx U U (A1 Ah Pt U U U U U U (show 0+5≤5 by decide) rfl (dn hK9 U (sr U fun K11 hK11=>zm tb 2 U (zl tb U U ?_)))))))))
  refine zq tb U (dn hK11 U (AF fun K12 hK12=>zr tb U U ?_))
  refine ci h0 U ?_ ?_ <;> clear h0
  ·intro b14 h0
   refine AF fun K15 hK15=>sr U fun K16 hK16=>zm tb 6 U (bs h0 fun q17 gq17 h0=>zc ak (Kb hrec_spec_typeOf gq17) rfl U U (zq tb U (dn hK16 U ?_)))
   refine ci h0 U ?_ ?_ <;> clear h0
   ·intro b18 h0
    have b19:q17=false:=by simpa using b18
    refine zr tb U U ?_
    replace h0:=Sh.AB h0
    subst r
    exact AJ (xr (An [(6,(i64 (-1)))] U))
   ·intro b18 h0
    have b21:q17=true:=by simpa using b18
    refine AI (hK15 _ (zr tb U U ?_))
    replace h0:=Sh.AB h0
    subst r
    exact AJ (xr (An [(6,(i64 c10.result))] U))
  ·intro b14 h0
   refine AI (hK12 _ (AF fun K23 hK23=>AF fun K24 hK24=>bs h0 fun o26 h1 h0=>?_))
   have M26 :∀(t25:Bool),o26=t25→∀s,Wk 0 s ⟨65,AP [(3,Ar),(7,Ay),(8,(i64 (Sh.len c10.params))),(53,(.bool t25))],[(KZ p0.decls p0.funcs),⟨0,48,5,[(Sp c10)]⟩]⟩→K24 s:=by
    intro t25 hq s hw
    subst o26
    try dsimp only at h0
    refine hK24 _ (AR hw ?_)
    refine ci h0 U ?_ ?_ <;> clear h0
    ·intro b27 h0
     refine zr tb U U ?_
     replace h0:=Sh.AB h0
     subst r
     exact AJ (xr (An [(6,(i64 (-1)))] U))
    ·intro b27 h0
     refine AI (hK23 _ (AF fun K29 hK29=>?_))
     refine By (by kernel_rfl) (by kernel_rfl) (by rfl) ?_
     iterate 6 refine yq tb rfl ?_
     refine bs h0 fun c30 gc30 h0=>yx Bm gc30 U U U ?_
     iterate 3 refine yq tb rfl ?_
     refine bs h0 fun q31 gq31 h0=>Bk (v:=(i64 q31)) Ah dD (QH gq31) rfl U U (yq tb U (BR (hK29 _ ?_)))
     replace h0:=Sh.AB h0
     subst r
     exact AJ (xr (An [(6,(i64 q31))] U))
   refine Be 14 (by kernel_rfl) (by kernel_rfl) (by rfl) ?_
   iterate 3 refine yq tb rfl ?_
   rcases Sh.Au h1 with ⟨b32,h1⟩ | ⟨b32,h1⟩
   ·refine ys b32 U ?_
    iterate 10 refine ys b32 rfl ?_
    refine BR (zt b32 U ?_)
    exact AA (M26 true (Sh.AB h1).symm _ (Af [0,2] U (by decide) rfl U (.raw U U (.raw U U .nil)) (.same U)))
   ·refine yg tb b32 U ?_
    iterate 7 refine yg tb b32 rfl ?_
    refine bs h1 fun l33 gl33 h1=>XJ (i:=0) (j:=Sh.w ((Sh.len c10.params) - 1)) (DF U U b32) Bm U U U (fun _=>U) gl33 (bs h1 fun q34 gq34 h1=>Bk (v:=(.bool q34)) (DF U U b32) ak (Kb hrec_spec_typeOf gq34) rfl U U (yg tb b32 U (BR (zf b32 U ?_))))
    exact AA (M26 (!q34) (Sh.AB h1).symm _ (Af [0,2] U (by decide) rfl U (.raw U U (.raw U U .nil)) (.same U)))
theorem QY {p0:(List Ab)} {p1:Int} {r:Bool} (h0:Hw p0 p1=some r):Ag Tryz.prog 94 [(BT p0),(i64 p1)] [] (fun v st=>v=(.bool r)∧st=[]):=by
 unfold Hw at h0
 refine ai Tryz.func94 U U U U (zr tb U U (AF fun K2 hK2=>bs h0 fun o4 h1 h0=>?_))
 have M4 :∀(t3:Bool),o4=t3→∀s,Wk 0 s ⟨19,AP [(4,(.bool t3))],[]⟩→K2 s:=by
  intro t3 hq s hw
  subst o4
  try dsimp only at h0
  refine hK2 _ (AR hw ?_)
  replace h0:=Sh.AB h0
  subst r
  exact AJ (xr (AT (L:=[(4,(.bool t3))]) (.same U)))
 refine AK U (zm tb 2 U (zl tb U U (bs h1 fun q5 gq5 h1=>zc NU (Co gq5) rfl U U (zq tb U ?_))))
 rcases Sh.Au h1 with ⟨b6,h1⟩ | ⟨b6,h1⟩
 ·exact zg tb b6 U (zg tb b6 U (zg tb b6 U (bs h1 fun c7 gc7 h1=>BP (v:=(.Bu (Ai c7) 0)) (DF U U b6) rfl (Ex DC U U gc7 U) (zg tb b6 U (zg tb b6 U (BP (v:=(TN c7)) (DF U U b6) rfl (Cq OD U) (zg tb b6 U (zt b6 U (zq tb U (AA (M4 (decide ((Sh.len c7.cons)=0)) (Sh.AB h1).symm _ (AD U))))))))))))
 ·refine zs b6 U ?_
  iterate 7 refine zs b6 rfl ?_
  exact zf b6 U (zq tb U (AA (M4 false (Sh.AB h1).symm _ (AD U))))
theorem Pn {N:Nat} {rec_spec_typeOf:Aa→(List Int)→AG→Option (Int)} (hrec_spec_typeOf :∀{p0:Aa} {p1:(List Int)} {p2:AG} {r:Int},rec_spec_typeOf p0 p1 p2=some r→Ag Tryz.prog 46 (SQ p0 p1 p2) [] (fun v st=>v=(i64 r)∧st=[])) {p0:Aa} {p1:(List Int)} {p2:AG} {r:Int} (h0:BN N rec_spec_typeOf p0 p1 p2=some r):Ag Tryz.prog 46 (SQ p0 p1 p2) [] (fun v st=>v=(i64 r)∧st=[]):=by
 unfold BN at h0
 refine ai Tryz.func46 U U U U (sr U fun K1 hK1=>BH (m:=0) Ah U U U U U (BH (m:=1) Ah U U U U U (zq tb U (dn hK1 U (zr tb U U (AF fun K3 hK3=>?_))))))
 obtain⟨o4,h1,h0⟩:=Sh.BF h0
 have M4 :∀(_:Unit),o4=Sum.inr ()→∀s,Wk 0 s ⟨215,AP [],[]⟩→K3 s:=by
  intro _ hq s hw
  subst o4
  try dsimp only at h0
  refine hK3 _ (AR hw (zr tb U U ?_))
  replace h0:=Sh.AB h0
  subst r
  exact AJ (xr (AT (L:=[(6,(i64 (-1)))]) (.same U)))
 refine zr tb U U (AU (zr tb U U ?_))
 refine ci h1 U ?_ ?_ <;> clear h1
 ·intro b8 h1
  refine AF fun K9 hK9=>bs h1 fun o11 h2 h1=>?_
  have M11 :∀(t10:Bool),o11=t10→∀s,Wk 0 s ⟨215,AP [(26,(.bool t10))],[]⟩→K9 s:=by
   intro t10 hq s hw
   subst o11
   try dsimp only at h1
   refine hK9 _ (AR hw ?_)
   refine ci h1 U ?_ ?_ <;> clear h1
   ·intro b12 h1
    refine zr tb U U ?_
    replace h1:=Sh.AB h1
    subst o4
    try dsimp only[id] at h0
    replace h0:=Sh.AB h0
    subst r
    exact AJ (xr (AT (L:=[(6,(i64 0))]) (.same U)))
   ·intro b12 h1
    exact AI (M4 () (Sh.AB h1).symm _ (AD U))
  refine AK U (zm tb 2 U (zl tb U U (zm tb 2 U ?_)))
  rcases Sh.Au h2 with ⟨b14,h2⟩ | ⟨b14,h2⟩
  ·exact zg tb b14 U (zg tb b14 U (bs h2 fun q15 gq15 h2=>zd b14 NU (Co gq15) rfl U U U (zt b14 U (AA (M11 q15 (Sh.AB h2).symm _ (An _ U))))))
  ·exact zs b14 U (zs b14 U (zs b14 U (zf b14 U (AA (M11 false (Sh.AB h2).symm _ (An _ U))))))
 ·intro b8 h1
  refine zr tb U U ?_
  refine ci h1 U ?_ ?_ <;> clear h1
  ·intro b17 h1
   refine AF fun K18 hK18=>bs h1 fun o20 h2 h1=>?_
   have M20 :∀(t19:Bool),o20=t19→∀s,Wk 0 s ⟨215,AP [(1,(ls eI p1)),(5,Ar),(40,(.bool t19))],[(KV p2.op p2.num p2.kids)]⟩→K18 s:=by
    intro t19 hq s hw
    subst o20
    try dsimp only at h1
    refine hK18 _ (AR hw ?_)
    refine ci h1 U ?_ ?_ <;> clear h1
    ·intro b21 h1
     refine sr U fun K22 hK22=>zm tb 3 U (bs h1 fun c23 gc23 h1=>zx Bm gc23 U U U (zm tb 2 U (dn hK22 U ?_)))
     replace h1:=Sh.AB h1
     subst o4
     try dsimp only[id] at h0
     replace h0:=Sh.AB h0
     subst r
     exact AJ (xr (An [(6,(i64 c23))] U))
    ·intro b21 h1
     exact AI (M4 () (Sh.AB h1).symm _ (An _ U))
   refine AK U (zm tb 2 U (zl tb U U (zm tb 2 U ?_)))
   rcases Sh.Au h2 with ⟨b24,h2⟩ | ⟨b24,h2⟩
   ·refine zg tb b24 U (zg tb b24 U (zg tb b24 U (BP (v:=(Bp p1)) (DF U U b24) rfl (Cq Ff U) (zg tb b24 U (bs h2 fun q25 gq25 h2=>zd b24 NU (Co gq25) rfl U U U (zt b24 U ?_))))))
    exact AA (M20 q25 (Sh.AB h2).symm _ (Af [1] U (by decide) rfl U (.raw U U .nil) (.same U)))
   ·refine zs b24 U ?_
    iterate 5 refine zs b24 rfl ?_
    refine zf b24 U ?_
    exact AA (M20 false (Sh.AB h2).symm _ (Af [1] U (by decide) rfl U (.raw U U .nil) (.same U)))
  ·intro b17 h1
   refine AF fun K26 hK26=>bs h1 fun o28 h2 h1=>?_
   have M28 :∀(t27:Bool),o28=t27→∀s,Wk 0 s ⟨215,AP [(1,(ls eI p1)),(3,Ar),(5,Ay),(7,(.bool (decide (p2.num=0)))),(15,(i64 p2.op)),(46,(.bool t27))],[(KZ p0.decls p0.funcs),(KV p2.op p2.num p2.kids)]⟩→K26 s:=by
    intro t27 hq s hw
    subst o28
    try dsimp only at h1
    refine hK26 _ (AR hw ?_)
    refine ci h1 U ?_ ?_ <;> clear h1
    ·intro b29 h1
     refine AF fun K30 hK30=>bs h1 fun o32 h2 h1=>?_
     have M32 :∀(t31:Bool),o32=t31→∀s,Wk 0 s ⟨215,AP [(58,(.bool t31))],[]⟩→K30 s:=by
      intro t31 hq s hw
      subst o32
      try dsimp only at h1
      refine hK30 _ (AR hw ?_)
      refine ci h1 U ?_ ?_ <;> clear h1
      ·intro b33 h1
       refine zr tb U U ?_
       replace h1:=Sh.AB h1
       subst o4
       try dsimp only[id] at h0
       replace h0:=Sh.AB h0
       subst r
       exact AJ (xr (AT (L:=[(6,(i64 0))]) (.same U)))
      ·intro b33 h1
       exact AI (M4 () (Sh.AB h1).symm _ (AD U))
     refine AK U (zm tb 2 U ?_)
     rcases Sh.Au h2 with ⟨b35,h2⟩ | ⟨b35,h2⟩
     ·refine zg tb b35 U ?_
      iterate 3 refine zg tb b35 rfl ?_
      exact bs h2 fun q36 gq36 h2=>zd b35 cd (Lc hrec_spec_typeOf gq36) rfl U U U (zt b35 U (AA (M32 q36 (Sh.AB h2).symm _ (An _ U))))
     ·refine zs b35 U ?_
      iterate 4 refine zs b35 rfl ?_
      exact zf b35 U (AA (M32 false (Sh.AB h2).symm _ (An _ U)))
    ·intro b29 h1
     refine zr tb U U ?_
     refine ci h1 U ?_ ?_ <;> clear h1
     ·intro b38 h1
      refine AF fun K39 hK39=>bs h1 fun o41 h2 h1=>?_
      have M41 :∀(t40:Bool),o41=t40→∀s,Wk 0 s ⟨215,AP [(68,(.bool t40))],[]⟩→K39 s:=by
       intro t40 hq s hw
       subst o41
       try dsimp only at h1
       refine hK39 _ (AR hw ?_)
       refine ci h1 U ?_ ?_ <;> clear h1
       ·intro b42 h1
        refine zr tb U U ?_
        replace h1:=Sh.AB h1
        subst o4
        try dsimp only[id] at h0
        replace h0:=Sh.AB h0
        subst r
        exact AJ (xr (AT (L:=[(6,(i64 0))]) (.same U)))
       ·intro b42 h1
        exact AI (M4 () (Sh.AB h1).symm _ (AD U))
      refine AK U (zm tb 2 U ?_)
      rcases Sh.Au h2 with ⟨b44,h2⟩ | ⟨b44,h2⟩
      ·refine zg tb b44 U ?_
       iterate 3 refine zg tb b44 rfl ?_
       exact bs h2 fun q45 gq45 h2=>zd b44 cd (Lc hrec_spec_typeOf gq45) rfl U U U (zt b44 U (AA (M41 q45 (Sh.AB h2).symm _ (An _ U))))
      ·refine zs b44 U ?_
       iterate 4 refine zs b44 rfl ?_
       exact zf b44 U (AA (M41 false (Sh.AB h2).symm _ (An _ U)))
     ·intro b38 h1
      refine zr tb U U ?_
      refine ci h1 U ?_ ?_ <;> clear h1
      ·intro b47 h1
       refine AF fun K48 hK48=>bs h1 fun o50 h2 h1=>?_
       have M50 :∀(t49:Bool),o50=t49→∀s,Wk 0 s ⟨215,AP [(3,Ar),(5,Ay),(88,(.bool t49))],[(KZ p0.decls p0.funcs),(KV p2.op p2.num p2.kids)]⟩→K48 s:=by
        intro t49 hq s hw
        subst o50
        try dsimp only at h1
        refine hK48 _ (AR hw ?_)
        refine ci h1 U ?_ ?_ <;> clear h1
        ·intro b51 h1
         refine sr U fun K52 hK52=>zm tb 4 U (bs h1 fun q53 gq53 h1=>zc ab (JM gq53) rfl U U (zq tb U (dn hK52 U ?_)))
         replace h1:=Sh.AB h1
         subst o4
         try dsimp only[id] at h0
         replace h0:=Sh.AB h0
         subst r
         exact AJ (xr (An [(6,(i64 q53))] U))
        ·intro b51 h1
         exact AI (M4 () (Sh.AB h1).symm _ (An _ U))
       refine Be 17 (by kernel_rfl) (by kernel_rfl) (by rfl) ?_
       iterate 4 refine yq tb rfl ?_
       refine bs h2 fun q54 gq54 h2=>Bk (v:=(i64 q54)) Ah ab (JM gq54) rfl U U ?_
       iterate 2 refine yq tb rfl ?_
       rcases Sh.Au h2 with ⟨b55,h2⟩ | ⟨b55,h2⟩
       ·refine yg tb b55 U ?_
        iterate 7 refine yg tb b55 rfl ?_
        exact bs h2 fun q56 gq56 h2=>Bk (v:=(ls eI q56)) (DF U U b55) YO (Gd gq56) rfl U U (bs h2 fun q57 gq57 h2=>Bk (v:=(.bool q57)) (DF U U b55) ak (Kb hrec_spec_typeOf gq57) rfl U U (BR (zt b55 U (AA (M50 q57 (Sh.AB h2).symm _ (AD U))))))
       ·refine ys b55 U ?_
        iterate 9 refine ys b55 rfl ?_
        exact BR (zf b55 U (AA (M50 false (Sh.AB h2).symm _ (AD U))))
      ·intro b47 h1
       refine zr tb U U ?_
       refine ci h1 U ?_ ?_ <;> clear h1
       ·intro b59 h1
        refine AF fun K60 hK60=>bs h1 fun o62 h2 h1=>?_
        have M62 :∀(t61:Bool),o62=t61→∀s,Wk 0 s ⟨215,AP [(1,(ls eI p1)),(3,Ar),(5,Ay),(102,(.bool t61))],[(KZ p0.decls p0.funcs),(KV p2.op p2.num p2.kids)]⟩→K60 s:=by
         intro t61 hq s hw
         subst o62
         try dsimp only at h1
         refine hK60 _ (AR hw ?_)
         refine ci h1 U ?_ ?_ <;> clear h1
         ·intro b63 h1
          refine AF fun K64 hK64=>?_
          refine By (by kernel_rfl) (by kernel_rfl) (by rfl) ?_
          iterate 4 refine yq tb rfl ?_
          refine bs h1 fun c65 gc65 h1=>yz (EI c65) (BM Bc U U gc65 (Ax _) rfl) rfl (yq tb U (bs h1 fun q66 gq66 h1=>Bk (v:=(i64 q66)) Ah Li (hrec_spec_typeOf gq66) rfl U U (yq tb U (BR (hK64 _ (zr tb U U ?_))))))
          refine ci h1 U ?_ ?_ <;> clear h1
          ·intro b68 h1
           refine AF fun K69 hK69=>?_
           refine Be 10 (by kernel_rfl) (by kernel_rfl) (by rfl) ?_
           iterate 3 refine yq tb rfl ?_
           refine UG (l:=[q66]) (enc:=eI) Ah Bm (by decide) rfl U U U U (AN fun _=>U) ?_
           refine bs h1 fun q70 gq70 h1=>?_
           refine Bk (v:=(ls eI q70)) Ah ZY (Ag.wk (Jj gq70) (by refine Wk.trans (Wk.Er (L:=[(0,(ls eI q70))]) (st':=Vs) (id:=0) rfl (show 0≤0 by decide) (AN fun _=>U) ⟨(.Er U),trivial⟩ U) ?_;exact Af [] U (by decide) rfl U .nil (.same U))) rfl U U ?_
           iterate 2 refine yq tb rfl ?_
           refine bs h1 fun c71 gc71 h1=>yz (EI c71) (BM Bc U U gc71 (Ax _) rfl) rfl (yq tb U (bs h1 fun q72 gq72 h1=>Bk (v:=(i64 q72)) Ah Li (hrec_spec_typeOf gq72) rfl U U (BR (zq tb U (dn hK69 U ?_)))))
           replace h1:=Sh.AB h1
           subst o4
           try dsimp only[id] at h0
           replace h0:=Sh.AB h0
           subst r
           exact AJ (xr (An [(6,(i64 q72))] U))
          ·intro b68 h1
           exact AI (M4 () (Sh.AB h1).symm _ (An _ U))
         ·intro b63 h1
          exact AI (M4 () (Sh.AB h1).symm _ (An _ U))
        refine AK U (zm tb 2 U ?_)
        rcases Sh.Au h2 with ⟨b73,h2⟩ | ⟨b73,h2⟩
        ·exact zg tb b73 U (zg tb b73 U (BP (v:=(IA p2)) (DF U U b73) rfl (Cq Ss U) (zg tb b73 U (zt b73 U (AA (M62 (decide ((Sh.len p2.kids)=2)) (Sh.AB h2).symm _ (AD U)))))))
        ·refine zs b73 U ?_
         iterate 3 refine zs b73 rfl ?_
         exact zf b73 U (AA (M62 false (Sh.AB h2).symm _ (AD U)))
       ·intro b59 h1
        refine zr tb U U ?_
        refine ci h1 U ?_ ?_ <;> clear h1
        ·intro b75 h1
         refine AF fun K76 hK76=>bs h1 fun o78 h2 h1=>?_
         have M78 :∀(t77:Bool),o78=t77→∀s,Wk 0 s ⟨215,AP [(1,(ls eI p1)),(3,Ar),(5,Ay),(140,(.bool t77))],[(KZ p0.decls p0.funcs),(KV p2.op p2.num p2.kids)]⟩→K76 s:=by
          intro t77 hq s hw
          subst o78
          try dsimp only at h1
          refine hK76 _ (AR hw ?_)
          refine ci h1 U ?_ ?_ <;> clear h1
          ·intro b79 h1
           refine AF fun K80 hK80=>?_
           refine By (by kernel_rfl) (by kernel_rfl) (by rfl) ?_
           iterate 4 refine yq tb rfl ?_
           refine bs h1 fun c81 gc81 h1=>yz (EI c81) (BM Bc U U gc81 (Ax _) rfl) rfl (yq tb U (bs h1 fun q82 gq82 h1=>Bk (v:=(i64 q82)) Ah Li (hrec_spec_typeOf gq82) rfl U U (yq tb U (BR (hK80 _ (AF fun K83 hK83=>?_))))))
           refine By (by kernel_rfl) (by kernel_rfl) (by rfl) ?_
           iterate 4 refine yq tb rfl ?_
           refine bs h1 fun c84 gc84 h1=>yz (EI c84) (BM Bc U U gc84 (Ax _) rfl) rfl (yq tb U (bs h1 fun q85 gq85 h1=>Bk (v:=(i64 q85)) Ah Li (hrec_spec_typeOf gq85) rfl U U ?_))
           iterate 2 refine yq tb rfl ?_
           refine BR (hK83 _ ?_)
           refine ci h1 U ?_ ?_ <;> clear h1
           ·intro b86 h1
            refine zr tb U U ?_
            replace h1:=Sh.AB h1
            subst o4
            try dsimp only[id] at h0
            replace h0:=Sh.AB h0
            subst r
            exact AJ (xr (An [(6,(i64 q82))] U))
           ·intro b86 h1
            exact AI (M4 () (Sh.AB h1).symm _ (An _ U))
          ·intro b79 h1
           exact AI (M4 () (Sh.AB h1).symm _ (An _ U))
         refine By (by kernel_rfl) (by kernel_rfl) (by rfl) ?_
         iterate 2 refine yq tb rfl ?_
         rcases Sh.Au h2 with ⟨b88,h2⟩ | ⟨b88,h2⟩
         ·refine yg tb b88 U (yg tb b88 U (Jz (v:=(IA p2)) (DF U U b88) rfl (Cq Ss U) (yg tb b88 U (yt b88 U (yq tb U ?_)))))
          rcases Sh.Au h2 with ⟨b89,h2⟩ | ⟨b89,h2⟩
          ·refine yg tb b89 U ?_
           iterate 3 refine yg tb b89 rfl ?_
           exact bs h2 fun c90 gc90 h2=>Jz (v:=(EI c90)) (DF U U b89) rfl (BM Bc U U gc90 (Ax _) rfl) (yg tb b89 U (bs h2 fun q91 gq91 h2=>Bk (v:=(i64 q91)) (DF U U b89) Li (hrec_spec_typeOf gq91) rfl U U (yg tb b89 U (yt b89 U (BR (M78 (decide (q91=0)) (Sh.AB h2).symm _ (AD U)))))))
          ·refine ys b89 U ?_
           iterate 7 refine ys b89 rfl ?_
           exact yf b89 U (BR (M78 false (Sh.AB h2).symm _ (AD U)))
         ·refine ys b88 U ?_
          iterate 3 refine ys b88 rfl ?_
          refine yf b88 U (yq tb U ?_)
          iterate 8 refine ys rfl rfl ?_
          exact yf U U (BR (M78 false (Sh.AB h2).symm _ (AD U)))
        ·intro b75 h1
         refine zr tb U U ?_
         refine ci h1 U ?_ ?_ <;> clear h1
         ·intro b93 h1
          refine sr U fun K94 hK94=>zm tb 3 U (bs h1 fun q95 gq95 h1=>zc fU (OW hrec_spec_typeOf gq95) rfl U U (zq tb U (dn hK94 U ?_)))
          replace h1:=Sh.AB h1
          subst o4
          try dsimp only[id] at h0
          replace h0:=Sh.AB h0
          subst r
          exact AJ (xr (An [(6,(i64 q95))] U))
         ·intro b93 h1
          refine AF fun K96 hK96=>bs h1 fun o98 h2 h1=>?_
          have M98 :∀(t97:Bool),o98=t97→∀s,Wk 0 s ⟨215,AP [(1,(ls eI p1)),(3,Ar),(5,Ay),(7,(.bool (decide (p2.num=0)))),(15,(i64 p2.op)),(164,(.bool t97))],[(KZ p0.decls p0.funcs),(KV p2.op p2.num p2.kids)]⟩→K96 s:=by
           intro t97 hq s hw
           subst o98
           try dsimp only at h1
           refine hK96 _ (AR hw ?_)
           refine ci h1 U ?_ ?_ <;> clear h1
           ·intro b99 h1
            refine sr U fun K100 hK100=>zm tb 3 U (bs h1 fun q101 gq101 h1=>zc eZ (Pb hrec_spec_typeOf gq101) rfl U U (zq tb U (dn hK100 U ?_)))
            replace h1:=Sh.AB h1
            subst o4
            try dsimp only[id] at h0
            replace h0:=Sh.AB h0
            subst r
            exact AJ (xr (An [(6,(i64 q101))] U))
           ·intro b99 h1
            refine zr tb U U ?_
            refine ci h1 U ?_ ?_ <;> clear h1
            ·intro b103 h1
             refine AF fun K104 hK104=>bs h1 fun o106 h2 h1=>?_
             have M106 :∀(t105:Bool),o106=t105→∀s,Wk 0 s ⟨215,AP [(1,(ls eI p1)),(3,Ar),(5,Ay),(179,(.bool t105))],[(KZ p0.decls p0.funcs),(KV p2.op p2.num p2.kids)]⟩→K104 s:=by
              intro t105 hq s hw
              subst o106
              try dsimp only at h1
              refine hK104 _ (AR hw ?_)
              refine ci h1 U ?_ ?_ <;> clear h1
              ·intro b107 h1
               refine AF fun K108 hK108=>?_
               refine By (by kernel_rfl) (by kernel_rfl) (by rfl) ?_
               iterate 4 refine yq tb rfl ?_
               refine bs h1 fun c109 gc109 h1=>yz (EI c109) (BM Bc U U gc109 (Ax _) rfl) rfl (yq tb U (bs h1 fun q110 gq110 h1=>Bk (v:=(i64 q110)) Ah Li (hrec_spec_typeOf gq110) rfl U U (yq tb U (BR (hK108 _ (AF fun K111 hK111=>bs h1 fun o113 h2 h1=>?_))))))
               have M113 :∀(t112:Bool),o113=t112→∀s,Wk 0 s ⟨215,AP [(3,Ar),(10,(i64 q110)),(207,(.bool t112))],[(KZ p0.decls p0.funcs)]⟩→K111 s:=by
                intro t112 hq s hw
                subst o113
                try dsimp only at h1
                refine hK111 _ (AR hw ?_)
                refine ci h1 U ?_ ?_ <;> clear h1
                ·intro b114 h1
                 refine sr U fun K115 hK115=>zm tb 4 U (bs h1 fun c116 gc116 h1=>zx DC gc116 U U U (zm tb 3 U (dn hK115 U ?_)))
                 replace h1:=Sh.AB h1
                 subst o4
                 try dsimp only[id] at h0
                 replace h0:=Sh.AB h0
                 subst r
                 exact AJ (xr (An [(6,(i64 c116.to))] U))
                ·intro b114 h1
                 exact AI (M4 () (Sh.AB h1).symm _ (An _ U))
               refine By (by kernel_rfl) (by kernel_rfl) (by rfl) ?_
               iterate 3 refine yq tb rfl ?_
               refine bs h2 fun q117 gq117 h2=>Bk (v:=(.bool q117)) Ah eO (QY gq117) rfl U U (yq tb U ?_)
               rcases Sh.Au h2 with ⟨b118,h2⟩ | ⟨b118,h2⟩
               ·refine yg tb b118 U ?_
                iterate 3 refine yg tb b118 rfl ?_
                refine bs h2 fun c119 gc119 h2=>Jz (v:=(EI c119)) (DF U U b118) rfl (BM Bc U U gc119 (Ax _) rfl) (yg tb b118 U (bs h2 fun q120 gq120 h2=>Bk (v:=(i64 q120)) (DF U U b118) Li (hrec_spec_typeOf gq120) rfl U U ?_))
                iterate 4 refine yg tb b118 rfl ?_
                refine bs h2 fun c121 gc121 h2=>Jz (v:=(.Bu (Ai c121) 0)) (DF U U b118) rfl (Ex DC U U gc121 U) ?_
                iterate 3 refine yg tb b118 rfl ?_
                refine yt b118 U ?_
                exact BR (M113 (decide (q120=c121.from_)) (Sh.AB h2).symm _ (Af [0] U (by decide) rfl U (.raw U U .nil) (.same U)))
               ·refine ys b118 U ?_
                iterate 14 refine ys b118 rfl ?_
                refine yf b118 U ?_
                exact BR (M113 false (Sh.AB h2).symm _ (Af [0] U (by decide) rfl U (.raw U U .nil) (.same U)))
              ·intro b107 h1
               exact AI (M4 () (Sh.AB h1).symm _ (An _ U))
             refine AK U (zm tb 2 U ?_)
             rcases Sh.Au h2 with ⟨b122,h2⟩ | ⟨b122,h2⟩
             ·exact zg tb b122 U (zg tb b122 U (BP (v:=(IA p2)) (DF U U b122) rfl (Cq Ss U) (zg tb b122 U (zt b122 U (AA (M106 (decide ((Sh.len p2.kids)=2)) (Sh.AB h2).symm _ (AD U)))))))
             ·refine zs b122 U ?_
              iterate 3 refine zs b122 rfl ?_
              exact zf b122 U (AA (M106 false (Sh.AB h2).symm _ (AD U)))
            ·intro b103 h1
             exact AI (M4 () (Sh.AB h1).symm _ (An _ U))
          refine zr tb U U ?_
          refine ci h2 U ?_ ?_ <;> clear h2
          ·intro b124 h2
           exact AI (M98 true (Sh.AB h2).symm _ (AT (L:=[(1,(ls eI p1)),(3,Ar),(5,Ay),(7,(.bool (decide (p2.num=0)))),(15,(i64 p2.op)),(164,(.bool true))]) ⟨.rfl,.rfl,.rfl,.rfl,.rfl,(.of (congrArg AV.bool b124)),trivial⟩))
          ·intro b124 h2
           exact AK U (zm tb 2 U (AA (M98 (decide (p2.op=10)) (Sh.AB h2).symm _ (AD U))))
   refine zr tb U U ?_
   refine ci h2 U ?_ ?_ <;> clear h2
   ·intro b126 h2
    exact AI (M28 true (Sh.AB h2).symm _ (AT (L:=[(1,(ls eI p1)),(3,Ar),(5,Ay),(7,(.bool (decide (p2.num=0)))),(15,(i64 p2.op)),(46,(.bool true))]) ⟨.rfl,.rfl,.rfl,.rfl,.rfl,(.of (congrArg AV.bool b126)),trivial⟩))
   ·intro b126 h2
    refine zr tb U U ?_
    refine ci h2 U ?_ ?_ <;> clear h2
    ·intro b128 h2
     exact AI (M28 true (Sh.AB h2).symm _ (AT (L:=[(1,(ls eI p1)),(3,Ar),(5,Ay),(7,(.bool (decide (p2.num=0)))),(15,(i64 p2.op)),(46,(.bool true))]) ⟨.rfl,.rfl,.rfl,.rfl,.rfl,(.of (congrArg AV.bool b128)),trivial⟩))
    ·intro b128 h2
     refine zr tb U U ?_
     refine ci h2 U ?_ ?_ <;> clear h2
     ·intro b130 h2
      exact AI (M28 true (Sh.AB h2).symm _ (AT (L:=[(1,(ls eI p1)),(3,Ar),(5,Ay),(7,(.bool (decide (p2.num=0)))),(15,(i64 p2.op)),(46,(.bool true))]) ⟨.rfl,.rfl,.rfl,.rfl,.rfl,(.of (congrArg AV.bool b130)),trivial⟩))
     ·intro b130 h2
      exact AK U (zm tb 2 U (AA (M28 (decide (p2.op=4)) (Sh.AB h2).symm _ (AD U))))

theorem PK {N:Nat} :∀(n:Nat),∀{p0:Aa} {p1:(List Int)} {p2:AG} {r:Int},B4 N n p0 p1 p2=some r→Ag Tryz.prog 46 (SQ p0 p1 p2) [] (fun v st=>v=(i64 r)∧st=[]):=by
 intro n
 induction n with
 | zero=>intro p0 p1 p2 r h0;cases h0
 | succ n ih=>
  intro p0 p1 p2 r h0
  rw[B4] at h0
  exact Pn (fun h=>ih h) h0
theorem Rn {N:Nat} :∀{p0:Aa} {p1:(List Int)} {p2:AG} {r:Int},Jy N p0 p1 p2=some r→Ag Tryz.prog 46 (SQ p0 p1 p2) [] (fun v st=>v=(i64 r)∧st=[]):=by
 intro p0 p1 p2 r h0
 exact PK N h0
theorem Mg {N:Nat} {p0:Aa} {r:Bool} (h0:Cc N p0=some r):Ag Tryz.prog 19 [(HM p0)] [] (fun v st=>v=(.bool r)∧st=[]):=by
 unfold Cc at h0
 refine ai Tryz.func19 U U U U (sr U fun K1 hK1=>BH (m:=0) Ah U U U U U (zq tb U (dn hK1 U (AF fun K2 hK2=>sr U fun K3 hK3=>zq tb U (bs h0 fun q4 gq4 h0=>zc eL (Oa gq4) rfl U U (zq tb U (dn hK3 U ?_)))))))
 refine ci h0 U ?_ ?_ <;> clear h0
 ·intro b5 h0
  have b6:q4=false:=by simpa using b5
  refine zr tb U U ?_
  replace h0:=Sh.AB h0
  subst r
  exact AJ (xr (An [(2,(.bool false))] U))
 ·intro b5 h0
  have b8:q4=true:=by simpa using b5
  refine AI (hK2 _ (AF fun K9 hK9=>zr tb U U ?_))
  obtain⟨o12,h1,h0⟩:=Sh.BF h0
  have M12 :∀(_:Unit),o12=Sum.inr ()→∀s,Wk 0 s ⟨45,AP [],[]⟩→K9 s:=by
   intro _ hq s hw
   subst o12
   try dsimp only at h0
   refine hK9 _ (AR hw (zr tb U U ?_))
   replace h0:=Sh.AB h0
   subst r
   exact AJ (xr (AT (L:=[(2,(.bool true))]) (.same U)))
  refine AU (As (σ:=Int) (fun n v=>Br N p0 n v=some o12) (fun i11=>⟨45,AP [(1,Ar),(3,(i64 i11))],[(KZ p0.decls p0.funcs)]⟩) N 0 h1 (AD U) (fun _ hv=>by rw[Br] at hv;cases hv) ?_)
  rintro n i11 h1
  try dsimp only at h1 ⊢
  rw[Br] at h1
  refine AF fun K14 hK14=>sr U fun K15 hK15=>zm tb 3 U (zl tb U U (zq tb U (dn hK15 U ?_)))
  refine ci h1 U ?_ ?_ <;> clear h1
  ·intro b16 h1
   refine AI (hK14 _ (AF fun K17 hK17=>AU (AF fun K18 hK18=>bs h1 fun o20 h2 h1=>?_)))
   have M20 :∀(t19:Bool),o20=t19→∀s,Wk 0 s ⟨45,AP [(1,Ar),(3,(i64 i11)),(44,(.bool t19))],[(KZ p0.decls p0.funcs)]⟩→K18 s:=by
    intro t19 hq s hw
    subst o20
    try dsimp only at h1
    refine hK18 _ (AR hw ?_)
    refine ci h1 U ?_ ?_ <;> clear h1
    ·intro b21 h1
     refine zr tb U U ?_
     replace h1:=Sh.AB h1
     subst o12
     try dsimp only[id] at h0
     replace h0:=Sh.AB h0
     subst r
     exact AJ (xr (An [(2,(.bool false))] U))
    ·intro b21 h1
     exact AI (hK17 _ (AK U (zm tb 3 U (AA (xi (Sh.w (i11+1)) h1 (AD U))))))
   refine By (by kernel_rfl) (by kernel_rfl) (by rfl) ?_
   iterate 3 refine yq tb rfl ?_
   refine bs h2 fun c23 gc23 h2=>yx CR gc23 U U U ?_
   iterate 2 refine yq tb rfl ?_
   refine bs h2 fun q24 gq24 h2=>Bk (v:=(i64 q24)) Ah cO (Ll gq24) rfl U U ?_
   iterate 2 refine yq tb rfl ?_
   rcases Sh.Au h2 with ⟨b25,h2⟩ | ⟨b25,h2⟩
   ·refine ys b25 U ?_
    iterate 20 refine ys b25 rfl ?_
    exact yt b25 U (BR (M20 true (Sh.AB h2).symm _ (AD U)))
   ·refine yg tb b25 U ?_
    iterate 3 refine yg tb b25 rfl ?_
    refine Jz (v:=(.Bu (A3 c23) 0)) (DF U U b25) rfl (Ex CR U U gc23 U) ?_
    iterate 5 refine yg tb b25 rfl ?_
    refine Jz (v:=(.Bu (A3 c23) 0)) (DF U U b25) rfl (Ex CR U U gc23 U) ?_
    iterate 2 refine yg tb b25 rfl ?_
    refine bs h2 fun q26 gq26 h2=>Bk (v:=(i64 q26)) (DF U U b25) Li (Rn gq26) rfl U U ?_
    iterate 3 refine yg tb b25 rfl ?_
    refine Jz (v:=(.Bu (A3 c23) 0)) (DF U U b25) rfl (Ex CR U U gc23 U) ?_
    iterate 3 refine yg tb b25 rfl ?_
    exact yf b25 U (BR (M20 (!decide (q26=c23.result)) (Sh.AB h2).symm _ (AD U)))
  ·intro b16 h1
   exact Aw (M12 () (Sh.AB h1).symm _ (An _ U))
theorem QR {N:Nat} {p0:Aa} {p1:AG} {p2:Int} {p3:Int} {r:Int} (h0:Hx N p0 p1 p2 p3=some r):Ag Tryz.prog 66 [(HM p0),(B5 p1),(i64 p2),(i64 p3)] [] (fun v st=>v=(i64 r)∧st=[]):=by
 unfold Hx at h0
 refine ai Tryz.func66 U U U U (sr U fun K1 hK1=>BH (m:=0) Ah U U U U U (BH (m:=1) Ah U U U U U (zq tb U (dn hK1 U (AF fun K2 hK2=>zr tb U U ?_)))))
 refine ci h0 U ?_ ?_ <;> clear h0
 ·intro b4 h0
  refine zr tb U U ?_
  replace h0:=Sh.AB h0
  subst r
  exact AJ (xr (An [(8,(i64 p3))] U))
 ·intro b4 h0
  refine AI (hK2 _ (AF fun K6 hK6=>zr tb U U ?_))
  refine ci h0 U ?_ ?_ <;> clear h0
  ·intro b8 h0
   refine zr tb U U ?_
   replace h0:=Sh.AB h0
   subst r
   exact AJ (xr (An [(8,(KL p3))] U))
  ·intro b8 h0
   refine AI (hK6 _ (AF fun K10 hK10=>zr tb U U ?_))
   refine ci h0 U ?_ ?_ <;> clear h0
   ·intro b12 h0
    refine AF fun K13 hK13=>?_
    refine Be 15 (by kernel_rfl) (by kernel_rfl) (by rfl) ?_
    iterate 7 refine yq tb rfl ?_
    refine bs h0 fun q14 gq14 h0=>?_
    refine Bk (v:=(ls eI q14)) Ah Zh (Ag.wk (MQ gq14) (by refine Wk.trans (Wk.Er (L:=[(0,(ls eI q14))]) (st':=Vs) (id:=0) rfl (show 0≤0 by decide) (AN fun _=>U) ⟨(.Er U),trivial⟩ U) ?_;exact Af [] U (by decide) rfl U .nil (.same U))) rfl U U ?_
    iterate 2 refine yq tb rfl ?_
    refine bs h0 fun c15 gc15 h0=>yx Bm gc15 U U U (yq tb U (bs h0 fun q16 gq16 h0=>Bk (v:=(ls eI q16)) Ah YO (Gd gq16) rfl U U (yl tb U U (yq tb U (BR (zq tb U (dn hK13 U ?_)))))))
    replace h0:=Sh.AB h0
    subst r
    exact AJ (xr (An [(8,(i64 (Sh.w (p3+(Sh.len q16)))))] U))
   ·intro b12 h0
    refine AI (hK10 _ (zr tb U U ?_))
    replace h0:=Sh.AB h0
    subst r
    exact AJ (xr (An [(8,(i64 p3))] U))
theorem KK {p0:Int} {r:Int} (h0:HG p0=some r):Ag Tryz.prog 134 [(i64 p0)] [] (fun v st=>v=(i64 r)∧st=[]):=by
 unfold HG at h0
 refine ai Tryz.func134 U U U U (zr tb U U (sr U fun K2 hK2=>zq tb U (zz (i64 (if p0 < 999 then p0 else 999)) (YK U U) rfl (zz (i64 (if (if p0 < 999 then p0 else 999) > (-999) then (if p0 < 999 then p0 else 999) else (-999))) (YD U U) rfl (zq tb U (dn hK2 U ?_))))))
 replace h0:=Sh.AB h0
 subst r
 exact AJ (xr (AT (L:=[(2,(i64 (if (if p0 < 999 then p0 else 999) > (-999) then (if p0 < 999 then p0 else 999) else (-999))))]) (.same U)))
theorem Tw {p0:Int} {p1:Int} {p2:Int} {r:Int} (h0:KG p0 p1 p2=some r):Ag Tryz.prog 111 [(i64 p0),(i64 p1),(i64 p2)] [] (fun v st=>v=(i64 r)∧st=[]):=by
 unfold KG at h0
 refine ai Tryz.func111 U U U U (zr tb U U (AF fun K2 hK2=>zr tb U U (AU (zr tb U U ?_))))
 refine ci h0 U ?_ ?_ <;> clear h0
 ·intro b5 h0
  refine sr U fun K6 hK6=>zm tb 3 U (bs h0 fun q7 gq7 h0=>zc XQ (KK gq7) rfl U U (zq tb U (dn hK6 U ?_)))
  replace h0:=Sh.AB h0
  subst r
  exact AJ (xr (AT (L:=[(6,(i64 q7))]) (.same U)))
 ·intro b5 h0
  refine zr tb U U ?_
  refine ci h0 U ?_ ?_ <;> clear h0
  ·intro b9 h0
   refine sr U fun K10 hK10=>zm tb 3 U (bs h0 fun q11 gq11 h0=>zc XQ (KK gq11) rfl U U (zq tb U (dn hK10 U ?_)))
   replace h0:=Sh.AB h0
   subst r
   exact AJ (xr (AT (L:=[(6,(i64 q11))]) (.same U)))
  ·intro b9 h0
   refine zr tb U U ?_
   refine ci h0 U ?_ ?_ <;> clear h0
   ·intro b13 h0
    refine sr U fun K14 hK14=>zm tb 3 U (bs h0 fun q15 gq15 h0=>zc XQ (KK gq15) rfl U U (zq tb U (dn hK14 U ?_)))
    replace h0:=Sh.AB h0
    subst r
    exact AJ (xr (AT (L:=[(6,(i64 q15))]) (.same U)))
   ·intro b13 h0
    refine AI (hK2 _ (AF fun K16 hK16=>AF fun K17 hK17=>bs h0 fun o19 h1 h0=>?_))
    have M19 :∀(t18:Bool),o19=t18→∀s,Wk 0 s ⟨33,AP [(32,(.bool t18))],[]⟩→K17 s:=by
     intro t18 hq s hw
     subst o19
     try dsimp only at h0
     refine hK17 _ (AR hw ?_)
     refine ci h0 U ?_ ?_ <;> clear h0
     ·intro b20 h0
      refine zr tb U U ?_
      replace h0:=Sh.AB h0
      subst r
      exact AJ (xr (AT (L:=[(6,(i64 1))]) (.same U)))
     ·intro b20 h0
      refine AI (hK16 _ (zr tb U U ?_))
      replace h0:=Sh.AB h0
      subst r
      exact AJ (xr (AT (L:=[(6,(i64 0))]) (.same U)))
    refine AK U (zm tb 3 U ?_)
    rcases Sh.Au h1 with ⟨b23,h1⟩ | ⟨b23,h1⟩
    ·exact zg tb b23 U (zg tb b23 U (zg tb b23 U (zt b23 U (AA (M19 (decide (p1 < p2)) (Sh.AB h1).symm _ (AD U))))))
    ·exact zs b23 U (zs b23 U (zs b23 U (zf b23 U (AA (M19 false (Sh.AB h1).symm _ (AD U))))))
theorem Pg {N:Nat} {rec_spec_shift:AG→Int→Int→Option (AG)} (hrec_spec_shift :∀{p0:AG} {p1:Int} {p2:Int} {r:AG},rec_spec_shift p0 p1 p2=some r→Ag Tryz.prog 76 (Uw p0 p1 p2) [] (fun v st=>v=(B5 r)∧st=[])) {p0:(List AG)} {p1:Int} {p2:Int} {r:(List AG)} (h0:Ih N rec_spec_shift p0 p1 p2=some r):Ag Tryz.prog 115 [(C4 p0),(i64 p1),(i64 p2)] [] (fun v st=>v=(ow 0 0 r)∧st=[(Pk r)]):=by
 unfold Ih at h0
 refine ai Tryz.func115 U U U U (zr tb U U (sr U fun K2 hK2=>?_))
 refine Cb (m:=0) (l:=([]:List AG)) (enc:=BS) Ah Bc (by decide) rfl U (by simp only[List.map,Ax];rfl) rfl U U ?_
 refine zq tb U (dn hK2 U (AF fun K3 hK3=>zr tb U U (bs h0 fun o8 h1 h0=>?_)))
 have M8 :∀(l7:(List AG)),o8=l7→∀s,Wk 0 s ⟨27,AP [(7,(ow 0 0 l7))],[(Pk l7)]⟩→K3 s:=by
  intro l7 hq s hw
  subst o8
  try dsimp only at h0
  refine hK3 _ (AR hw (zr tb U U ?_))
  replace h0:=Sh.AB h0
  subst r
  exact AJ (xr (AT (L:=[(6,(ow 0 0 l7))]) (.same U)))
 refine AU (As (σ:=Int×(List AG)) (fun n v=>DI p0 p1 p2 rec_spec_shift n v.1 v.2=some o8) (fun (i5,l6)=>⟨27,AP [(0,(C4 p0)),(1,(i64 p1)),(2,(i64 p2)),(7,(ow 0 0 l6)),(8,(i64 i5))],[(Pk l6)]⟩) N (0,[]) h1 (AD U) (fun _ hv=>by rw[DI] at hv;cases hv) ?_)
 rintro n ⟨i5,l6⟩ h1
 try dsimp only at h1 ⊢
 rw[DI] at h1
 refine AF fun K10 hK10=>sr U fun K11 hK11=>zm tb 2 U (zl tb U U (zq tb U (dn hK11 U ?_)))
 refine ci h1 U ?_ ?_ <;> clear h1
 ·intro b12 h1
  refine AI (hK10 _ (AF fun K13 hK13=>AU (AK U (zm tb 3 U (bs h1 fun c14 gc14 h1=>zz (EI c14) (BM Bc U U gc14 (Ax _) rfl) rfl (zm tb 3 U (bs h1 fun q15 gq15 h1=>zc (v':=(B5 q15)) cV (hrec_spec_shift gq15) rfl U U ?_)))))))
  refine Cb (m:=1) (l:=[q15]) (enc:=BS) Ah Bc (by decide) rfl U (by simp only[List.map,Ax];rfl) rfl U U ?_
  refine bs h1 fun l16 gl16 h1=>Fb (l2:=[q15]) Ah Bc U U U U (Jc U U PE) IE gl16 U (zq tb U (dn hK13 U (AK U (zm tb 3 U ?_))))
  exact AA (xi (Sh.w (i5+1),l16) h1 (by refine Wk.trans (Dx (L:=[(0,(C4 p0)),(1,(i64 p1)),(2,(i64 p2)),(7,(ow 0 0 l16)),(8,(KL i5))]) (st':=[(Pk l16),(ro 0 44 3 BS [q15])]) (.pure (AN Ci) (.pure (AN Ci) .nil)) (.same U)) ?_;exact Af [0] U (by decide) rfl U (.pure (AN Ci) .nil) (.same U)))
 ·intro b12 h1
  exact Aw (M8 l6 (Sh.AB h1).symm _ (AD U))
theorem Q0 {N:Nat} {rec_spec_shift:AG→Int→Int→Option (AG)} (hrec_spec_shift :∀{p0:AG} {p1:Int} {p2:Int} {r:AG},rec_spec_shift p0 p1 p2=some r→Ag Tryz.prog 76 (Uw p0 p1 p2) [] (fun v st=>v=(B5 r)∧st=[])) {p0:AG} {p1:Int} {p2:Int} {r:AG} (h0:JT N rec_spec_shift p0 p1 p2=some r):Ag Tryz.prog 76 (Uw p0 p1 p2) [] (fun v st=>v=(B5 r)∧st=[]):=by
 unfold JT at h0
 refine DX U (ai Tryz.func76 U U U U (sr U fun K1 hK1=>BH (m:=0) Ah U U U U U (A0 (m:=1) Ah Fz U U (dn hK1 U (zr tb U U (AF fun K3 hK3=>bs h0 fun o5 h1 h0=>?_))))))
 have M5 :∀(num4:Int),o5=num4→∀s,Wk 0 s ⟨30,AP [(1,(i64 p1)),(2,(i64 p2)),(3,Ar),(6,Ay),(7,(i64 num4))],[(KV p0.op p0.num p0.kids),QU]⟩→K3 s:=by
  intro num4 hq s hw
  subst o5
  try dsimp only at h0
  refine hK3 _ (AR hw (AF fun K6 hK6=>?_))
  refine Be 9 (by kernel_rfl) (by kernel_rfl) (by rfl) ?_
  iterate 7 refine yq tb rfl ?_
  refine bs h0 fun q7 gq7 h0=>?_
  refine Bk (v:=(C4 q7)) Ah dq (Ag.wk (Pg hrec_spec_shift gq7) (by refine Wk.trans (Wk.Er (L:=[(0,(C4 q7))]) (st':=[B3]) (id:=0) rfl (show 0≤0 by decide) (AN Ci) ⟨(.Er U),trivial⟩ U) ?_;exact Af [] U (by decide) rfl U .nil (.same U))) rfl U U ?_
  refine yz (.agg [(i64 p0.op),(i64 num4),(C4 q7)]) (FG RL RB Fz U U) rfl (BR (A1 Ah Bl U U U U U U (show 0+3≤3 by decide) rfl (dn hK6 U ?_)))
  replace h0:=Sh.AB h0
  subst r
  exact AJ (Exists.intro _ (And.intro (FC _ _) (BE (x:=.tmp 6) (off:=0) (cs:=[(i64 p0.op),(i64 num4),(C4 q7)]) (vs:=[(i64 p0.op),(i64 num4),(C4 q7)]) Bl U U U (show 0+3≤3 by decide) rfl _ U)))
 refine AF fun K8 hK8=>bs h1 fun o10 h2 h1=>?_
 have M10 :∀(t9:Bool),o10=t9→∀s,Wk 0 s ⟨30,AP [(1,(i64 p1)),(2,(i64 p2)),(3,Ar),(6,Ay),(7,(i64 p0.num)),(17,(.bool t9))],[(KV p0.op p0.num p0.kids),QU]⟩→K8 s:=by
  intro t9 hq s hw
  subst o10
  try dsimp only at h1
  refine hK8 _ (AR hw ?_)
  refine ci h1 U ?_ ?_ <;> clear h1
  ·intro b11 h1
   exact AK U (zm tb 4 U (AA (M5 (Sh.w (p0.num+p2)) (Sh.AB h1).symm _ (AD U))))
  ·intro b11 h1
   exact AI (M5 p0.num (Sh.AB h1).symm _ (AD U))
 refine AK U (zm tb 4 U ?_)
 rcases Sh.Au h2 with ⟨b12,h2⟩ | ⟨b12,h2⟩
 ·exact zg tb b12 U (zg tb b12 U (zg tb b12 U (zt b12 U (AA (M10 (decide (p1≤p0.num)) (Sh.AB h2).symm _ (AD U))))))
 ·exact zs b12 U (zs b12 U (zs b12 U (zf b12 U (AA (M10 false (Sh.AB h2).symm _ (AD U))))))

theorem Qs {N:Nat} :∀(n:Nat),∀{p0:AG} {p1:Int} {p2:Int} {r:AG},FM N n p0 p1 p2=some r→Ag Tryz.prog 76 (Uw p0 p1 p2) [] (fun v st=>v=(B5 r)∧st=[]):=by
 intro n
 induction n with
 | zero=>intro p0 p1 p2 r h0;cases h0
 | succ n ih=>
  intro p0 p1 p2 r h0
  rw[FM] at h0
  exact Q0 (fun h=>ih h) h0
theorem TO {N:Nat} :∀{p0:AG} {p1:Int} {p2:Int} {r:AG},Km N p0 p1 p2=some r→Ag Tryz.prog 76 (Uw p0 p1 p2) [] (fun v st=>v=(B5 r)∧st=[]):=by
 intro p0 p1 p2 r h0
 exact Qs N h0
theorem TZ {N:Nat} {p0:(List AG)} {p1:AG} {p2:Int} {r:AG} (h0:KQ N p0 p1 p2=some r):Ag Tryz.prog 75 [(C4 p0),(B5 p1),(i64 p2)] [] (fun v st=>v=(B5 r)∧st=[]):=by
 unfold KQ at h0
 refine DX U (ai Tryz.func75 U U U U (sr U fun K1 hK1=>BH (m:=0) Ah U U U U U (A0 (m:=1) Ah Fz U U (dn hK1 U (sr U fun K2 hK2=>zq tb U (A0 (m:=2) Ah Fz U U (A1 Ah Bl U U U U U U (show 0+3≤3 by decide) rfl (dn hK2 U (AF fun K3 hK3=>?_)))))))))
 refine sr U fun K4 hK4=>zq tb U (zl tb U U (zm tb 2 U (dn hK4 U (bs h0 fun o12 h1 h0=>?_))))
 have M12 :∀(f9:Int) (f10:Int) (f11:(List AG)),o12=(f9,f10,f11)→∀s,Wk 0 s ⟨28,AP [(6,Ar),(7,Ay)],[QU,(KV f9 f10 f11)]⟩→K3 s:=by
  intro f9 f10 f11 hq s hw
  subst o12
  try dsimp only at h0
  refine hK3 _ (AR hw (sr U fun K13 hK13=>zq tb U (A1 Ah Bl U U U U U U (show 0+3≤3 by decide) rfl (dn hK13 U ?_))))
  replace h0:=Sh.AB h0
  subst r
  exact AJ (Exists.intro _ (And.intro (FC _ _) (BE (x:=.tmp 6) (off:=0) (cs:=[(i64 f9),(i64 f10),(C4 f11)]) (vs:=[(i64 f9),(i64 f10),(C4 f11)]) Bl U U U (show 0+3≤3 by decide) rfl _ U)))
 refine AU (As (σ:=Int×Int×Int×(List AG)) (fun n v=>FO N p0 p2 n v.1 v.2.1 v.2.2.1 v.2.2.2=some o12) (fun (k5,f6,f7,f8)=>⟨28,AP [(0,(C4 p0)),(2,(i64 p2)),(6,Ar),(7,Ay),(8,(i64 k5))],[QU,(KV f6 f7 f8)]⟩) N (Sh.w ((Sh.len p0) - 1),p1.op,p1.num,p1.kids) h1 (Af [1,2] U (by decide) rfl U (.raw U U (.raw U U .nil)) (.same U)) (fun _ hv=>by rw[FO] at hv;cases hv) ?_)
 rintro n ⟨k5,f6,f7,f8⟩ h1
 try dsimp only at h1 ⊢
 rw[FO] at h1
 refine AF fun K14 hK14=>zr tb U U ?_
 refine ci h1 U ?_ ?_ <;> clear h1
 ·intro b16 h1
  refine AI (hK14 _ (AF fun K17 hK17=>AU ?_))
  refine Be 8 (by kernel_rfl) (by kernel_rfl) (by rfl) ?_
  iterate 2 refine yq tb rfl ?_
  refine bs h1 fun c18 gc18 h1=>yz (EI c18) (BM Bc U U gc18 (Ax _) rfl) rfl ?_
  iterate 3 refine yq tb rfl ?_
  refine bs h1 fun q19 gq19 h1=>Bk (v:=(B5 q19)) Ah cV (TO gq19) rfl U U (yq tb U (BR ?_))
  refine Cb (m:=2) (l:=[q19,(AG.mk f6 f7 f8)]) (enc:=BS) Ah Bc (by decide) rfl U (by simp only[List.map,Ax];rfl) rfl U U ?_
  refine zz (.agg [(i64 13),(i64 0),(ow 2 0 [q19,(AG.mk f6 f7 f8)])]) (FG RL RB Fz U U) rfl (Ak (Wk.Er (L:=[(0,(C4 p0)),(2,(i64 p2)),(6,Ar),(7,Ay),(8,(i64 k5)),(26,(.agg [(i64 13),(i64 0),(ls BS [q19,(AG.mk f6 f7 f8)])]))]) (st':=[QU,(KV f6 f7 f8),B3]) (id:=2) rfl (show 0≤2 by decide) (AN Ci) ⟨.rfl,.rfl,.rfl,.rfl,.rfl,(.agg ⟨.rfl,.rfl,(.Iu U),trivial⟩),trivial⟩ U) (A1 Ah Bl U U U U U U (show 0+3≤3 by decide) rfl (dn hK17 U (AK U (zm tb 3 U ?_)))))
  exact AA (xi (Sh.w (k5 - 1),13,0,[q19,(AG.mk f6 f7 f8)]) h1 (Af [0,1] U (by decide) rfl U (.raw U U (.raw U U .nil)) (.same U)))
 ·intro b16 h1
  exact Aw (M12 f6 f7 f8 (Sh.AB h1).symm _ (AD U))
theorem QB {N:Nat} {p0:Aa} {p1:AG} {p2:Int} {r:AG} (h0:GC N p0 p1 p2=some r):Ag Tryz.prog 67 [(HM p0),(B5 p1),(i64 p2)] [] (fun v st=>v=(B5 r)∧st=[]):=by
 unfold GC at h0
 refine DX U (ai Tryz.func67 U U U U (sr U fun K1 hK1=>BH (m:=0) Ah U U U U U (BH (m:=1) Ah U U U U U (A0 (m:=2) Ah Fz U U (dn hK1 U (AF fun K2 hK2=>?_))))))
 obtain⟨o3,h1,h0⟩:=Sh.BF h0
 have M3 :∀(_:Unit),o3=Sum.inr ()→∀s,Wk 0 s ⟨106,AP [(4,Ar),(6,Ay)],[(KV p1.op p1.num p1.kids),QU]⟩→K2 s:=by
  intro _ hq s hw
  subst o3
  try dsimp only at h0
  refine hK2 _ (AR hw (sr U fun K4 hK4=>zq tb U (A1 Ah Bl U U U U U U (show 0+3≤3 by decide) rfl (dn hK4 U ?_))))
  replace h0:=Sh.AB h0
  subst r
  exact AJ (Exists.intro _ (And.intro (FC _ _) (BE (x:=.tmp 6) (off:=0) (cs:=(Ri p1)) (vs:=(Ri p1)) Bl U U U (show 0+3≤3 by decide) rfl _ U)))
 refine zr tb U U (AU (AF fun K6 hK6=>bs h1 fun o8 h2 h1=>?_))
 have M8 :∀(t7:Bool),o8=t7→∀s,Wk 0 s ⟨106,AP [(2,(i64 p2)),(3,Ar),(4,Ay),(6,BK),(8,(i64 p1.op)),(9,(.bool t7))],[(KZ p0.decls p0.funcs),(KV p1.op p1.num p1.kids),QU]⟩→K6 s:=by
  intro t7 hq s hw
  subst o8
  try dsimp only at h1
  refine hK6 _ (AR hw ?_)
  refine ci h1 U ?_ ?_ <;> clear h1
  ·intro b9 h1
   refine AF fun K10 hK10=>bs h1 fun o12 h2 h1=>?_
   have M12 :∀(t11:Bool),o12=t11→∀s,Wk 0 s ⟨106,AP [(4,Ar),(6,Ay),(27,(.bool t11))],[(KV p1.op p1.num p1.kids),QU]⟩→K10 s:=by
    intro t11 hq s hw
    subst o12
    try dsimp only at h1
    refine hK10 _ (AR hw ?_)
    refine ci h1 U ?_ ?_ <;> clear h1
    ·intro b13 h1
     refine AF fun K14 hK14=>?_
     refine Be 15 (by kernel_rfl) (by kernel_rfl) (by rfl) ?_
     iterate 4 refine yq tb rfl ?_
     refine bs h1 fun c15 gc15 h1=>yz (EI c15) (BM Bc U U gc15 (Ax _) rfl) rfl ?_
     iterate 4 refine yq tb rfl ?_
     refine bs h1 fun c16 gc16 h1=>yz (EI c16) (BM Bc U U gc16 (Ax _) rfl) rfl ?_
     iterate 2 refine yq tb rfl ?_
     refine bs h1 fun q17 gq17 h1=>Bk (v:=(i64 q17)) Ah dj (Tw gq17) rfl U U ?_
     refine UG (l:=([]:List AG)) (enc:=BS) Ah Bc (by decide) rfl U U (by simp only[List.map,Ax];rfl) rfl (AN Ci) ?_
     refine yz (.agg [(i64 0),(i64 q17),(.sl (List.map BS []))]) (FG RL RB Fz U U) rfl (BR (A1 Ah Bl U U U U U U (show 0+3≤3 by decide) rfl (dn hK14 U ?_)))
     replace h1:=Sh.AB h1
     subst o3
     try dsimp only[id] at h0
     replace h0:=Sh.AB h0
     subst r
     exact AJ (Exists.intro _ (And.intro (FC _ _) (BE (x:=.tmp 6) (off:=0) (cs:=[(i64 0),(i64 q17),(.sl (List.map BS []))]) (vs:=[(i64 0),(i64 q17),(.sl (List.map BS []))]) Bl U U U (show 0+3≤3 by decide) rfl _ U)))
    ·intro b13 h1
     exact AI (M3 () (Sh.AB h1).symm _ (AD U))
   refine AK U (zm tb 2 U (bs h2 fun c18 gc18 h2=>zz (EI c18) (BM Bc U U gc18 (Ax _) rfl) rfl (zm tb 4 U ?_)))
   rcases Sh.Au h2 with ⟨b19,h2⟩ | ⟨b19,h2⟩
   ·refine zg tb b19 U (zg tb b19 U (bs h2 fun c20 gc20 h2=>BP (v:=(EI c20)) (DF U U b19) rfl (BM Bc U U gc20 (Ax _) rfl) ?_))
    iterate 3 refine zg tb b19 rfl ?_
    refine zt b19 U ?_
    exact AA (M12 (decide (c20.op=0)) (Sh.AB h2).symm _ (Af [1,2] U (by decide) rfl U (.raw U U (.raw U U .nil)) (.same U)))
   ·refine zs b19 U ?_
    iterate 5 refine zs b19 rfl ?_
    refine zf b19 U ?_
    exact AA (M12 false (Sh.AB h2).symm _ (Af [1,2] U (by decide) rfl U (.raw U U (.raw U U .nil)) (.same U)))
  ·intro b9 h1
   refine zr tb U U ?_
   refine ci h1 U ?_ ?_ <;> clear h1
   ·intro b22 h1
    refine AF fun K23 hK23=>AF fun K24 hK24=>bs h1 fun o26 h2 h1=>?_
    have M26 :∀(t25:Bool),o26=t25→∀s,Wk 0 s ⟨106,AP [(4,Ar),(6,Ay),(58,(.bool t25))],[(KV p1.op p1.num p1.kids),QU]⟩→K24 s:=by
     intro t25 hq s hw
     subst o26
     try dsimp only at h1
     refine hK24 _ (AR hw ?_)
     refine ci h1 U ?_ ?_ <;> clear h1
     ·intro b27 h1
      refine sr U fun K28 hK28=>zm tb 2 U (bs h1 fun c29 gc29 h1=>zz (EI c29) (BM Bc U U gc29 (Ax _) rfl) rfl (zq tb U (A1 Ah Bl U U U U U U (show 0+3≤3 by decide) rfl (dn hK28 U ?_))))
      replace h1:=Sh.AB h1
      subst o3
      try dsimp only[id] at h0
      replace h0:=Sh.AB h0
      subst r
      exact AJ (Exists.intro _ (And.intro (FC _ _) (BE (x:=.tmp 6) (off:=0) (cs:=(Ri c29)) (vs:=(Ri c29)) Bl U U U (show 0+3≤3 by decide) rfl _ U)))
     ·intro b27 h1
      refine AI (hK23 _ (sr U fun K30 hK30=>zm tb 2 U (bs h1 fun c31 gc31 h1=>zz (EI c31) (BM Bc U U gc31 (Ax _) rfl) rfl (zm tb 3 U (dn hK30 U ?_)))))
      refine ci h1 U ?_ ?_ <;> clear h1
      ·intro b32 h1
       refine sr U fun K33 hK33=>zm tb 2 U (bs h1 fun c34 gc34 h1=>zz (EI c34) (BM Bc U U gc34 (Ax _) rfl) rfl (zq tb U (A1 Ah Bl U U U U U U (show 0+3≤3 by decide) rfl (dn hK33 U ?_))))
       replace h1:=Sh.AB h1
       subst o3
       try dsimp only[id] at h0
       replace h0:=Sh.AB h0
       subst r
       exact AJ (Exists.intro _ (And.intro (FC _ _) (BE (x:=.tmp 6) (off:=0) (cs:=(Ri c34)) (vs:=(Ri c34)) Bl U U U (show 0+3≤3 by decide) rfl _ U)))
      ·intro b32 h1
       exact AI (M3 () (Sh.AB h1).symm _ (AD U))
    refine AK U (zm tb 2 U (bs h2 fun c35 gc35 h2=>zz (EI c35) (BM Bc U U gc35 (Ax _) rfl) rfl (zm tb 4 U ?_)))
    rcases Sh.Au h2 with ⟨b36,h2⟩ | ⟨b36,h2⟩
    ·refine zg tb b36 U (zg tb b36 U (BP (v:=(EI c35)) (DF U U b36) rfl (BM Bc U U gc35 (Ax _) rfl) ?_))
     iterate 3 refine zg tb b36 rfl ?_
     refine zt b36 U ?_
     exact AA (M26 (!decide (c35.num=0)) (Sh.AB h2).symm _ (Af [1,2] U (by decide) rfl U (.raw U U (.raw U U .nil)) (.same U)))
    ·refine zs b36 U ?_
     iterate 5 refine zs b36 rfl ?_
     refine zf b36 U ?_
     exact AA (M26 false (Sh.AB h2).symm _ (Af [1,2] U (by decide) rfl U (.raw U U (.raw U U .nil)) (.same U)))
   ·intro b22 h1
    refine zr tb U U ?_
    refine ci h1 U ?_ ?_ <;> clear h1
    ·intro b38 h1
     refine sr U fun K39 hK39=>zm tb 2 U (bs h1 fun c40 gc40 h1=>zz (EI c40) (BM Bc U U gc40 (Ax _) rfl) rfl (zm tb 3 U (dn hK39 U ?_)))
     refine ci h1 U ?_ ?_ <;> clear h1
     ·intro b41 h1
      refine AF fun K42 hK42=>?_
      refine Be 24 (by kernel_rfl) (by kernel_rfl) (by rfl) ?_
      iterate 2 refine yq tb rfl ?_
      refine yz (EI c40) (BM Bc U U gc40 (Ax _) rfl) rfl ?_
      iterate 6 refine yq tb rfl ?_
      refine yz (EI c40) (BM Bc U U gc40 (Ax _) rfl) rfl ?_
      iterate 8 refine yq tb rfl ?_
      refine bs h1 fun q43 gq43 h1=>Bk (v:=(i64 q43)) Ah VC (G5 gq43) rfl U U (yq tb U (bs h1 fun c44 gc44 h1=>yz (EI c44) (BM Bc U U gc44 (Ax _) rfl) rfl ?_))
      iterate 2 refine yq tb rfl ?_
      refine bs h1 fun q45 gq45 h1=>Bk (v:=(B5 q45)) Ah eF (TZ gq45) rfl U U (BR (A1 Ah Bl U U U U U U (show 0+3≤3 by decide) rfl (dn hK42 U ?_)))
      replace h1:=Sh.AB h1
      subst o3
      try dsimp only[id] at h0
      replace h0:=Sh.AB h0
      subst r
      exact AJ (Exists.intro _ (And.intro (FC _ _) (BE (x:=.tmp 6) (off:=0) (cs:=(Ri q45)) (vs:=(Ri q45)) Bl U U U (show 0+3≤3 by decide) rfl _ U)))
     ·intro b41 h1
      exact AI (M3 () (Sh.AB h1).symm _ (Af [1,2] U (by decide) rfl U (.raw U U (.raw U U .nil)) (.same U)))
    ·intro b38 h1
     exact AI (M3 () (Sh.AB h1).symm _ (Af [1,2] U (by decide) rfl U (.raw U U (.raw U U .nil)) (.same U)))
 refine zr tb U U ?_
 refine ci h2 U ?_ ?_ <;> clear h2
 ·intro b47 h2
  exact AI (M8 true (Sh.AB h2).symm _ (AT (L:=[(2,(i64 p2)),(3,Ar),(4,Ay),(6,BK),(8,(i64 p1.op)),(9,(.bool true))]) ⟨.rfl,.rfl,.rfl,.rfl,.rfl,(.of (congrArg AV.bool b47)),trivial⟩))
 ·intro b47 h2
  refine zr tb U U ?_
  refine ci h2 U ?_ ?_ <;> clear h2
  ·intro b49 h2
   exact AI (M8 true (Sh.AB h2).symm _ (AT (L:=[(2,(i64 p2)),(3,Ar),(4,Ay),(6,BK),(8,(i64 p1.op)),(9,(.bool true))]) ⟨.rfl,.rfl,.rfl,.rfl,.rfl,(.of (congrArg AV.bool b49)),trivial⟩))
  ·intro b49 h2
   refine zr tb U U ?_
   refine ci h2 U ?_ ?_ <;> clear h2
   ·intro b51 h2
    exact AI (M8 true (Sh.AB h2).symm _ (AT (L:=[(2,(i64 p2)),(3,Ar),(4,Ay),(6,BK),(8,(i64 p1.op)),(9,(.bool true))]) ⟨.rfl,.rfl,.rfl,.rfl,.rfl,(.of (congrArg AV.bool b51)),trivial⟩))
   ·intro b51 h2
    exact AK U (zm tb 2 U (AA (M8 (decide (p1.op=4)) (Sh.AB h2).symm _ (AD U))))
theorem Rh {N:Nat} {rec_spec_fold:Aa→AG→Int→Option (AG)} (hrec_spec_fold :∀{p0:Aa} {p1:AG} {p2:Int} {r:AG},rec_spec_fold p0 p1 p2=some r→Ag Tryz.prog 33 [(HM p0),(B5 p1),(i64 p2)] [] (fun v st=>v=(B5 r)∧st=[])) {p0:Aa} {p1:AG} {p2:Int} {r:AG} (h0:J5 N rec_spec_fold p0 p1 p2=some r):Ag Tryz.prog 33 [(HM p0),(B5 p1),(i64 p2)] [] (fun v st=>v=(B5 r)∧st=[]):=by
 unfold J5 at h0
 refine DX U (ai Tryz.func33 U U U U (sr U fun K1 hK1=>BH (m:=0) Ah U U U U U (BH (m:=1) Ah U U U U U (A0 (m:=2) Ah Fz U U (dn hK1 U (sr U fun K2 hK2=>?_))))))
 refine Cb (m:=3) (l:=([]:List AG)) (enc:=BS) Ah Bc (by decide) rfl U (by simp only[List.map,Ax];rfl) rfl U U ?_
 refine zq tb U (dn hK2 U (AF fun K3 hK3=>zr tb U U (bs h0 fun o8 h1 h0=>?_)))
 have M8 :∀(l7:(List AG)),o8=l7→∀s,Wk 0 s ⟨41,AP [(2,(i64 p2)),(3,Ar),(4,Ay),(6,BK),(7,(ow 3 0 l7))],[(KZ p0.decls p0.funcs),(KV p1.op p1.num p1.kids),QU,(Pk l7)]⟩→K3 s:=by
  intro l7 hq s hw
  subst o8
  try dsimp only at h0
  refine hK3 _ (AR hw (sr U fun K9 hK9=>zm tb 6 U (zz (.agg [(i64 p1.op),(i64 p1.num),(ow 3 0 l7)]) (FG RL RB Fz U U) rfl (zq tb U (Ak (Wk.Er (L:=[(6,BK),(32,(HM p0)),(38,(.agg [(i64 p1.op),(i64 p1.num),(C4 l7)])),(39,(i64 p2))]) (st':=[(KZ p0.decls p0.funcs),(KV p1.op p1.num p1.kids),QU,B3]) (id:=3) rfl (show 0≤3 by decide) (AN Ci) ⟨.rfl,.rfl,(.agg ⟨.rfl,.rfl,(.Iu U),trivial⟩),.rfl,trivial⟩ U) (bs h0 fun q10 gq10 h0=>zc (v':=(B5 q10)) fb (QB gq10) rfl U U (A1 Ah Bl U U U U U U (show 0+3≤3 by decide) rfl (dn hK9 U ?_))))))))
  replace h0:=Sh.AB h0
  subst r
  exact AJ (Exists.intro _ (And.intro (FC _ _) (BE (x:=.tmp 6) (off:=0) (cs:=(Ri q10)) (vs:=(Ri q10)) Bl U U U (show 0+3≤3 by decide) rfl _ U)))
 refine AU (As (σ:=Int×(List AG)) (fun n v=>D6 N p0 p1 p2 rec_spec_fold n v.1 v.2=some o8) (fun (k5,l6)=>⟨41,AP [(2,(i64 p2)),(3,Ar),(4,Ay),(6,BK),(7,(ow 3 0 l6)),(8,(i64 k5))],[(KZ p0.decls p0.funcs),(KV p1.op p1.num p1.kids),QU,(Pk l6)]⟩) N (0,[]) h1 (AD U) (fun _ hv=>by rw[D6] at hv;cases hv) ?_)
 rintro n ⟨k5,l6⟩ h1
 try dsimp only at h1 ⊢
 rw[D6] at h1
 refine AF fun K11 hK11=>sr U fun K12 hK12=>zm tb 3 U (zl tb U U (zq tb U (dn hK12 U ?_)))
 refine ci h1 U ?_ ?_ <;> clear h1
 ·intro b13 h1
  refine AI (hK11 _ (AF fun K14 hK14=>AU ?_))
  refine Be 14 (by kernel_rfl) (by kernel_rfl) (by rfl) ?_
  iterate 5 refine yq tb rfl ?_
  refine bs h1 fun c15 gc15 h1=>yz (EI c15) (BM Bc U U gc15 (Ax _) rfl) rfl ?_
  iterate 5 refine yq tb rfl ?_
  refine bs h1 fun q16 gq16 h1=>Bk (v:=(i64 q16)) Ah fG (QR gq16) rfl U U (bs h1 fun q17 gq17 h1=>Bk (v:=(B5 q17)) Ah cW (hrec_spec_fold gq17) rfl U U ?_)
  refine UG (l:=[q17]) (enc:=BS) Ah Bc (by decide) rfl U U (by simp only[List.map,Ax];rfl) rfl (AN Ci) ?_
  exact BR (bs h1 fun l18 gl18 h1=>Fb (l2:=[q17]) Ah Bc U U U U NN IE gl18 U (zq tb U (dn hK14 U (AK U (zm tb 3 U (AA (xi (Sh.w (k5+1),l18) h1 (Dx (L:=[(2,(i64 p2)),(3,Ar),(4,Ay),(6,BK),(7,(ow 3 0 l18)),(8,(KL k5))]) (st':=[(KZ p0.decls p0.funcs),(KV p1.op p1.num p1.kids),QU,(Pk l18)]) (.raw U U (.raw U U (.raw U U (.pure (AN Ci) .nil)))) (.same U)))))))))
 ·intro b13 h1
  exact Aw (M8 l6 (Sh.AB h1).symm _ (AD U))

theorem RQ {N:Nat} :∀(n:Nat),∀{p0:Aa} {p1:AG} {p2:Int} {r:AG},FI N n p0 p1 p2=some r→Ag Tryz.prog 33 [(HM p0),(B5 p1),(i64 p2)] [] (fun v st=>v=(B5 r)∧st=[]):=by
 intro n
 induction n with
 | zero=>intro p0 p1 p2 r h0;cases h0
 | succ n ih=>
  intro p0 p1 p2 r h0
  rw[FI] at h0
  exact Rh (fun h=>ih h) h0
theorem Tc {N:Nat} :∀{p0:Aa} {p1:AG} {p2:Int} {r:AG},Oi N p0 p1 p2=some r→Ag Tryz.prog 33 [(HM p0),(B5 p1),(i64 p2)] [] (fun v st=>v=(B5 r)∧st=[]):=by
 intro p0 p1 p2 r h0
 exact RQ N h0
end Go.Proofs.YtpahalfiiahddaaGreat

