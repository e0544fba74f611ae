import Derived.Test.YtpahalfiiahddaaGreatProg
import Derived.Test.YtpahalfiiahddaaGreatGAbsXToSSDefs
import Derived.Test.YtpahalfiiahddaaGreatGHADefsToKCDefs
import Derived.Test.YtpahalfiiahddaaGreatAbsQ
import Derived.Test.YtpahalfiiahddaaGreatCFWalk
namespace Go.Proofs.YtpahalfiiahddaaGreat
open Go Go.Abs RC
attribute [local irreducible] Go.Abs.Cp
set_option maxRecDepth 100000
noncomputable abbrev Kp (z0:List Ah) (z1:List Av):Go.Abs.Row:=⟨0,30,2,[[(ls Ad z0),(ls A5 z1)]]⟩
noncomputable abbrev Te (z0:Int) (z1:Int) (z2:List AK):Go.Abs.Row:=⟨0,44,3,[[(i64 z0),(i64 z1),(ls Bk z2)]]⟩
noncomputable abbrev NW (z0:Int):Go.Abs.Row:=⟨0,3,1,[[(i64 z0)]]⟩
noncomputable abbrev Og:Go.Abs.Row:=⟨0,30,2,[[.zc,.zc]]⟩
noncomputable abbrev Uq:Go.Abs.Row:=⟨0,119,2,[[.zc,.zc]]⟩
noncomputable abbrev Ii (z0:Int) (z1:Int) (z2:List AK):Go.Abs.Row:=⟨0,44,3,[[(i64 z0),(i64 z1),(ls Bk z2)]]⟩
noncomputable abbrev Oi:Go.Abs.Row:=⟨0,81,3,[[(i64 0),(i64 0),.zc]]⟩
noncomputable abbrev W9 (z0:List Ah) (z1:List Av):Go.Abs.Row:=⟨0,30,2,[[(ls Ad z0),(ls A5 z1)]]⟩
noncomputable abbrev HG:Go.Abs.Row:=⟨0,44,3,[[(i64 0),(i64 0),.zc]]⟩
noncomputable abbrev Ia:Go.Abs.Row:=⟨0,30,2,[[.zc,.zc]]⟩
noncomputable abbrev Tj (z0:Int) (z1:Int) (z2:List AK):Go.Abs.Row:=⟨0,44,3,[[(i64 z0),(i64 z1),(ls Bk z2)]]⟩
noncomputable abbrev E3:Go.Abs.Row:=⟨0,44,3,[[(i64 0),(i64 0),.zc]]⟩
noncomputable abbrev KG:Go.Abs.Row:=⟨0,44,3,[[(i64 0),(i64 0),.zc]]⟩
noncomputable abbrev CU:Go.Abs.Row:=⟨0,30,2,[[.zc,.zc]]⟩
noncomputable abbrev Pn (z0:List Ah) (z1:List Av):Go.Abs.Row:=⟨0,30,2,[[(ls Ad z0),(ls A5 z1)]]⟩
noncomputable abbrev SK (z0:List Ah) (z1:List Av):Go.Abs.Row:=⟨0,25,2,[[(ls Ad z0),(ls A5 z1)]]⟩
noncomputable abbrev KJ (z0:_) (z1:AK) (z2:AK):=(⟨0,44,3,Hr z0 (Ay 44) 0 [(i64 z1.op),(i64 z1.num),(ow 3 0 z1.kids)] 1 [(i64 z2.op),(i64 z2.num),(ow 4 0 z2.kids)]⟩:Row)
noncomputable abbrev BP (z0:AK):=((ro 0 44 3 (Ay 44) z0.kids):Row)
noncomputable abbrev PO (z0:_) (z1:AK) (z2:AK):=(⟨0,44,3,Hr z0 (Ay 44) 0 [(i64 z1.op),(i64 z1.num),(ow 4 0 z1.kids)] 1 [(i64 z2.op),(i64 z2.num),(ow 5 0 z2.kids)]⟩:Row)
noncomputable abbrev aM (z0:AK):=([(i64 z0.op),(i64 z0.num),(ls Bk z0.kids)]:List AV)
noncomputable abbrev B6:=(⟨1,44,3,[]⟩:Row)
noncomputable abbrev Hu (z0:AK):=([(i64 z0.op),(i64 z0.num),(ow 4 0 z0.kids)]:List AV)
noncomputable abbrev Ao:=((.ptr 1 0 0 0):AV)
noncomputable abbrev YR (z0:Ag):=([(ls Ad z0.decls),(ls A5 z0.funcs)]:List AV)
noncomputable abbrev Ax:=((.ptr 0 0 0 0):AV)
noncomputable abbrev B5 (z0:_) (z1:_) (z2:_):=([B6,E3,(KJ z0 z1 z2),(BP z1),(BP z2)]:List Row)
noncomputable abbrev Gy (z0:_) (z1:_) (z2:_) (z3:_) (z4:_):=([B6,E3,(KJ z0 z1 z2),(BP z1),(BP z2),⟨0,44,3,[[(i64 z3),(i64 z4),(ow 2 0 z0)]]⟩]:List Row)
noncomputable abbrev B0:=((.ptr 2 0 (Int.toNat 0) 0):AV)
noncomputable abbrev NS (z0:_) (z1:_) (z2:Av):=(⟨0,48,5,hole z0 (BK 3 44) z1 [(ow 4 0 z2.params),(i64 z2.result),(i64 z2.body.op),(i64 z2.body.num),(.dv 44 3 (List.map (Ay 44) z2.body.kids))]⟩:Row)
noncomputable abbrev II (z0:_) (z1:_) (z2:_) (z3:_) (z4:_):=([B6,E3,⟨0,44,3,[[(i64 z0),(i64 z1),(ow 3 0 z2)]]⟩,(PO z2 z3 z4),(BP z3),(BP z4)]:List Row)
noncomputable abbrev D5 (z0:_):=(⟨0,119,2,[(Gm z0)]⟩:Row)
noncomputable abbrev CV (z0:_):=((ro 0 48 5 (BK 3 44) z0):Row)
noncomputable abbrev NX (z0:_) (z1:_) (z2:Av):=(⟨0,48,5,hole z0 (BK 3 44) z1 [(ow 4 0 z2.params),(i64 z2.result),(i64 z2.body.op),(i64 z2.body.num),(ow 5 0 z2.body.kids)]⟩:Row)
noncomputable abbrev Dx (z0:_):=((ro 0 44 3 (Ay 44) z0):Row)
noncomputable abbrev Ht (z0:AK):=([(i64 z0.op),(i64 z0.num),(ow 5 0 z0.kids)]:List AV)
noncomputable abbrev JJ (z0:_) (z1:_) (z2:_):=([B6,E3,(KJ z0 z1 z2),(BP z1),(BP z2),⟨0,44,3,[(Hu z2)]⟩]:List Row)
noncomputable abbrev LV (z0:_) (z1:_) {α2:Type} (z2:List α2):=(⟨0,44,3,[[(i64 z0),(i64 z1),(ow 0 0 z2)]]⟩:Row)
noncomputable abbrev BT (z0:_):=((ro 0 3 1 eI z0):Row)
noncomputable abbrev Ei (z0:_):=((ro 0 81 3 (Ae 111 3) z0):Row)
noncomputable abbrev KK (z0:AK):=([(i64 z0.op),(i64 z0.num),(ow 1 0 z0.kids)]:List AV)
noncomputable abbrev EO (z0:_):=((.ptr 3 0 (Int.toNat z0) 0):AV)
noncomputable abbrev CD:=((.ptr 2 0 0 0):AV)
noncomputable abbrev FY:=((.ptr 2 0 (Int.toNat 1) 0):AV)
noncomputable abbrev I6 (z0:AK) (z1:_) {α2:Type} (z2:List α2):=(⟨0,44,3,[[(i64 z0.op),(i64 z1),(ow 1 0 z2)]]⟩:Row)
noncomputable abbrev Bx {α0:Type} (z0:List α0):=((i64 (Sh.len z0)):AV)
noncomputable abbrev BS (z0:_):=((ls Ad z0):AV)
noncomputable abbrev Uj (z0:_) (z1:_) (z2:Av):=(⟨0,48,5,hole z0 (BK 3 44) z1 [(.dv 3 1 (List.map eI z2.params)),(i64 z2.result),(i64 z2.body.op),(i64 z2.body.num),(ow 4 0 z2.body.kids)]⟩:Row)
noncomputable abbrev MW (z0:Av):=((.agg [(i64 z0.body.op),(i64 z0.body.num),(ow 4 0 z0.body.kids)]):AV)
noncomputable abbrev Q4 (z0:Av):=([(ls eI z0.params),(i64 z0.result),(i64 z0.body.op),(i64 z0.body.num),(ls Bk z0.body.kids)]:List AV)
noncomputable abbrev J8 (z0:AK):=([(i64 z0.op),(i64 z0.num),(ow 3 0 z0.kids)]:List AV)
noncomputable abbrev H3 (z0:Av):=((ro 0 44 3 (Ay 44) z0.body.kids):Row)
noncomputable abbrev G2:=((.ptr 2 0 (Int.toNat 0) 1):AV)
noncomputable abbrev JS {α0:Type} (z0:List α0) {α1:Type} (z1:List α1):=(⟨0,30,2,[[(ow 2 0 z0),(ow 3 0 z1)]]⟩:Row)
noncomputable abbrev Nz:=([(.sl (List.map Ad [])),(.sl (List.map A5 []))]:List AV)
noncomputable abbrev KI (z0:AK):=([(i64 z0.op),(i64 z0.num),(ow 0 0 z0.kids)]:List AV)
noncomputable abbrev DI (z0:_):=((.B1 (YR z0) 0):AV)
noncomputable abbrev Dr:=((.ptr 1 0 0 1):AV)
noncomputable abbrev B8 (z0:_):=((.agg (aM z0)):AV)
noncomputable abbrev VN (z0:_) (z1:_) {α2:Type} (z2:List α2):=(⟨0,44,3,[[(i64 z0),(i64 z1),(ow 3 0 z2)]]⟩:Row)
noncomputable abbrev FV (z0:_):=((.agg (Gm z0)):AV)
noncomputable abbrev D9:=((.ptr 2 0 0 2):AV)
noncomputable abbrev IZ:=((.ptr 2 0 (Int.toNat 0) 2):AV)
noncomputable abbrev Vm (z0:AK) (z1:_) (z2:_):=([B6,E3,(BP z0),⟨0,44,3,Hr z1 (Ay 44) 0 [(i64 z0.op),(i64 z0.num),(ow 2 0 z0.kids)] 1 (Hu z2)⟩,(BP z2)]:List Row)
noncomputable abbrev FC (z0:_):=((ro 0 44 3 Bk z0):Row)
noncomputable abbrev SJ (z0:Av):=((.agg [(i64 z0.body.op),(i64 z0.body.num),(ow 5 0 z0.body.kids)]):AV)
noncomputable abbrev OM (z0:_):=(⟨0,81,3,List.map (Ae 111 3) z0⟩:Row)
noncomputable abbrev Fj:=((.ptr 5 0 0 2):AV)
noncomputable abbrev ON (z0:_):=(⟨0,48,5,List.map (BK 3 44) z0⟩:Row)
noncomputable abbrev WI (z0:Av):=([(ow 5 0 z0.params),(i64 z0.result),(i64 z0.body.op),(i64 z0.body.num),(ow 4 0 z0.body.kids)]:List AV)
noncomputable abbrev Cx (z0:_):=((ls Bk z0):AV)
noncomputable abbrev Fq (z0:AK):=((ls Bk z0.kids):AV)
noncomputable abbrev FF (z0:_):=((.B1 (aM z0) 0):AV)
noncomputable abbrev WH:=([(.own 0 0 (List.length ([]:List Ah))),(.own 1 0 (List.length ([]:List Av)))]:List AV)
noncomputable abbrev N2 (z0:_) (z1:_) (z2:_):=([B6,E3,(PO z0 z1 z2),(BP z1),(BP z2)]:List Row)
noncomputable abbrev Hx (z0:AK):=((i64 (Sh.len z0.kids)):AV)
noncomputable abbrev Ov (z0:_) (z1:_) (z2:_):=(⟨0,44,3,hole z0 (Ay 44) z1 (KK z2)⟩:Row)
noncomputable abbrev NV (z0:Ag):=((ro 0 48 5 (BK 3 44) z0.funcs):Row)
noncomputable abbrev Mk:=((.ptr 3 0 (Int.toNat 1) 0):AV)
noncomputable abbrev Es (z0:_):=((.agg (Hu z0)):AV)
noncomputable abbrev Uy (z0:_) (z1:_) (z2:_) (z3:_) (z4:_):=([B6,E3,(VN z0 z1 z2),(PO z2 z3 z4),(BP z3),(BP z4),⟨0,44,3,[(Ht z4)]⟩]:List Row)
noncomputable abbrev Oj (z0:_) (z1:_):=((.Cm [(.agg (Ad z0)),(.bool z1)]):AV)
noncomputable abbrev SB (z0:_) (z1:_) (z2:_) (z3:_):=([B6,E3,(KJ z0 z1 z2),(ro 1 44 3 (Ay 44) z3),B6]:List Row)
noncomputable abbrev Rz (z0:_) (z1:_) {α2:Type} (z2:List α2):=(⟨0,44,3,[[(i64 z0),(i64 z1),(ow 2 0 z2)]]⟩:Row)
noncomputable abbrev TH:=((ro 0 48 5 (BK 3 44) ([]:List Av)):Row)
noncomputable abbrev Ie (z0:Ag):=((ls A5 z0.funcs):AV)
noncomputable abbrev Fs (z0:AK):=((ow 3 0 z0.kids):AV)
noncomputable abbrev KH (z0:_) (z1:_) (z2:_):=([(Dx z0),(LV z1 z2 z0),KG]:List Row)
noncomputable abbrev MK (z0:_):=((.ptr 0 0 (Int.toNat z0) 0):AV)
noncomputable abbrev N6 (z0:_):=([⟨0,81,3,[(Ad z0)]⟩]:List Row)
noncomputable abbrev Wm (z0:Av):=((.agg [(i64 z0.body.op),(i64 z0.body.num),(ls Bk z0.body.kids)]):AV)
noncomputable abbrev Wu (z0:_) (z1:_):=([(Ei z0),(CV z1),⟨0,30,2,[[(ow 0 0 z0),(ow 1 0 z1)]]⟩]:List Row)
noncomputable abbrev US:=((ro 0 81 3 (Ae 111 3) ([]:List Ah)):Row)
noncomputable abbrev FW (z0:_):=((ls (eS eI) z0):AV)
noncomputable abbrev MD (z0:_):=(⟨0,44,3,[(Hu z0)]⟩:Row)
noncomputable abbrev Tq (z0:_) (z1:_) (z2:_) (z3:_) (z4:_):=([B6,E3,(PO z0 z1 z2),(BP z1),(BP z2),(VN z3 z4 z0)]:List Row)
noncomputable abbrev YP (z0:Av):=([(ow 4 0 z0.params),(i64 z0.result),(i64 z0.body.op),(i64 z0.body.num),(ow 5 0 z0.body.kids)]:List AV)
noncomputable abbrev Z6 (z0:AK) (z1:_) (z2:_) (z3:_) (z4:_):=([B6,E3,(BP z0),⟨0,44,3,[[(i64 z1),(i64 z2),(ow 4 0 z3)]]⟩,⟨0,44,3,Hr z3 (Ay 44) 0 [(i64 z0.op),(i64 z0.num),(ow 2 0 z0.kids)] 1 (Ht z4)⟩,(BP z4)]:List Row)
noncomputable abbrev Jg:=((.ptr 3 0 0 0):AV)
noncomputable abbrev Kn (z0:_):=((i64 (Sh.w (z0+1))):AV)
noncomputable abbrev TS:=([(.sl (List.map Ad [])),.zc]:List AV)
noncomputable abbrev Gn (z0:_):=((.agg (YR z0)):AV)
noncomputable abbrev YY (z0:Av):=([(ow 0 0 z0.params),(i64 z0.result),(i64 z0.body.op),(i64 z0.body.num),(ow 1 0 z0.body.kids)]:List AV)
noncomputable abbrev VM:=((.own 0 0 (List.length ([]:List Int))):AV)
noncomputable abbrev WV (z0:AK):=((.agg [(i64 z0.op),(i64 z0.num),(ow 6 0 z0.kids)]):AV)
noncomputable abbrev PX (z0:_):=((.ptr 3 0 (Int.toNat z0) 2):AV)
noncomputable abbrev SD:=((.ptr 1 0 (Int.toNat 0) 0):AV)
noncomputable abbrev SG:=((.ptr 1 0 (Int.toNat 1) 0):AV)
noncomputable abbrev R3:=((.ptr 3 0 (Int.toNat 0) 0):AV)
noncomputable abbrev S9 (z0:_) (z1:AK):=([(D5 z0),(Te z1.op z1.num z1.kids)]:List Row)
noncomputable abbrev Xz (z0:_) (z1:_) (z2:_):=([B6,E3,(PO z0 z1 z2),(BP z1),(BP z2),⟨0,44,3,[(Ht z2)]⟩]:List Row)
noncomputable abbrev Uh (z0:_) (z1:_) (z2:AK):=([(BT z0),(D5 z1),(Ii z2.op z2.num z2.kids)]:List Row)
noncomputable abbrev Wd:=((.own 3 0 (List.length ([]:List Av))):AV)
set_option maxHeartbeats 4000000

def tb:Kg Tryz.prog where
 t:=[(111,true,1),(114,false,1),(116,true,3),(119,true,2),(135,true,1),(22,false,1),(23,false,1),(25,true,2),(27,false,1),(28,false,1),(3,false,1),(30,true,2),(42,false,1),(44,true,3),(46,false,1),(48,true,5),(65,false,1),(67,true,3),(69,false,1),(71,true,3),(73,true,5),(79,false,1),(81,true,3)]
 f:=[(111,0,0),(116,0,0),(116,1,1),(116,2,2),(119,0,0),(119,1,1),(135,0,0),(25,0,0),(25,1,1),(30,0,0),(30,1,1),(44,0,0),(44,1,1),(44,2,2),(48,0,0),(48,1,1),(48,2,2),(67,0,0),(67,1,1),(67,2,2),(71,0,0),(71,1,1),(71,2,2),(73,0,0),(73,1,1),(73,2,2),(81,0,0),(81,1,1),(81,2,2)]
 v:=[]
 b:=[4]
 s:=[114,141,22,23,27,28,42,46,65,69,79]
 ht:=by kernel_rfl
 hf:=by kernel_rfl
 hv:=by kernel_rfl
 hb:=by kernel_rfl
 hs:=by kernel_rfl

noncomputable abbrev MJ (z0:List Ah) (z1:List Av):Go.Abs.Row:=⟨0,30,2,[[(ls Ad z0),(ls A5 z1)]]⟩
noncomputable abbrev Hs:Go.Abs.Row:=⟨0,44,3,[[(i64 0),(i64 0),.zc]]⟩
noncomputable abbrev OA (z0:Int) (z1:Int) (z2:List AK):Go.Abs.Row:=⟨0,44,3,[[(i64 z0),(i64 z1),(ls Bk z2)]]⟩
theorem UE:Hb Tryz.prog 44=true:=by kernel_rfl
theorem T3:I7 Tryz.prog 44=some [(0,1),(1,1),(2,1)]:=by kernel_rfl
theorem Y7:CM Tryz.prog 22=some ⟨67,3,40,[.int .i64 0,.int .i64 0,.sl []]⟩:=by kernel_rfl
theorem ZE:CM Tryz.prog 23=some ⟨73,5,72,[.sl [],.int .i64 0,.int .i64 0,.int .i64 0,.sl []]⟩:=by kernel_rfl
theorem DA:CM Tryz.prog 27=some ⟨81,3,40,[.int .i64 0,.int .i64 0,.sl []]⟩:=by kernel_rfl
theorem CQ:CM Tryz.prog 28=some ⟨48,5,72,[.sl [],.int .i64 0,.int .i64 0,.int .i64 0,.sl []]⟩:=by kernel_rfl
theorem A2:CM Tryz.prog 42=some ⟨44,3,40,[.int .i64 0,.int .i64 0,.sl []]⟩:=by kernel_rfl
theorem Bu:CM Tryz.prog 46=some ⟨3,1,8,[.int .i64 0]⟩:=by kernel_rfl
theorem Yw:CM Tryz.prog 65=some ⟨135,1,24,[.sl []]⟩:=by kernel_rfl
theorem Y4:CM Tryz.prog 69=some ⟨71,3,40,[.int .i64 0,.int .i64 0,.sl []]⟩:=by kernel_rfl
theorem H0:CM Tryz.prog 79=some ⟨111,1,24,[.sl []]⟩:=by kernel_rfl
theorem Zr:As Tryz.prog 110=true:=by kernel_rfl
theorem Uv:As Tryz.prog 112=true:=by kernel_rfl
theorem Z8:As Tryz.prog 119=true:=by kernel_rfl
theorem Zx:As Tryz.prog 120=true:=by kernel_rfl
theorem Zv:As Tryz.prog 121=true:=by kernel_rfl
theorem Zi:As Tryz.prog 122=true:=by kernel_rfl
theorem Zw:As Tryz.prog 123=true:=by kernel_rfl
theorem ZV:As Tryz.prog 124=true:=by kernel_rfl
theorem aQ:As Tryz.prog 17=true:=by kernel_rfl
theorem ao:As Tryz.prog 18=true:=by kernel_rfl
theorem Y2:As Tryz.prog 20=true:=by kernel_rfl
theorem ab:As Tryz.prog 22=true:=by kernel_rfl
theorem bB:As Tryz.prog 23=true:=by kernel_rfl
theorem aw:As Tryz.prog 42=true:=by kernel_rfl
theorem bM:As Tryz.prog 43=true:=by kernel_rfl
theorem az:As Tryz.prog 44=true:=by kernel_rfl
theorem Yt:As Tryz.prog 45=true:=by kernel_rfl
theorem LP:As Tryz.prog 46=true:=by kernel_rfl
theorem Sp:As Tryz.prog 47=true:=by kernel_rfl
theorem W4:As Tryz.prog 49=true:=by kernel_rfl
theorem Y1:As Tryz.prog 50=true:=by kernel_rfl
theorem bA:As Tryz.prog 51=true:=by kernel_rfl
theorem bI:As Tryz.prog 52=true:=by kernel_rfl
theorem MU:As Tryz.prog 71=true:=by kernel_rfl
theorem an:As Tryz.prog 81=true:=by kernel_rfl
theorem Yu:As Tryz.prog 82=true:=by kernel_rfl
theorem Yz:As Tryz.prog 83=true:=by kernel_rfl
theorem bQ:As Tryz.prog 84=true:=by kernel_rfl
theorem ZI:As Tryz.prog 85=true:=by kernel_rfl
theorem ZG:As Tryz.prog 86=true:=by kernel_rfl
theorem Y0:As Tryz.prog 87=true:=by kernel_rfl
theorem Xs:As Tryz.prog 88=true:=by kernel_rfl
theorem Xp:As Tryz.prog 89=true:=by kernel_rfl
theorem Xn:As Tryz.prog 90=true:=by kernel_rfl
theorem XY:As Tryz.prog 91=true:=by kernel_rfl
theorem bH:As Tryz.prog 92=true:=by kernel_rfl
theorem aK:As Tryz.prog 93=true:=by kernel_rfl
theorem ax:As Tryz.prog 94=true:=by kernel_rfl
theorem aX:As Tryz.prog 95=true:=by kernel_rfl
theorem Y5:As Tryz.prog 96=true:=by kernel_rfl
theorem Yv:As Tryz.prog 97=true:=by kernel_rfl
theorem OS:Cu Tryz.prog 27=true:=by kernel_rfl
theorem Xb:Cu Tryz.prog 28=true:=by kernel_rfl
theorem RR:Cu Tryz.prog 42=true:=by kernel_rfl
theorem FU:Cu Tryz.prog 46=true:=by kernel_rfl
theorem Nc:Cu Tryz.prog 79=true:=by kernel_rfl
theorem Iw:DG Tryz.prog 111=some (true,1):=by kernel_rfl
theorem Yx:DG Tryz.prog 27=some (false,1):=by kernel_rfl
theorem Xk:DG Tryz.prog 28=some (false,1):=by kernel_rfl
theorem Em:DG Tryz.prog 3=some (false,1):=by kernel_rfl
theorem FE:DG Tryz.prog 30=some (true,2):=by kernel_rfl
theorem Ez:DG Tryz.prog 42=some (false,1):=by kernel_rfl
theorem Bz:DG Tryz.prog 44=some (true,3):=by kernel_rfl
theorem HM:DG Tryz.prog 46=some (false,1):=by kernel_rfl
theorem O9:DG Tryz.prog 48=some (true,5):=by kernel_rfl
theorem Nn:DG Tryz.prog 79=some (false,1):=by kernel_rfl
theorem Im:DG Tryz.prog 81=some (true,3):=by kernel_rfl
theorem Ki:HP Tryz.prog 111=some [.zc]:=by kernel_rfl
theorem HK:HP Tryz.prog 30=some [.zc,.zc]:=by kernel_rfl
theorem Ik:HP Tryz.prog 44=some [.int .i64 0,.int .i64 0,.zc]:=by kernel_rfl
theorem Mu:HP Tryz.prog 48=some [.zc,.int .i64 0,.int .i64 0,.int .i64 0,.zc]:=by kernel_rfl
theorem GI:HP Tryz.prog 81=some [.int .i64 0,.int .i64 0,.zc]:=by kernel_rfl

theorem L6 {p0:(List Int)} {p1:Int} {r:Int} (h0:HD p0 p1=some r):Ak Tryz.prog 82 [(ls eI p0),(i64 p1)] [] (fun v st=>v=(i64 r)∧st=[]):=by
 unfold HD at h0
 refine ai Tryz.func82 U U U U (zr tb U U (sr U fun K2 hK2=>zm tb 2 U (zl tb U U (zm tb 2 U (dn hK2 U (AJ fun K3 hK3=>zr tb U U ?_))))))
 refine ci h0 U ?_ ?_ <;> clear h0
 ·intro b5 h0
  refine zr tb U U ?_
  replace h0:=Sh.AE h0
  subst r
  exact AP (xr (Ab (L:=[(4,(i64 (-1)))]) (.same U)))
 ·intro b5 h0
  refine AN (hK3 _ (zr tb U U ?_))
  replace h0:=Sh.AE h0
  subst r
  exact AP (xr (Ab (L:=[(4,(i64 (Sh.w (p1 - (Sh.len p0)))))]) (.same U)))
theorem Q1 {p0:Ba} {p1:Int} {r:Int} (h0:JO p0 p1=some r):Ak Tryz.prog 119 [(.agg (At p0)),(i64 p1)] [] (fun v st=>v=(i64 r)∧st=[]):=by
 unfold JO at h0
 refine ai Tryz.func119 U U U U (sr U fun K1 hK1=>BY (m:=0) Aj U U U U U (zq tb U (dn hK1 U (sr U fun K2 hK2=>zm tb 3 U (bs h0 fun q3 gq3 h0=>zc Yu (L6 gq3) rfl U U (zq tb U (dn hK2 U (AJ fun K4 hK4=>?_))))))))
 refine zr tb U U ?_
 refine ci h0 U ?_ ?_ <;> clear h0
 ·intro b6 h0
  refine zr tb U U ?_
  replace h0:=Sh.AE h0
  subst r
  exact AP (xr (Aq [(4,(i64 (-1)))] U))
 ·intro b6 h0
  refine AN (hK4 _ (zr tb U U ?_))
  replace h0:=Sh.AE h0
  subst r
  exact AP (xr (Aq [(4,(i64 q3))] U))
theorem QZ {N:Nat} {p0:(List Ba)} {p1:Int} {r:Int} (h0:IL N p0 p1=some r):Ak Tryz.prog 81 [(ls At p0),(i64 p1)] [] (fun v st=>v=(i64 r)∧st=[]):=by
 unfold IL at h0
 refine ai Tryz.func81 U U U U (zr tb U U (sr U fun K2 hK2=>zm tb 2 U (zl tb U U (zm tb 2 U (dn hK2 U (AJ fun K3 hK3=>zr tb U U ?_))))))
 refine ci h0 U ?_ ?_ <;> clear h0
 ·intro b5 h0
  refine zr tb U U ?_
  replace h0:=Sh.AE h0
  subst r
  exact AP (xr (Ab (L:=[(4,(i64 (-1)))]) (.same U)))
 ·intro b5 h0
  refine AN (hK3 _ (AJ fun K7 hK7=>zr tb U U ?_))
  obtain⟨o12,h1,h0⟩:=Sh.BN h0
  have M12 :∀(left11:Int),o12=Sum.inr left11→∀s,Wk 0 s ⟨27,AM [(1,(i64 left11))],[]⟩→K7 s:=by
   intro left11 hq s hw
   subst o12
   try dsimp only at h0
   refine hK7 _ (Aa hw (zr tb U U ?_))
   replace h0:=Sh.AE h0
   subst r
   exact AP (xr (Ab (L:=[(4,(i64 left11))]) (.same U)))
  refine Ac (Aw (σ:=Int×Int) (fun n v=>EY p0 n v.1 v.2=some o12) (fun (left9,i10)=>⟨27,AM [(0,(ls At p0)),(1,(i64 left9)),(5,(i64 i10))],[]⟩) N (Sh.w (p1 - (Sh.len p0)),0) h1 (AB U) (fun _ hv=>by rw[EY] at hv;cases hv) ?_)
  rintro n ⟨left9,i10⟩ h1
  try dsimp only at h1 ⊢
  rw[EY] at h1
  refine AJ fun K14 hK14=>sr U fun K15 hK15=>zm tb 2 U (zl tb U U (zq tb U (dn hK15 U ?_)))
  refine ci h1 U ?_ ?_ <;> clear h1
  ·intro b16 h1
   refine AN (hK14 _ (AJ fun K17 hK17=>Ac (sr U fun K18 hK18=>zm tb 2 U (bs h1 fun c19 gc19 h1=>zx Yw gc19 U U U (zm tb 2 U (bs h1 fun q20 gq20 h1=>zc Z8 (Q1 gq20) rfl U U (zq tb U (dn hK18 U ?_))))))))
   refine zr tb U U ?_
   refine ci h1 U ?_ ?_ <;> clear h1
   ·intro b22 h1
    refine zr tb U U ?_
    replace h1:=Sh.AE h1
    subst o12
    try dsimp only[id] at h0
    replace h0:=Sh.AE h0
    subst r
    exact AP (xr (Ab (L:=[(4,(i64 (-1)))]) (.same U)))
   ·intro b22 h1
    exact AN (hK17 _ (AR U (zm tb 3 U (AA (xi (q20,Sh.w (i10+1)) h1 (AB U))))))
  ·intro b16 h1
   exact A0 (M12 left9 (Sh.AE h1).symm _ (AB U))
theorem QI {N:Nat} {p0:Ah} {p1:Int} {r:Int} (h0:IT N p0 p1=some r):Ak Tryz.prog 42 [(.agg (Ad p0)),(i64 p1)] [] (fun v st=>v=(i64 r)∧st=[]):=by
 unfold IT at h0
 refine ai Tryz.func42 U U U U (sr U fun K1 hK1=>BY (m:=0) Aj U U U U U (zq tb U (dn hK1 U (sr U fun K2 hK2=>zm tb 3 U (bs h0 fun q3 gq3 h0=>zc an (QZ gq3) rfl U U (zq tb U (dn hK2 U (AJ fun K4 hK4=>?_))))))))
 refine zr tb U U ?_
 refine ci h0 U ?_ ?_ <;> clear h0
 ·intro b6 h0
  refine zr tb U U ?_
  replace h0:=Sh.AE h0
  subst r
  exact AP (xr (Aq [(4,(i64 (-1)))] U))
 ·intro b6 h0
  refine AN (hK4 _ (zr tb U U ?_))
  replace h0:=Sh.AE h0
  subst r
  exact AP (xr (Aq [(4,(i64 q3))] U))
theorem Pg {N:Nat} {p0:(List Ah)} {p1:Int} {r:Int} (h0:He N p0 p1=some r):Ak Tryz.prog 17 [(BS p0),(i64 p1)] [] (fun v st=>v=(i64 r)∧st=[]):=by
 unfold He at h0
 refine ai Tryz.func17 U U U U (zr tb U U (sr U fun K2 hK2=>zm tb 2 U (zl tb U U (zm tb 2 U (dn hK2 U (AJ fun K3 hK3=>zr tb U U ?_))))))
 refine ci h0 U ?_ ?_ <;> clear h0
 ·intro b5 h0
  refine zr tb U U ?_
  replace h0:=Sh.AE h0
  subst r
  exact AP (xr (Ab (L:=[(4,(i64 (-1)))]) (.same U)))
 ·intro b5 h0
  refine AN (hK3 _ (AJ fun K7 hK7=>zr tb U U ?_))
  obtain⟨o12,h1,h0⟩:=Sh.BN h0
  have M12 :∀(left11:Int),o12=Sum.inr left11→∀s,Wk 0 s ⟨27,AM [(1,(i64 left11))],[]⟩→K7 s:=by
   intro left11 hq s hw
   subst o12
   try dsimp only at h0
   refine hK7 _ (Aa hw (zr tb U U ?_))
   replace h0:=Sh.AE h0
   subst r
   exact AP (xr (Ab (L:=[(4,(i64 left11))]) (.same U)))
  refine Ac (Aw (σ:=Int×Int) (fun n v=>EH N p0 n v.1 v.2=some o12) (fun (left9,i10)=>⟨27,AM [(0,(BS p0)),(1,(i64 left9)),(5,(i64 i10))],[]⟩) N (Sh.w (p1 - (Sh.len p0)),0) h1 (AB U) (fun _ hv=>by rw[EH] at hv;cases hv) ?_)
  rintro n ⟨left9,i10⟩ h1
  try dsimp only at h1 ⊢
  rw[EH] at h1
  refine AJ fun K14 hK14=>sr U fun K15 hK15=>zm tb 2 U (zl tb U U (zq tb U (dn hK15 U ?_)))
  refine ci h1 U ?_ ?_ <;> clear h1
  ·intro b16 h1
   refine AN (hK14 _ (AJ fun K17 hK17=>Ac (sr U fun K18 hK18=>zm tb 2 U (bs h1 fun c19 gc19 h1=>zx Y7 gc19 U U U (zm tb 2 U (bs h1 fun q20 gq20 h1=>zc aw (QI gq20) rfl U U (zq tb U (dn hK18 U ?_))))))))
   refine zr tb U U ?_
   refine ci h1 U ?_ ?_ <;> clear h1
   ·intro b22 h1
    refine zr tb U U ?_
    replace h1:=Sh.AE h1
    subst o12
    try dsimp only[id] at h0
    replace h0:=Sh.AE h0
    subst r
    exact AP (xr (Ab (L:=[(4,(i64 (-1)))]) (.same U)))
   ·intro b22 h1
    exact AN (hK17 _ (AR U (zm tb 3 U (AA (xi (q20,Sh.w (i10+1)) h1 (AB U))))))
  ·intro b16 h1
   exact A0 (M12 left9 (Sh.AE h1).symm _ (AB U))
theorem Pf {N:Nat} {rec_laws_szExpr:AK→Int→Option (Int)} (hrec_laws_szExpr :∀{p0:AK} {p1:Int} {r:Int},rec_laws_szExpr p0 p1=some r→Ak Tryz.prog 83 [(B8 p0),(i64 p1)] [] (fun v st=>v=(i64 r)∧st=[])) {p0:(List AK)} {p1:Int} {r:Int} (h0:Hc N rec_laws_szExpr p0 p1=some r):Ak Tryz.prog 120 [(Cx p0),(i64 p1)] [] (fun v st=>v=(i64 r)∧st=[]):=by
 unfold Hc at h0
 refine ai Tryz.func120 U U U U (zr tb U U (sr U fun K2 hK2=>zm tb 2 U (zl tb U U (zm tb 2 U (dn hK2 U (AJ fun K3 hK3=>zr tb U U ?_))))))
 refine ci h0 U ?_ ?_ <;> clear h0
 ·intro b5 h0
  refine zr tb U U ?_
  replace h0:=Sh.AE h0
  subst r
  exact AP (xr (Ab (L:=[(4,(i64 (-1)))]) (.same U)))
 ·intro b5 h0
  refine AN (hK3 _ (AJ fun K7 hK7=>zr tb U U ?_))
  obtain⟨o12,h1,h0⟩:=Sh.BN h0
  have M12 :∀(left11:Int),o12=Sum.inr left11→∀s,Wk 0 s ⟨27,AM [(1,(i64 left11))],[]⟩→K7 s:=by
   intro left11 hq s hw
   subst o12
   try dsimp only at h0
   refine hK7 _ (Aa hw (zr tb U U ?_))
   replace h0:=Sh.AE h0
   subst r
   exact AP (xr (Ab (L:=[(4,(i64 left11))]) (.same U)))
  refine Ac (Aw (σ:=Int×Int) (fun n v=>Dc p0 rec_laws_szExpr n v.1 v.2=some o12) (fun (left9,i10)=>⟨27,AM [(0,(Cx p0)),(1,(i64 left9)),(5,(i64 i10))],[]⟩) N (Sh.w (p1 - (Sh.len p0)),0) h1 (AB U) (fun _ hv=>by rw[Dc] at hv;cases hv) ?_)
  rintro n ⟨left9,i10⟩ h1
  try dsimp only at h1 ⊢
  rw[Dc] at h1
  refine AJ fun K14 hK14=>sr U fun K15 hK15=>zm tb 2 U (zl tb U U (zq tb U (dn hK15 U ?_)))
  refine ci h1 U ?_ ?_ <;> clear h1
  ·intro b16 h1
   refine AN (hK14 _ (AJ fun K17 hK17=>Ac (sr U fun K18 hK18=>zm tb 2 U (bs h1 fun c19 gc19 h1=>zz (FF c19) (Bq Y4 U U gc19 (A4 _) rfl) rfl (zm tb 2 U (bs h1 fun q20 gq20 h1=>zc Yz (hrec_laws_szExpr gq20) rfl U U (zq tb U (dn hK18 U ?_))))))))
   refine zr tb U U ?_
   refine ci h1 U ?_ ?_ <;> clear h1
   ·intro b22 h1
    refine zr tb U U ?_
    replace h1:=Sh.AE h1
    subst o12
    try dsimp only[id] at h0
    replace h0:=Sh.AE h0
    subst r
    exact AP (xr (Ab (L:=[(4,(i64 (-1)))]) (.same U)))
   ·intro b22 h1
    exact AN (hK17 _ (AR U (zm tb 3 U (AA (xi (q20,Sh.w (i10+1)) h1 (AB U))))))
  ·intro b16 h1
   exact A0 (M12 left9 (Sh.AE h1).symm _ (AB U))
theorem PD {N:Nat} {rec_laws_szExpr:AK→Int→Option (Int)} (hrec_laws_szExpr :∀{p0:AK} {p1:Int} {r:Int},rec_laws_szExpr p0 p1=some r→Ak Tryz.prog 83 [(B8 p0),(i64 p1)] [] (fun v st=>v=(i64 r)∧st=[])) {p0:AK} {p1:Int} {r:Int} (h0:H5 N rec_laws_szExpr p0 p1=some r):Ak Tryz.prog 83 [(B8 p0),(i64 p1)] [] (fun v st=>v=(i64 r)∧st=[]):=by
 unfold H5 at h0
 refine ai Tryz.func83 U U U U (sr U fun K1 hK1=>BY (m:=0) Aj U U U U U (zq tb U (dn hK1 U (sr U fun K2 hK2=>zm tb 3 U (bs h0 fun q3 gq3 h0=>zc Zx (Pf hrec_laws_szExpr gq3) rfl U U (zq tb U (dn hK2 U (AJ fun K4 hK4=>?_))))))))
 refine zr tb U U ?_
 refine ci h0 U ?_ ?_ <;> clear h0
 ·intro b6 h0
  refine zr tb U U ?_
  replace h0:=Sh.AE h0
  subst r
  exact AP (xr (Aq [(4,(i64 (-1)))] U))
 ·intro b6 h0
  refine AN (hK4 _ (zr tb U U ?_))
  replace h0:=Sh.AE h0
  subst r
  exact AP (xr (Aq [(4,(i64 q3))] U))

theorem Ow {N:Nat} :∀(n:Nat),∀{p0:AK} {p1:Int} {r:Int},GB N n p0 p1=some r→Ak Tryz.prog 83 [(B8 p0),(i64 p1)] [] (fun v st=>v=(i64 r)∧st=[]):=by
 intro n
 induction n with
 | zero=>intro p0 p1 r h0;cases h0
 | succ n ih=>
  intro p0 p1 r h0
  rw[GB] at h0
  exact PD (fun h=>ih h) h0
theorem QK {N:Nat} :∀{p0:AK} {p1:Int} {r:Int},Ji N p0 p1=some r→Ak Tryz.prog 83 [(B8 p0),(i64 p1)] [] (fun v st=>v=(i64 r)∧st=[]):=by
 intro p0 p1 r h0
 exact Ow N h0
theorem QV {N:Nat} {p0:Av} {p1:Int} {r:Int} (h0:Ih N p0 p1=some r):Ak Tryz.prog 43 [(.agg (Q4 p0)),(i64 p1)] [] (fun v st=>v=(i64 r)∧st=[]):=by
 unfold Ih at h0
 refine ai Tryz.func43 U U U U (sr U fun K1 hK1=>BY (m:=0) Aj U U U U U (zq tb U (dn hK1 U (sr U fun K2 hK2=>zm tb 3 U (bs h0 fun q3 gq3 h0=>zc Yu (L6 gq3) rfl U U (zq tb U (dn hK2 U (AJ fun K4 hK4=>?_))))))))
 refine zr tb U U ?_
 refine ci h0 U ?_ ?_ <;> clear h0
 ·intro b6 h0
  refine zr tb U U ?_
  replace h0:=Sh.AE h0
  subst r
  exact AP (xr (Aq [(4,(i64 (-1)))] U))
 ·intro b6 h0
  refine AN (hK4 _ (sr U fun K8 hK8=>zm tb 3 U (bs h0 fun q9 gq9 h0=>zc Yz (QK gq9) rfl U U (zq tb U (dn hK8 U (AJ fun K10 hK10=>zr tb U U ?_))))))
  refine ci h0 U ?_ ?_ <;> clear h0
  ·intro b12 h0
   refine zr tb U U ?_
   replace h0:=Sh.AE h0
   subst r
   exact AP (xr (Aq [(4,(i64 (-1)))] U))
  ·intro b12 h0
   refine AN (hK10 _ (zr tb U U ?_))
   replace h0:=Sh.AE h0
   subst r
   exact AP (xr (Aq [(4,(i64 q9))] U))
theorem PV {N:Nat} {p0:(List Av)} {p1:Int} {r:Int} (h0:Hf N p0 p1=some r):Ak Tryz.prog 18 [(ls A5 p0),(i64 p1)] [] (fun v st=>v=(i64 r)∧st=[]):=by
 unfold Hf at h0
 refine ai Tryz.func18 U U U U (zr tb U U (sr U fun K2 hK2=>zm tb 2 U (zl tb U U (zm tb 2 U (dn hK2 U (AJ fun K3 hK3=>zr tb U U ?_))))))
 refine ci h0 U ?_ ?_ <;> clear h0
 ·intro b5 h0
  refine zr tb U U ?_
  replace h0:=Sh.AE h0
  subst r
  exact AP (xr (Ab (L:=[(4,(i64 (-1)))]) (.same U)))
 ·intro b5 h0
  refine AN (hK3 _ (AJ fun K7 hK7=>zr tb U U ?_))
  obtain⟨o12,h1,h0⟩:=Sh.BN h0
  have M12 :∀(left11:Int),o12=Sum.inr left11→∀s,Wk 0 s ⟨27,AM [(1,(i64 left11))],[]⟩→K7 s:=by
   intro left11 hq s hw
   subst o12
   try dsimp only at h0
   refine hK7 _ (Aa hw (zr tb U U ?_))
   replace h0:=Sh.AE h0
   subst r
   exact AP (xr (Ab (L:=[(4,(i64 left11))]) (.same U)))
  refine Ac (Aw (σ:=Int×Int) (fun n v=>EJ N p0 n v.1 v.2=some o12) (fun (left9,i10)=>⟨27,AM [(0,(ls A5 p0)),(1,(i64 left9)),(5,(i64 i10))],[]⟩) N (Sh.w (p1 - (Sh.len p0)),0) h1 (AB U) (fun _ hv=>by rw[EJ] at hv;cases hv) ?_)
  rintro n ⟨left9,i10⟩ h1
  try dsimp only at h1 ⊢
  rw[EJ] at h1
  refine AJ fun K14 hK14=>sr U fun K15 hK15=>zm tb 2 U (zl tb U U (zq tb U (dn hK15 U ?_)))
  refine ci h1 U ?_ ?_ <;> clear h1
  ·intro b16 h1
   refine AN (hK14 _ (AJ fun K17 hK17=>Ac (sr U fun K18 hK18=>zm tb 2 U (bs h1 fun c19 gc19 h1=>zx ZE gc19 U U U (zm tb 2 U (bs h1 fun q20 gq20 h1=>zc bM (QV gq20) rfl U U (zq tb U (dn hK18 U ?_))))))))
   refine zr tb U U ?_
   refine ci h1 U ?_ ?_ <;> clear h1
   ·intro b22 h1
    refine zr tb U U ?_
    replace h1:=Sh.AE h1
    subst o12
    try dsimp only[id] at h0
    replace h0:=Sh.AE h0
    subst r
    exact AP (xr (Ab (L:=[(4,(i64 (-1)))]) (.same U)))
   ·intro b22 h1
    exact AN (hK17 _ (AR U (zm tb 3 U (AA (xi (q20,Sh.w (i10+1)) h1 (AB U))))))
  ·intro b16 h1
   exact A0 (M12 left9 (Sh.AE h1).symm _ (AB U))
theorem OD {N:Nat} {p0:Ag} {p1:Int} {r:Int} (h0:Gh N p0 p1=some r):Ak Tryz.prog 6 [(Gn p0),(i64 p1)] [] (fun v st=>v=(i64 r)∧st=[]):=by
 unfold Gh at h0
 refine ai Tryz.func6 U U U U (sr U fun K1 hK1=>BY (m:=0) Aj U U U U U (zq tb U (dn hK1 U (sr U fun K2 hK2=>zm tb 3 U (bs h0 fun q3 gq3 h0=>zc aQ (Pg gq3) rfl U U (zq tb U (dn hK2 U (AJ fun K4 hK4=>?_))))))))
 refine zr tb U U ?_
 refine ci h0 U ?_ ?_ <;> clear h0
 ·intro b6 h0
  refine zr tb U U ?_
  replace h0:=Sh.AE h0
  subst r
  exact AP (xr (Aq [(4,(i64 (-1)))] U))
 ·intro b6 h0
  refine AN (hK4 _ (sr U fun K8 hK8=>zm tb 3 U (bs h0 fun q9 gq9 h0=>zc ao (PV gq9) rfl U U (zq tb U (dn hK8 U (AJ fun K10 hK10=>zr tb U U ?_))))))
  refine ci h0 U ?_ ?_ <;> clear h0
  ·intro b12 h0
   refine zr tb U U ?_
   replace h0:=Sh.AE h0
   subst r
   exact AP (xr (Aq [(4,(i64 (-1)))] U))
  ·intro b12 h0
   refine AN (hK10 _ (zr tb U U ?_))
   replace h0:=Sh.AE h0
   subst r
   exact AP (xr (Aq [(4,(i64 q9))] U))
theorem Lx {N:Nat} {p0:(List Int)} {r:(List Int)} (h0:HC N p0=some r):Ak Tryz.prog 96 [(ls eI p0)] [] (fun v st=>v=(ow 0 0 r)∧st=[(BT r)]):=by
 unfold HC at h0
 refine ai Tryz.func96 U U U U (zr tb U U (sr U fun K2 hK2=>zq tb U (zl tb U U (bs h0 fun l3 gl3 h0=>Rh (m:=0) (enc:=eI) (u:=0) Aj Bu U U U gl3 U U (zq tb U (dn hK2 U (AJ fun K4 hK4=>zr tb U U (bs h0 fun o9 h1 h0=>?_))))))))
 have M9 :∀(l8:(List Int)),o9=l8→∀s,Wk 0 s ⟨22,AM [(3,(ow 0 0 l8))],[(BT l8)]⟩→K4 s:=by
  intro l8 hq s hw
  subst o9
  try dsimp only at h0
  refine hK4 _ (Aa hw (zr tb U U ?_))
  replace h0:=Sh.AE h0
  subst r
  exact AP (xr (Ab (L:=[(2,(ow 0 0 l8))]) (.same U)))
 refine Ac (Aw (σ:=Int×(List Int)) (fun n v=>Dz p0 n v.1 v.2=some o9) (fun (i6,l7)=>⟨22,AM [(0,(ls eI p0)),(3,(ow 0 0 l7)),(4,(i64 i6))],[(BT l7)]⟩) N (0,l3) h1 (AB U) (fun _ hv=>by rw[Dz] at hv;cases hv) ?_)
 rintro n ⟨i6,l7⟩ h1
 try dsimp only at h1 ⊢
 rw[Dz] at h1
 refine AJ fun K11 hK11=>sr U fun K12 hK12=>zm tb 2 U (zl tb U U (zq tb U (dn hK12 U ?_)))
 refine ci h1 U ?_ ?_ <;> clear h1
 ·intro b13 h1
  refine AN (hK11 _ (AJ fun K14 hK14=>Ac (AR U (zm tb 4 U (bs h1 fun c15 gc15 h1=>zx Bu gc15 U U U (zq tb U (bs h1 fun c16 gc16 h1=>zz (MK i6) (BZ Bu U U U U gc16) rfl (IF (u':=c15) Aj Em U U gc16 U U U (show 0+1≤1 by decide) rfl U (dn hK14 U ?_)))))))))
  refine AR U (zm tb 3 U ?_)
  exact AA (xi (Sh.w (i6+1),Sh.put l7 i6 c15) h1 (Ab (L:=[(0,(.sl (List.map eI p0))),(3,(.own 0 0 (List.length (Sh.put l7 i6 c15)))),(4,(i64 (Sh.w (i6+1))))]) ⟨.rfl,(.len (by simp only[Sh.BF])),.rfl,trivial⟩))
 ·intro b13 h1
  exact A0 (M9 l7 (Sh.AE h1).symm _ (AB U))
theorem Rt {N:Nat} {p0:Ba} {r:Ba} (h0:JG N p0=some r):Ak Tryz.prog 123 [(.agg (At p0))] [] (fun v st=>v=(.agg [(ow 0 0 r.fields)])∧st=[(ro 0 3 1 eI r.fields)]):=by
 unfold JG at h0
 refine Ak.wk (r0:=(.agg [(ow 0 0 r.fields)])) (st0:=[(ro 0 3 1 eI r.fields),⟨0,111,1,[[(ow 0 0 r.fields)]]⟩]) ?_ (FD (L:=[(0,(.agg [(ow 0 0 r.fields)]))]) (st':=[(ro 0 3 1 eI r.fields)]) [0] U (by decide) rfl U (.pure (AS fun _=>U) trivial) (.same U))
 refine ai Tryz.func123 U U U U (sr U fun K1 hK1=>BY (m:=0) Aj U U U U U (A7 (m:=1) Aj Ki U U (dn hK1 U (sr U fun K2 hK2=>A7 (m:=2) Aj Ki U U (dn hK2 U (sr U fun K3 hK3=>zm tb 2 U (bs h0 fun q4 gq4 h0=>BW (v':=(ow 3 0 q4)) Aj Y5 (Lx gq4) rfl U ⟨(Br fun _=>U),trivial⟩ U U ?_)))))))
 refine zq tb U (BI Aj HM U U U U U U (show 0+1≤1 by decide) rfl (dn hK3 U (sr U fun K5 hK5=>zq tb U (BI Aj Iw U U U U U U (show 0+1≤1 by decide) rfl (dn hK5 U ?_)))))
 replace h0:=Sh.AE h0
 subst r
 exact AP (Exists.intro _ (And.intro ((BM (L:=[(2,Ao)]) (st':=[(BT q4),⟨0,111,1,[[(ow 0 0 q4)]]⟩]) (st1:=[(BT q4),⟨0,111,1,[[(ow 3 0 q4)]]⟩]) [3,1] U .nil (by decide) rfl U (.pure (AS fun _=>U) (.raw U U .nil)) (.same U)).trans (Ab (L:=[(2,Ao)]) (.same U))) (A8 (x:=.tmp 2) (off:=0) (cs:=[(ow 0 0 q4)]) (vs:=[(ow 0 0 q4)]) Iw U U U (show 0+1≤1 by decide) rfl _ ⟨U,U⟩)))
theorem QR {N:Nat} {p0:(List Ba)} {r:(List Ba)} (h0:IJ N p0=some r):Ak Tryz.prog 95 [(ls At p0)] [] (fun v st=>v=(ow 0 0 r)∧st=[(ro 0 111 1 (BR 3) r)]):=by
 unfold IJ at h0
 refine ai Tryz.func95 U U U U (zr tb U U (sr U fun K2 hK2=>zq tb U (zl tb U U (bs h0 fun l3 gl3 h0=>NG (m:=0) (st':=[(ro 0 111 1 (BR 3) l3)]) (enc:=(BR 3)) (u:=(Ba.mk [])) H0 U U ⟨.inr ⟨U,_,_,U,by decide⟩,trivial⟩ gl3 U U (zq tb U (dn hK2 U (AJ fun K4 hK4=>zr tb U U (bs h0 fun o9 h1 h0=>?_))))))))
 have M9 :∀(l8:(List Ba)),o9=l8→∀s,Wk 0 s ⟨23,AM [(3,(ow 0 0 l8))],[(ro 0 111 1 (BR 3) l8)]⟩→K4 s:=by
  intro l8 hq s hw
  subst o9
  try dsimp only at h0
  refine hK4 _ (Aa hw (zr tb U U ?_))
  replace h0:=Sh.AE h0
  subst r
  exact AP (xr (Ab (L:=[(2,(ow 0 0 l8))]) (.same U)))
 refine Ac (Aw (σ:=Int×(List Ba)) (fun n v=>Ee N p0 n v.1 v.2=some o9) (fun (i6,l7)=>⟨23,AM [(0,(ls At p0)),(3,(ow 0 0 l7)),(4,(i64 i6))],[(ro 0 111 1 (BR 3) l7)]⟩) N (0,l3) h1 (AB U) (fun _ hv=>by rw[Ee] at hv;cases hv) ?_)
 rintro n ⟨i6,l7⟩ h1
 try dsimp only at h1 ⊢
 rw[Ee] at h1
 refine AJ fun K11 hK11=>sr U fun K12 hK12=>zm tb 2 U (zl tb U U (zq tb U (dn hK12 U ?_)))
 refine ci h1 U ?_ ?_ <;> clear h1
 ·intro b13 h1
  refine AN (hK11 _ (AJ fun K14 hK14=>Ac (AR U (zm tb 4 U (bs h1 fun c15 gc15 h1=>zx Yw gc15 U U U (zq tb U (bs h1 fun q16 gq16 h1=>BW (v':=(.agg [(ow 1 0 q16.fields)])) Aj Zw (Rt gq16) rfl U ⟨(Br fun _=>U),trivial⟩ U U (bs h1 fun c17 gc17 h1=>zz (MK i6) (BZ H0 U U U U gc17) rfl ?_))))))))
  refine Qk (st':=[⟨0,111,1,hole l7 (BR 3) i6 [(ow 1 0 q16.fields)]⟩,(ro 0 3 1 eI q16.fields)]) Aj Iw U U gc17 U U U (show 1≤1 by decide) rfl U ?_
  refine Al (Wk.take (id:=0) (m:=1) (j:=0) (i:=i6) (c:=c17) (ys:=q16.fields) (encY:=eI) rfl gc17 U U U (by decide) (show 0≤1 by decide) (fun _=>U) rfl U) ?_
  refine Al (EV (id:=0) (i:=i6) (u:=q16) rfl U U) (dn hK14 U (AR U (zm tb 3 U ?_)))
  exact AA (xi (Sh.w (i6+1),Sh.put l7 i6 q16) h1 (by refine Wk.trans (Ai (L:=[(0,(.sl (List.map At p0))),(3,(.own 0 0 (List.length l7))),(4,(i64 (Sh.w (i6+1))))]) (st':=[⟨0,111,1,List.map (BR 3) (Sh.put l7 i6 q16)⟩]) [0] U (by decide) rfl U (.deep (AG fun _=>U) .nil) ⟨.rfl,.rfl,.rfl,trivial⟩) ?_;exact Ab (L:=[(0,(.sl (List.map At p0))),(3,(.own 0 0 (List.length (Sh.put l7 i6 q16)))),(4,(i64 (Sh.w (i6+1))))]) ⟨.rfl,(.len (by simp only[Sh.BF])),.rfl,trivial⟩))
 ·intro b13 h1
  exact A0 (M9 l7 (Sh.AE h1).symm _ (AB U))
theorem QG {N:Nat} {p0:Ah} {r:Ah} (h0:IG N p0=some r):Ak Tryz.prog 51 [(.agg (Ad p0))] [] (fun v st=>v=(.agg [(i64 r.from_),(i64 r.to),(ow 0 0 r.cons)])∧st=[(ro 0 111 1 (BR 3) r.cons)]):=by
 unfold IG at h0
 refine Ak.wk (r0:=(.agg [(i64 r.from_),(i64 r.to),(ow 0 0 r.cons)])) (st0:=[(ro 0 111 1 (BR 3) r.cons),⟨0,81,3,[[(i64 r.from_),(i64 r.to),(ow 0 0 r.cons)]]⟩]) ?_ (FD (L:=[(0,(.agg [(i64 r.from_),(i64 r.to),(ow 0 0 r.cons)]))]) (st':=[(ro 0 111 1 (BR 3) r.cons)]) [0] U (by decide) rfl U (.deep (AG fun _=>U) trivial) (.same U))
 refine ai Tryz.func51 U U U U (sr U fun K1 hK1=>BY (m:=0) Aj U U U U U (A7 (m:=1) Aj GI U U (dn hK1 U (sr U fun K2 hK2=>A7 (m:=2) Aj GI U U (dn hK2 U (sr U fun K3 hK3=>zm tb 3 U (BI Aj Em U U U U U U (show 0+1≤3 by decide) rfl (dn hK3 U ?_))))))))
 refine sr U fun K4 hK4=>zm tb 3 U (BI Aj Em U U U U U U (show 1+1≤3 by decide) rfl (dn hK4 U (sr U fun K5 hK5=>zm tb 2 U (bs h0 fun q6 gq6 h0=>BW (v':=(ow 3 0 q6)) Aj aX (QR gq6) rfl U ⟨(AG fun _=>U),trivial⟩ U U (zq tb U (BI Aj Nn U U U U U U (show 2+1≤3 by decide) rfl (dn hK5 U (sr U fun K7 hK7=>?_))))))))
 refine zq tb U (BI Aj Im U U U U U U (show 0+3≤3 by decide) rfl (dn hK7 U ?_))
 replace h0:=Sh.AE h0
 subst r
 exact AP (Exists.intro _ (And.intro ((BM (L:=[(2,Ao)]) (st':=[(ro 0 111 1 (BR 3) q6),⟨0,81,3,[[(i64 p0.from_),(i64 p0.to),(ow 0 0 q6)]]⟩]) (st1:=[(ro 0 111 1 (BR 3) q6),⟨0,81,3,[[(i64 p0.from_),(i64 p0.to),(ow 3 0 q6)]]⟩]) [3,1] U .nil (by decide) rfl U (.deep (AG fun _=>U) (.raw U U .nil)) (.same U)).trans (Ab (L:=[(2,Ao)]) (.same U))) (A8 (x:=.tmp 2) (off:=0) (cs:=[(i64 p0.from_),(i64 p0.to),(ow 0 0 q6)]) (vs:=[(i64 p0.from_),(i64 p0.to),(ow 0 0 q6)]) Im U U U (show 0+3≤3 by decide) rfl _ ⟨U,U⟩)))
theorem Ps {N:Nat} {p0:(List Ah)} {r:(List Ah)} (h0:Hd N p0=some r):Ak Tryz.prog 22 [(BS p0)] [] (fun v st=>v=(ow 0 0 r)∧st=[(Ei r)]):=by
 unfold Hd at h0
 refine ai Tryz.func22 U U U U (zr tb U U (sr U fun K2 hK2=>zq tb U (zl tb U U (bs h0 fun l3 gl3 h0=>NG (m:=0) (st':=[(Ei l3)]) (enc:=(Ae 111 3)) (u:=(Ah.mk 0 0 [])) DA U U ⟨.inl ⟨U,U⟩,⟨.inl ⟨U,U⟩,⟨.inr ⟨U,_,_,U,by decide⟩,trivial⟩⟩⟩ gl3 U U (zq tb U (dn hK2 U (AJ fun K4 hK4=>zr tb U U (bs h0 fun o9 h1 h0=>?_))))))))
 have M9 :∀(l8:(List Ah)),o9=l8→∀s,Wk 0 s ⟨23,AM [(3,(ow 0 0 l8))],[(Ei l8)]⟩→K4 s:=by
  intro l8 hq s hw
  subst o9
  try dsimp only at h0
  refine hK4 _ (Aa hw (zr tb U U ?_))
  replace h0:=Sh.AE h0
  subst r
  exact AP (xr (Ab (L:=[(2,(ow 0 0 l8))]) (.same U)))
 refine Ac (Aw (σ:=Int×(List Ah)) (fun n v=>EF N p0 n v.1 v.2=some o9) (fun (i6,l7)=>⟨23,AM [(0,(BS p0)),(3,(ow 0 0 l7)),(4,(i64 i6))],[(Ei l7)]⟩) N (0,l3) h1 (AB U) (fun _ hv=>by rw[EF] at hv;cases hv) ?_)
 rintro n ⟨i6,l7⟩ h1
 try dsimp only at h1 ⊢
 rw[EF] at h1
 refine AJ fun K11 hK11=>sr U fun K12 hK12=>zm tb 2 U (zl tb U U (zq tb U (dn hK12 U ?_)))
 refine ci h1 U ?_ ?_ <;> clear h1
 ·intro b13 h1
  refine AN (hK11 _ (AJ fun K14 hK14=>Ac (AR U (zm tb 4 U (bs h1 fun c15 gc15 h1=>zx Y7 gc15 U U U (zq tb U (bs h1 fun q16 gq16 h1=>BW (v':=(.agg [(i64 q16.from_),(i64 q16.to),(ow 1 0 q16.cons)])) Aj bA (QG gq16) rfl U ⟨(AG fun _=>U),trivial⟩ U U (bs h1 fun c17 gc17 h1=>zz (MK i6) (BZ DA U U U U gc17) rfl ?_))))))))
  refine Qk (st':=[⟨0,81,3,hole l7 (Ae 111 3) i6 [(i64 q16.from_),(i64 q16.to),(ow 1 0 q16.cons)]⟩,(ro 0 111 1 (BR 3) q16.cons)]) Aj Im U U gc17 U U U (show 3≤3 by decide) rfl U ?_
  refine Al (Wk.take (id:=0) (m:=1) (j:=2) (i:=i6) (c:=c17) (ys:=q16.cons) (encY:=(BR 3)) rfl gc17 U U U (by decide) (show 0≤1 by decide) (fun _=>U) rfl U) ?_
  refine Al (EV (id:=0) (i:=i6) (u:=q16) rfl U U) (dn hK14 U (AR U (zm tb 3 U ?_)))
  exact AA (xi (Sh.w (i6+1),Sh.put l7 i6 q16) h1 (by refine Wk.trans (Ai (L:=[(0,(.sl (List.map Ad p0))),(3,(.own 0 0 (List.length l7))),(4,(i64 (Sh.w (i6+1))))]) (st':=[⟨0,81,3,List.map (Ae 111 3) (Sh.put l7 i6 q16)⟩]) [0] U (by decide) rfl U (.deep (AG fun _=>U) .nil) ⟨.rfl,.rfl,.rfl,trivial⟩) ?_;exact Ab (L:=[(0,(.sl (List.map Ad p0))),(3,(.own 0 0 (List.length (Sh.put l7 i6 q16)))),(4,(i64 (Sh.w (i6+1))))]) ⟨.rfl,(.len (by simp only[Sh.BF])),.rfl,trivial⟩))
 ·intro b13 h1
  exact A0 (M9 l7 (Sh.AE h1).symm _ (AB U))
theorem Pp {N:Nat} {rec_laws_toExpr:AK→Option (AK)} (hrec_laws_toExpr :∀{p0:AK} {r:AK},rec_laws_toExpr p0=some r→Ak Tryz.prog 97 [(B8 p0)] [] (fun v st=>v=(.agg (KI r))∧st=[(BP r)])) {p0:(List AK)} {r:(List AK)} (h0:I8 N rec_laws_toExpr p0=some r):Ak Tryz.prog 124 [(Cx p0)] [] (fun v st=>v=(ow 0 0 r)∧st=[(Dx r)]):=by
 unfold I8 at h0
 refine ai Tryz.func124 U U U U (zr tb U U (sr U fun K2 hK2=>zq tb U (zl tb U U (bs h0 fun l3 gl3 h0=>?_))))
 refine NG (m:=0) (st':=[(Dx l3)]) (enc:=(Ay 44)) (u:=(AK.mk 0 0 [])) A2 U U (by rw[Bp];exact⟨.inl ⟨U,U⟩,⟨.inl ⟨U,U⟩,⟨.inr ⟨U,_,_,U,by decide⟩,trivial⟩⟩⟩) gl3 U U ?_
 refine zq tb U (dn hK2 U (AJ fun K4 hK4=>zr tb U U (bs h0 fun o9 h1 h0=>?_)))
 have M9 :∀(l8:(List AK)),o9=l8→∀s,Wk 0 s ⟨23,AM [(3,(ow 0 0 l8))],[(Dx l8)]⟩→K4 s:=by
  intro l8 hq s hw
  subst o9
  try dsimp only at h0
  refine hK4 _ (Aa hw (zr tb U U ?_))
  replace h0:=Sh.AE h0
  subst r
  exact AP (xr (Ab (L:=[(2,(ow 0 0 l8))]) (.same U)))
 refine Ac (Aw (σ:=Int×(List AK)) (fun n v=>D6 p0 rec_laws_toExpr n v.1 v.2=some o9) (fun (i6,l7)=>⟨23,AM [(0,(Cx p0)),(3,(ow 0 0 l7)),(4,(i64 i6))],[(Dx l7)]⟩) N (0,l3) h1 (AB U) (fun _ hv=>by rw[D6] at hv;cases hv) ?_)
 rintro n ⟨i6,l7⟩ h1
 try dsimp only at h1 ⊢
 rw[D6] at h1
 refine AJ fun K11 hK11=>sr U fun K12 hK12=>zm tb 2 U (zl tb U U (zq tb U (dn hK12 U ?_)))
 refine ci h1 U ?_ ?_ <;> clear h1
 ·intro b13 h1
  refine AN (hK11 _ (AJ fun K14 hK14=>Ac (AR U (zm tb 4 U (bs h1 fun c15 gc15 h1=>zz (FF c15) (Bq Y4 U U gc15 (A4 _) rfl) rfl (zq tb U (bs h1 fun q16 gq16 h1=>BW (v':=(.agg (KK q16))) Aj Yv (hrec_laws_toExpr gq16) rfl U ⟨(AG AF),trivial⟩ U U (bs h1 fun c17 gc17 h1=>zz (MK i6) (BZ A2 U U U U gc17) rfl ?_))))))))
  refine Qk (st':=[(Ov l7 i6 q16),(BP q16)]) Aj Bz U U gc17 U U U (show 3≤3 by decide) (Td _) rfl ?_
  refine Al (Wk.take (id:=0) (m:=1) (j:=2) (i:=i6) (c:=c17) (ys:=q16.kids) (encY:=(Ay 44)) rfl gc17 U U U (by decide) (show 0≤1 by decide) Co U U) ?_
  refine Al (EV (id:=0) (i:=i6) (u:=q16) rfl (Bp q16).symm U) (dn hK14 U (AR U (zm tb 3 U ?_)))
  exact AA (xi (Sh.w (i6+1),Sh.put l7 i6 q16) h1 (by refine Wk.trans (Ai (L:=[(0,(.sl (List.map Bk p0))),(3,(.own 0 0 (List.length l7))),(4,(i64 (Sh.w (i6+1))))]) (st':=[⟨0,44,3,List.map (Ay 44) (Sh.put l7 i6 q16)⟩]) [0] U (by decide) rfl U (.deep (AG AF) .nil) ⟨.rfl,.rfl,.rfl,trivial⟩) ?_;exact Ab (L:=[(0,(.sl (List.map Bk p0))),(3,(.own 0 0 (List.length (Sh.put l7 i6 q16)))),(4,(i64 (Sh.w (i6+1))))]) ⟨.rfl,(.len (by simp only[Sh.BF])),.rfl,trivial⟩))
 ·intro b13 h1
  exact A0 (M9 l7 (Sh.AE h1).symm _ (AB U))
theorem Oe {N:Nat} {rec_laws_toExpr:AK→Option (AK)} (hrec_laws_toExpr :∀{p0:AK} {r:AK},rec_laws_toExpr p0=some r→Ak Tryz.prog 97 [(B8 p0)] [] (fun v st=>v=(.agg (KI r))∧st=[(BP r)])) {p0:AK} {r:AK} (h0:IC N rec_laws_toExpr p0=some r):Ak Tryz.prog 97 [(B8 p0)] [] (fun v st=>v=(.agg (KI r))∧st=[(BP r)]):=by
 unfold IC at h0
 refine Ak.wk (r0:=(.agg (KI r))) (st0:=[(BP r),⟨0,44,3,[(KI r)]⟩]) ?_ (FD (L:=[(0,(.agg (KI r)))]) (st':=[(BP r)]) [0] U (by decide) rfl U (.deep (AG AF) trivial) (.same U))
 refine ai Tryz.func97 U U U U (sr U fun K1 hK1=>BY (m:=0) Aj U U U U U (A7 (m:=1) Aj Ik U U (dn hK1 U (sr U fun K2 hK2=>A7 (m:=2) Aj Ik U U (dn hK2 U (sr U fun K3 hK3=>zm tb 3 U (BI Aj Em U U U U U U (show 0+1≤3 by decide) rfl (dn hK3 U ?_))))))))
 refine sr U fun K4 hK4=>zm tb 3 U (BI Aj Em U U U U U U (show 1+1≤3 by decide) rfl (dn hK4 U (sr U fun K5 hK5=>zm tb 2 U (bs h0 fun q6 gq6 h0=>BW (v':=(ow 3 0 q6)) Aj ZV (Pp hrec_laws_toExpr gq6) rfl U ⟨(AG AF),trivial⟩ U U (zq tb U (BI Aj Ez U U U U U U (show 2+1≤3 by decide) rfl (dn hK5 U (sr U fun K7 hK7=>?_))))))))
 refine zq tb U (BI Aj Bz U U U U U U (show 0+3≤3 by decide) rfl (dn hK7 U ?_))
 replace h0:=Sh.AE h0
 subst r
 exact AP (Exists.intro _ (And.intro ((BM (L:=[(2,Ao)]) (st':=[(Dx q6),⟨0,44,3,[[(i64 p0.op),(i64 p0.num),(ow 0 0 q6)]]⟩]) (st1:=[(Dx q6),⟨0,44,3,[[(i64 p0.op),(i64 p0.num),(ow 3 0 q6)]]⟩]) [3,1] U .nil (by decide) rfl U (.deep (AG AF) (.raw U U .nil)) (.same U)).trans (Ab (L:=[(2,Ao)]) (.same U))) (A8 (x:=.tmp 2) (off:=0) (cs:=[(i64 p0.op),(i64 p0.num),(ow 0 0 q6)]) (vs:=[(i64 p0.op),(i64 p0.num),(ow 0 0 q6)]) Bz U U U (show 0+3≤3 by decide) rfl _ ⟨U,U⟩)))

theorem OU {N:Nat} :∀(n:Nat),∀{p0:AK} {r:AK},FO N n p0=some r→Ak Tryz.prog 97 [(B8 p0)] [] (fun v st=>v=(.agg (KI r))∧st=[(BP r)]):=by
 intro n
 induction n with
 | zero=>intro p0 r h0;cases h0
 | succ n ih=>
  intro p0 r h0
  rw[FO] at h0
  exact Oe (fun h=>ih h) h0
theorem Qb {N:Nat} :∀{p0:AK} {r:AK},Jm N p0=some r→Ak Tryz.prog 97 [(B8 p0)] [] (fun v st=>v=(.agg (KI r))∧st=[(BP r)]):=by
 intro p0 r h0
 exact OU N h0
theorem QQ {N:Nat} {p0:Av} {r:Av} (h0:IW N p0=some r):Ak Tryz.prog 52 [(.agg (Q4 p0))] [] (fun v st=>v=(.agg (YY r))∧st=[(ro 0 3 1 eI r.params),(H3 r)]):=by
 unfold IW at h0
 refine Ak.wk (r0:=(.agg (YY r))) (st0:=[(ro 0 3 1 eI r.params),(H3 r),⟨0,48,5,[(YY r)]⟩]) ?_ (FD (L:=[(0,(.agg (YY r)))]) (st':=[(ro 0 3 1 eI r.params),(H3 r)]) [0,1] U (by decide) rfl U (.pure (AS fun _=>U) (.deep (AG AF) trivial)) (.same U))
 refine ai Tryz.func52 U U U U (sr U fun K1 hK1=>BY (m:=0) Aj U U U U U (A7 (m:=1) Aj Mu U U (dn hK1 U (sr U fun K2 hK2=>A7 (m:=2) Aj Mu U U (dn hK2 U (sr U fun K3 hK3=>zm tb 2 U (bs h0 fun q4 gq4 h0=>BW (v':=(ow 3 0 q4)) Aj Y5 (Lx gq4) rfl U ⟨(Br fun _=>U),trivial⟩ U U ?_)))))))
 refine zq tb U (BI Aj HM U U U U U U (show 0+1≤5 by decide) rfl (dn hK3 U (sr U fun K5 hK5=>zm tb 3 U (BI Aj Em U U U U U U (show 1+1≤5 by decide) rfl (dn hK5 U (sr U fun K6 hK6=>zm tb 2 U (bs h0 fun q7 gq7 h0=>BW (v':=(Es q7)) Aj Yv (Qb gq7) rfl U ⟨(AG AF),trivial⟩ U U (zq tb U ?_))))))))
 refine BI Aj Bz U U U U U U (show 2+3≤5 by decide) rfl (dn hK6 U (sr U fun K8 hK8=>zq tb U (BI Aj O9 U U U U U U (show 0+5≤5 by decide) rfl (dn hK8 U ?_))))
 replace h0:=Sh.AE h0
 subst r
 exact AP (Exists.intro _ (And.intro ((BM (L:=[(2,CD)]) (st':=[(BT q4),(BP q7),⟨0,48,5,[[(ow 0 0 q4),(i64 p0.result),(i64 q7.op),(i64 q7.num),(ow 1 0 q7.kids)]]⟩]) (st1:=[(BT q4),(BP q7),⟨0,48,5,[[(ow 3 0 q4),(i64 p0.result),(i64 q7.op),(i64 q7.num),(ow 4 0 q7.kids)]]⟩]) [3,4,1] U .nil (by decide) rfl U (.pure (AS fun _=>U) (.deep (AG AF) (.raw U U .nil))) (.same U)).trans (Ab (L:=[(2,CD)]) (.same U))) (A8 (x:=.tmp 2) (off:=0) (cs:=[(ow 0 0 q4),(i64 p0.result),(i64 q7.op),(i64 q7.num),(ow 1 0 q7.kids)]) (vs:=[(ow 0 0 q4),(i64 p0.result),(i64 q7.op),(i64 q7.num),(ow 1 0 q7.kids)]) O9 U U U (show 0+5≤5 by decide) rfl _ ⟨U,U⟩)))
theorem Pd {N:Nat} {p0:(List Av)} {r:(List Av)} (h0:HY N p0=some r):Ak Tryz.prog 23 [(ls A5 p0)] [] (fun v st=>v=(ow 0 0 r)∧st=[(CV r)]):=by
 unfold HY at h0
 refine ai Tryz.func23 U U U U (zr tb U U (sr U fun K2 hK2=>zq tb U (zl tb U U (bs h0 fun l3 gl3 h0=>NG (m:=0) (st':=[(CV l3)]) (enc:=(BK 3 44)) (u:=(Av.mk [] 0 (AK.mk 0 0 []))) CQ U U ⟨.inr ⟨U,_,_,U,by decide⟩,⟨.inl ⟨U,U⟩,⟨.inl ⟨U,U⟩,⟨.inl ⟨U,U⟩,⟨.inr ⟨U,_,_,U,by decide⟩,trivial⟩⟩⟩⟩⟩ gl3 U U (zq tb U (dn hK2 U (AJ fun K4 hK4=>zr tb U U (bs h0 fun o9 h1 h0=>?_))))))))
 have M9 :∀(l8:(List Av)),o9=l8→∀s,Wk 0 s ⟨23,AM [(3,(ow 0 0 l8))],[(CV l8)]⟩→K4 s:=by
  intro l8 hq s hw
  subst o9
  try dsimp only at h0
  refine hK4 _ (Aa hw (zr tb U U ?_))
  replace h0:=Sh.AE h0
  subst r
  exact AP (xr (Ab (L:=[(2,(ow 0 0 l8))]) (.same U)))
 refine Ac (Aw (σ:=Int×(List Av)) (fun n v=>EI N p0 n v.1 v.2=some o9) (fun (i6,l7)=>⟨23,AM [(0,(ls A5 p0)),(3,(ow 0 0 l7)),(4,(i64 i6))],[(CV l7)]⟩) N (0,l3) h1 (AB U) (fun _ hv=>by rw[EI] at hv;cases hv) ?_)
 rintro n ⟨i6,l7⟩ h1
 try dsimp only at h1 ⊢
 rw[EI] at h1
 refine AJ fun K11 hK11=>sr U fun K12 hK12=>zm tb 2 U (zl tb U U (zq tb U (dn hK12 U ?_)))
 refine ci h1 U ?_ ?_ <;> clear h1
 ·intro b13 h1
  refine AN (hK11 _ (AJ fun K14 hK14=>Ac (AR U (zm tb 4 U (bs h1 fun c15 gc15 h1=>zx ZE gc15 U U U (zq tb U (bs h1 fun q16 gq16 h1=>BW (v':=(.agg [(ow 1 0 q16.params),(i64 q16.result),(i64 q16.body.op),(i64 q16.body.num),(ow 2 0 q16.body.kids)])) Aj bI (QQ gq16) rfl U ⟨(Br fun _=>U),⟨(AG AF),trivial⟩⟩ U U (bs h1 fun c17 gc17 h1=>zz (MK i6) (BZ CQ U U U U gc17) rfl ?_))))))))
  refine Qk (st':=[⟨0,48,5,hole l7 (BK 3 44) i6 [(ow 1 0 q16.params),(i64 q16.result),(i64 q16.body.op),(i64 q16.body.num),(ow 2 0 q16.body.kids)]⟩,(ro 0 3 1 eI q16.params),(H3 q16)]) Aj O9 U U gc17 U U U (show 5≤5 by decide) rfl U ?_
  refine Al (Wk.take (id:=0) (m:=1) (j:=0) (i:=i6) (c:=c17) (ys:=q16.params) (encY:=eI) rfl gc17 U U U (by decide) (show 0≤1 by decide) (fun _=>U) rfl U) ?_
  refine Al (Wk.take (id:=0) (m:=2) (j:=4) (i:=i6) (c:=c17) (ys:=q16.body.kids) (encY:=(Ay 44)) rfl gc17 U U U (by decide) (show 0≤2 by decide) Co U U) ?_
  refine Al (EV (id:=0) (i:=i6) (u:=q16) rfl U U) (dn hK14 U (AR U (zm tb 3 U ?_)))
  exact AA (xi (Sh.w (i6+1),Sh.put l7 i6 q16) h1 (by refine Wk.trans (Ai (L:=[(0,(.sl (List.map A5 p0))),(3,(.own 0 0 (List.length l7))),(4,(i64 (Sh.w (i6+1))))]) (st':=[⟨0,48,5,List.map (BK 3 44) (Sh.put l7 i6 q16)⟩]) [0] U (by decide) rfl U (.deep (AG fun _=>U) .nil) ⟨.rfl,.rfl,.rfl,trivial⟩) ?_;exact Ab (L:=[(0,(.sl (List.map A5 p0))),(3,(.own 0 0 (List.length (Sh.put l7 i6 q16)))),(4,(i64 (Sh.w (i6+1))))]) ⟨.rfl,(.len (by simp only[Sh.BF])),.rfl,trivial⟩))
 ·intro b13 h1
  exact A0 (M9 l7 (Sh.AE h1).symm _ (AB U))
theorem GQ {N:Nat} {p0:Ag} {r:Ag} (h0:EZ N p0=some r):Ak Tryz.prog 8 [(Gn p0)] [] (fun v st=>v=(.agg [(ow 0 0 r.decls),(ow 1 0 r.funcs)])∧st=[(ro 0 81 3 (Ae 111 3) r.decls),(NV r)]):=by
 unfold EZ at h0
 refine Ak.wk (r0:=(.agg [(ow 0 0 r.decls),(ow 1 0 r.funcs)])) (st0:=[(ro 0 81 3 (Ae 111 3) r.decls),(NV r),⟨0,30,2,[[(ow 0 0 r.decls),(ow 1 0 r.funcs)]]⟩]) ?_ (FD (L:=[(0,(.agg [(ow 0 0 r.decls),(ow 1 0 r.funcs)]))]) (st':=[(ro 0 81 3 (Ae 111 3) r.decls),(NV r)]) [0,1] U (by decide) rfl U (.deep (AG fun _=>U) (.deep (AG fun _=>U) trivial)) (.same U))
 refine ai Tryz.func8 U U U U (sr U fun K1 hK1=>BY (m:=0) Aj U U U U U (A7 (m:=1) Aj HK U U (dn hK1 U (sr U fun K2 hK2=>A7 (m:=2) Aj HK U U (dn hK2 U (sr U fun K3 hK3=>zm tb 2 U (bs h0 fun q4 gq4 h0=>BW (v':=(ow 3 0 q4)) Aj ab (Ps gq4) rfl U ⟨(AG fun _=>U),trivial⟩ U U ?_)))))))
 refine zq tb U (BI Aj Yx U U U U U U (show 0+1≤2 by decide) rfl (dn hK3 U (sr U fun K5 hK5=>zm tb 2 U (bs h0 fun q6 gq6 h0=>BW (v':=(ow 4 0 q6)) Aj bB (Pd gq6) rfl U ⟨(AG fun _=>U),trivial⟩ U U (zq tb U (BI Aj Xk U U U U U U (show 1+1≤2 by decide) rfl (dn hK5 U (sr U fun K7 hK7=>zq tb U ?_))))))))
 refine BI Aj FE U U U U U U (show 0+2≤2 by decide) rfl (dn hK7 U ?_)
 replace h0:=Sh.AE h0
 subst r
 exact AP (Exists.intro _ (And.intro ((BM (L:=[(2,CD)]) (st':=(Wu q4 q6)) (st1:=[(Ei q4),(CV q6),⟨0,30,2,[[(ow 3 0 q4),(ow 4 0 q6)]]⟩]) [3,4,1] U .nil (by decide) rfl U (.deep (AG fun _=>U) (.deep (AG fun _=>U) (.raw U U .nil))) (.same U)).trans (Ab (L:=[(2,CD)]) (.same U))) (A8 (x:=.tmp 2) (off:=0) (cs:=[(ow 0 0 q4),(ow 1 0 q6)]) (vs:=[(ow 0 0 q4),(ow 1 0 q6)]) FE U U U (show 0+2≤2 by decide) rfl _ ⟨U,U⟩)))
theorem Cj {p0:Int} {p1:Int} {p2:Int} {r:Bool} (h0:CJ p0 p1 p2=some r):Ak Tryz.prog 71 [(i64 p0),(i64 p1),(i64 p2)] [] (fun v st=>v=(.bool r)∧st=[]):=by
 unfold CJ at h0
 refine ai Tryz.func71 U U U U (zr tb U U (AJ fun K2 hK2=>bs h0 fun o4 h1 h0=>?_))
 have M4 :∀(t3:Bool),o4=t3→∀s,Wk 0 s ⟨15,AM [(6,(.bool t3))],[]⟩→K2 s:=by
  intro t3 hq s hw
  subst o4
  try dsimp only at h0
  refine hK2 _ (Aa hw ?_)
  replace h0:=Sh.AE h0
  subst r
  exact AP (xr (Ab (L:=[(6,(.bool t3))]) (.same U)))
 refine AR U (zm tb 4 U ?_)
 rcases Sh.Az h1 with ⟨b5,h1⟩ | ⟨b5,h1⟩
 ·exact zg tb b5 U (zg tb b5 U (zg tb b5 U (zt b5 U (zq tb U (AA (M4 (decide (p0≤p2)) (Sh.AE h1).symm _ (AB U)))))))
 ·exact zs b5 U (zs b5 U (zs b5 U (zf b5 U (zq tb U (AA (M4 false (Sh.AE h1).symm _ (AB U)))))))
theorem Kd {N:Nat} {p0:(List Ah)} {p1:(List Int)} {r:Bool} (h0:F7 N p0 p1=some r):Ak Tryz.prog 85 [(BS p0),(ls eI p1)] [] (fun v st=>v=(.bool r)∧st=[]):=by
 unfold F7 at h0
 refine ai Tryz.func85 U U U U (zr tb U U (AJ fun K2 hK2=>zr tb U U ?_))
 obtain⟨o5,h1,h0⟩:=Sh.BN h0
 have M5 :∀(_:Unit),o5=Sum.inr ()→∀s,Wk 0 s ⟨20,AM [],[]⟩→K2 s:=by
  intro _ hq s hw
  subst o5
  try dsimp only at h0
  refine hK2 _ (Aa hw (zr tb U U ?_))
  replace h0:=Sh.AE h0
  subst r
  exact AP (xr (Ab (L:=[(4,(.bool true))]) (.same U)))
 refine Ac (Aw (σ:=Int) (fun n v=>Dk p0 p1 n v=some o5) (fun i4=>⟨20,AM [(0,(BS p0)),(1,(ls eI p1)),(5,(i64 i4))],[]⟩) N 0 h1 (AB U) (fun _ hv=>by rw[Dk] at hv;cases hv) ?_)
 rintro n i4 h1
 try dsimp only at h1 ⊢
 rw[Dk] at h1
 refine AJ fun K7 hK7=>sr U fun K8 hK8=>zm tb 2 U (zl tb U U (zq tb U (dn hK8 U ?_)))
 refine ci h1 U ?_ ?_ <;> clear h1
 ·intro b9 h1
  refine AN (hK7 _ (AJ fun K10 hK10=>Ac (sr U fun K11 hK11=>zm tb 2 U (bs h1 fun c12 gc12 h1=>zx Bu gc12 U U U (zm tb 2 U (zl tb U U (bs h1 fun q13 gq13 h1=>zc MU (Cj gq13) rfl U U (zq tb U ?_))))))))
  refine dn hK11 U ?_
  refine ci h1 U ?_ ?_ <;> clear h1
  ·intro b14 h1
   have b15:q13=false:=by simpa using b14
   refine zr tb U U ?_
   replace h1:=Sh.AE h1
   subst o5
   try dsimp only[id] at h0
   replace h0:=Sh.AE h0
   subst r
   exact AP (xr (Ab (L:=[(4,(.bool false))]) (.same U)))
  ·intro b14 h1
   have b17:q13=true:=by simpa using b14
   exact AN (hK10 _ (AR U (zm tb 3 U (AA (xi (Sh.w (i4+1)) h1 (AB U))))))
 ·intro b9 h1
  exact A0 (M5 () (Sh.AE h1).symm _ (AB U))
theorem N1 {N:Nat} {p0:(List Ah)} {p1:Int} {r:Bool} (h0:GX N p0 p1=some r):Ak Tryz.prog 121 [(BS p0),(i64 p1)] [] (fun v st=>v=(.bool r)∧st=[]):=by
 unfold GX at h0
 refine ai Tryz.func121 U U U U (zr tb U U (sr U fun K2 hK2=>zm tb 2 U (bs h0 fun c3 gc3 h0=>zx DA gc3 U U U (zq tb U (A7 (m:=0) Aj GI U U (BI Aj Im U U U U U U (show 0+3≤3 by decide) rfl (dn hK2 U (AJ fun K4 hK4=>sr U fun K5 hK5=>?_))))))))
 refine zm tb 2 U (zl tb U U (zq tb U (dn hK5 U ?_)))
 refine ci h0 U ?_ ?_ <;> clear h0
 ·intro b6 h0
  refine AJ fun K7 hK7=>AJ fun K8 hK8=>bs h0 fun o10 h1 h0=>?_
  have M10 :∀(t9:Bool),o10=t9→∀s,Wk 0 s ⟨100,AM [(0,(BS p0)),(5,Ax),(29,(.bool t9))],(N6 c3)⟩→K8 s:=by
   intro t9 hq s hw
   subst o10
   try dsimp only at h0
   refine hK8 _ (Aa hw ?_)
   refine ci h0 U ?_ ?_ <;> clear h0
   ·intro b11 h0
    refine zr tb U U ?_
    replace h0:=Sh.AE h0
    subst r
    exact AP (xr (Aq [(4,(.bool false))] U))
   ·intro b11 h0
    refine AN (hK7 _ (AJ fun K13 hK13=>zr tb U U ?_))
    obtain⟨o16,h1,h0⟩:=Sh.BN h0
    have M16 :∀(_:Unit),o16=Sum.inr ()→∀s,Wk 0 s ⟨100,AM [],[]⟩→K13 s:=by
     intro _ hq s hw
     subst o16
     try dsimp only at h0
     refine hK13 _ (Aa hw (zr tb U U ?_))
     replace h0:=Sh.AE h0
     subst r
     exact AP (xr (Ab (L:=[(4,(.bool true))]) (.same U)))
    refine Ac (Aw (σ:=Int) (fun n v=>DR N c3 p0 n v=some o16) (fun i15=>⟨100,AM [(0,(BS p0)),(5,Ax),(6,(i64 i15))],(N6 c3)⟩) N 0 h1 (AB U) (fun _ hv=>by rw[DR] at hv;cases hv) ?_)
    rintro n i15 h1
    try dsimp only at h1 ⊢
    rw[DR] at h1
    refine AJ fun K18 hK18=>sr U fun K19 hK19=>zm tb 3 U (zl tb U U (zq tb U (dn hK19 U ?_)))
    refine ci h1 U ?_ ?_ <;> clear h1
    ·intro b20 h1
     refine AN (hK18 _ (AJ fun K21 hK21=>Ac (AJ fun K22 hK22=>bs h1 fun o24 h2 h1=>?_)))
     have M24 :∀(t23:Bool),o24=t23→∀s,Wk 0 s ⟨100,AM [(0,(BS p0)),(5,Ax),(6,(i64 i15)),(55,(.bool t23))],(N6 c3)⟩→K22 s:=by
      intro t23 hq s hw
      subst o24
      try dsimp only at h1
      refine hK22 _ (Aa hw ?_)
      refine ci h1 U ?_ ?_ <;> clear h1
      ·intro b25 h1
       refine zr tb U U ?_
       replace h1:=Sh.AE h1
       subst o16
       try dsimp only[id] at h0
       replace h0:=Sh.AE h0
       subst r
       exact AP (xr (Aq [(4,(.bool false))] U))
      ·intro b25 h1
       exact AN (hK21 _ (AR U (zm tb 3 U (AA (xi (Sh.w (i15+1)) h1 (AB U))))))
     refine AR U (zm tb 3 U (bs h2 fun c27 gc27 h2=>zx H0 gc27 U U U (zm tb 2 U (zl tb U U (zm tb 2 U ?_)))))
     rcases Sh.Az h2 with ⟨b28,h2⟩ | ⟨b28,h2⟩
     ·refine zs b28 U ?_
      iterate 8 refine zs b28 rfl ?_
      exact zt b28 U (AA (M24 true (Sh.AE h2).symm _ (AB U)))
     ·refine zg tb b28 U ?_
      iterate 3 refine zg tb b28 rfl ?_
      exact BU (v:=(.B1 (At c27) 0)) (DH U U b28) rfl (Eo H0 U U gc27 U) (zg tb b28 U (zg tb b28 U (bs h2 fun q29 gq29 h2=>zd b28 ZI (Kd gq29) rfl U U U (zg tb b28 U (zf b28 U (AA (M24 (!q29) (Sh.AE h2).symm _ (AB U))))))))
    ·intro b20 h1
     exact A0 (M16 () (Sh.AE h1).symm _ (Aq _ U))
  refine AR U (zm tb 2 U (zl tb U U (zm tb 2 U ?_)))
  rcases Sh.Az h1 with ⟨b30,h1⟩ | ⟨b30,h1⟩
  ·refine zs b30 U (zs b30 U (zs b30 U (zt b30 U (zq tb U ?_))))
   iterate 3 refine zs rfl rfl ?_
   exact zt U U (AA (M10 true (Sh.AE h1).symm _ (AB U)))
  ·refine zg tb b30 U (zg tb b30 U (zg tb b30 U (zf b30 U (zq tb U ?_))))
   rcases Sh.Az h1 with ⟨b31,h1⟩ | ⟨b31,h1⟩
   ·exact zs b31 U (zs b31 U (zs b31 U (zt b31 U (AA (M10 true (Sh.AE h1).symm _ (AB U))))))
   ·exact zg tb b31 U (zg tb b31 U (zg tb b31 U (zf b31 U (AA (M10 (!decide (c3.to=0)) (Sh.AE h1).symm _ (AB U))))))
 ·intro b6 h0
  refine AN (hK4 _ (AJ fun K32 hK32=>zr tb U U ?_))
  obtain⟨o35,h1,h0⟩:=Sh.BN h0
  have M35 :∀(_:Unit),o35=Sum.inr ()→∀s,Wk 0 s ⟨100,AM [(0,(BS p0)),(5,Ax)],(N6 c3)⟩→K32 s:=by
   intro _ hq s hw
   subst o35
   try dsimp only at h0
   refine hK32 _ (Aa hw (AJ fun K36 hK36=>bs h0 fun o38 h1 h0=>?_))
   have M38 :∀(t37:Bool),o38=t37→∀s,Wk 0 s ⟨100,AM [(4,(.bool t37))],[]⟩→K36 s:=by
    intro t37 hq s hw
    subst o38
    try dsimp only at h0
    refine hK36 _ (Aa hw ?_)
    replace h0:=Sh.AE h0
    subst r
    exact AP (xr (Ab (L:=[(4,(.bool t37))]) (.same U)))
   refine AR U (zm tb 3 U (zl tb U U (bs h1 fun q39 gq39 h1=>zc MU (Cj gq39) rfl U U (zq tb U ?_))))
   rcases Sh.Az h1 with ⟨b40,h1⟩ | ⟨b40,h1⟩
   ·exact zg tb b40 U (zg tb b40 U (zg tb b40 U (BU (v:=(Bx p0)) (DH U U b40) rfl (Ci OS U) (bs h1 fun q41 gq41 h1=>zd b40 MU (Cj gq41) rfl U U U (zt b40 U (zq tb U (AA (M38 q41 (Sh.AE h1).symm _ (Aq _ U)))))))))
   ·refine zs b40 U ?_
    iterate 4 refine zs b40 rfl ?_
    exact zf b40 U (zq tb U (AA (M38 false (Sh.AE h1).symm _ (Aq _ U))))
  refine Ac (Aw (σ:=Int) (fun n v=>DP c3 p0 p1 n v=some o35) (fun i34=>⟨100,AM [(0,(BS p0)),(1,(i64 p1)),(5,Ax),(7,(i64 i34))],(N6 c3)⟩) N 0 h1 (AB U) (fun _ hv=>by rw[DP] at hv;cases hv) ?_)
  rintro n i34 h1
  try dsimp only at h1 ⊢
  rw[DP] at h1
  refine AJ fun K42 hK42=>zr tb U U ?_
  refine ci h1 U ?_ ?_ <;> clear h1
  ·intro b44 h1
   refine AN (hK42 _ (AJ fun K45 hK45=>Ac (AJ fun K46 hK46=>bs h1 fun o48 h2 h1=>?_)))
   have M48 :∀(t47:Bool),o48=t47→∀s,Wk 0 s ⟨100,AM [(0,(BS p0)),(1,(i64 p1)),(5,Ax),(7,(i64 i34)),(87,(.bool t47))],(N6 c3)⟩→K46 s:=by
    intro t47 hq s hw
    subst o48
    try dsimp only at h1
    refine hK46 _ (Aa hw ?_)
    refine ci h1 U ?_ ?_ <;> clear h1
    ·intro b49 h1
     refine zr tb U U ?_
     replace h1:=Sh.AE h1
     subst o35
     try dsimp only[id] at h0
     replace h0:=Sh.AE h0
     subst r
     exact AP (xr (Aq [(4,(.bool false))] U))
    ·intro b49 h1
     exact AN (hK45 _ (AR U (zm tb 3 U (AA (xi (Sh.w (i34+1)) h1 (AB U))))))
   refine B2 (by kernel_rfl) (by kernel_rfl) (by rfl) ?_
   iterate 2 refine yq tb rfl ?_
   refine bs h2 fun c51 gc51 h2=>yx DA gc51 U U U ?_
   iterate 2 refine yq tb rfl ?_
   refine yl tb U U ?_
   iterate 2 refine yq tb rfl ?_
   rcases Sh.Az h2 with ⟨b52,h2⟩ | ⟨b52,h2⟩
   ·refine yg tb b52 U (yg tb b52 U (Jd (v:=(.B1 (Ad c51) 0)) (DH U U b52) rfl (Eo DA U U gc51 U) ?_))
    iterate 5 refine yg tb b52 rfl ?_
    refine yt b52 U (yq tb U ?_)
    rcases Sh.Az h2 with ⟨b53,h2⟩ | ⟨b53,h2⟩
    ·refine yg tb b53 U (yg tb b53 U (Jd (v:=(.B1 (Ad c51) 0)) (DH U U b53) rfl (Eo DA U U gc51 U) ?_))
     iterate 5 refine yg tb b53 rfl ?_
     exact yt b53 U (Bh (M48 (decide (c51.to=c3.to)) (Sh.AE h2).symm _ (AB U)))
    ·refine ys b53 U ?_
     iterate 7 refine ys b53 rfl ?_
     exact yf b53 U (Bh (M48 false (Sh.AE h2).symm _ (AB U)))
   ·refine ys b52 U ?_
    iterate 7 refine ys b52 rfl ?_
    refine yf b52 U (yq tb U ?_)
    iterate 8 refine ys rfl rfl ?_
    exact yf U U (Bh (M48 false (Sh.AE h2).symm _ (AB U)))
  ·intro b44 h1
   exact A0 (M35 () (Sh.AE h1).symm _ (AB U))
theorem NR {N:Nat} {p0:(List Ah)} {r:Bool} (h0:GA N p0=some r):Ak Tryz.prog 84 [(BS p0)] [] (fun v st=>v=(.bool r)∧st=[]):=by
 unfold GA at h0
 refine ai Tryz.func84 U U U U (zr tb U U (AJ fun K2 hK2=>sr U fun K3 hK3=>zq tb U (zl tb U U (zq tb U (dn hK3 U ?_)))))
 refine ci h0 U ?_ ?_ <;> clear h0
 ·intro b4 h0
  refine zr tb U U ?_
  replace h0:=Sh.AE h0
  subst r
  exact AP (xr (Ab (L:=[(2,(.bool false))]) (.same U)))
 ·intro b4 h0
  refine AN (hK2 _ (AJ fun K6 hK6=>zr tb U U ?_))
  obtain⟨o9,h1,h0⟩:=Sh.BN h0
  have M9 :∀(_:Unit),o9=Sum.inr ()→∀s,Wk 0 s ⟨17,AM [],[]⟩→K6 s:=by
   intro _ hq s hw
   subst o9
   try dsimp only at h0
   refine hK6 _ (Aa hw (zr tb U U ?_))
   replace h0:=Sh.AE h0
   subst r
   exact AP (xr (Ab (L:=[(2,(.bool true))]) (.same U)))
  refine Ac (Aw (σ:=Int) (fun n v=>DB N p0 n v=some o9) (fun i8=>⟨17,AM [(0,(BS p0)),(3,(i64 i8))],[]⟩) N 0 h1 (AB U) (fun _ hv=>by rw[DB] at hv;cases hv) ?_)
  rintro n i8 h1
  try dsimp only at h1 ⊢
  rw[DB] at h1
  refine AJ fun K11 hK11=>sr U fun K12 hK12=>zm tb 2 U (zl tb U U (zq tb U (dn hK12 U ?_)))
  refine ci h1 U ?_ ?_ <;> clear h1
  ·intro b13 h1
   refine AN (hK11 _ (AJ fun K14 hK14=>Ac (sr U fun K15 hK15=>zm tb 2 U (bs h1 fun q16 gq16 h1=>zc Zv (N1 gq16) rfl U U (zq tb U (dn hK15 U ?_))))))
   refine ci h1 U ?_ ?_ <;> clear h1
   ·intro b17 h1
    have b18:q16=false:=by simpa using b17
    refine zr tb U U ?_
    replace h1:=Sh.AE h1
    subst o9
    try dsimp only[id] at h0
    replace h0:=Sh.AE h0
    subst r
    exact AP (xr (Ab (L:=[(2,(.bool false))]) (.same U)))
   ·intro b17 h1
    have b20:q16=true:=by simpa using b17
    exact AN (hK14 _ (AR U (zm tb 3 U (AA (xi (Sh.w (i8+1)) h1 (AB U))))))
  ·intro b13 h1
   exact A0 (M9 () (Sh.AE h1).symm _ (AB U))
theorem N4 {N:Nat} {p0:Ag} {r:Bool} (h0:Fb N p0=some r):Ak Tryz.prog 44 [(Gn p0)] [] (fun v st=>v=(.bool r)∧st=[]):=by
 unfold Fb at h0
 refine ai Tryz.func44 U U U U (sr U fun K1 hK1=>BY (m:=0) Aj U U U U U (zq tb U (dn hK1 U (AJ fun K2 hK2=>AJ fun K3 hK3=>bs h0 fun o5 h1 h0=>?_))))
 have M5 :∀(t4:Bool),o5=t4→∀s,Wk 0 s ⟨64,AM [(1,Ax),(15,(.bool t4))],[(MJ p0.decls p0.funcs)]⟩→K3 s:=by
  intro t4 hq s hw
  subst o5
  try dsimp only at h0
  refine hK3 _ (Aa hw ?_)
  refine ci h0 U ?_ ?_ <;> clear h0
  ·intro b6 h0
   refine zr tb U U ?_
   replace h0:=Sh.AE h0
   subst r
   exact AP (xr (Aq [(2,(.bool false))] U))
  ·intro b6 h0
   refine AN (hK2 _ (AJ fun K8 hK8=>zr tb U U ?_))
   obtain⟨o11,h1,h0⟩:=Sh.BN h0
   have M11 :∀(_:Unit),o11=Sum.inr ()→∀s,Wk 0 s ⟨64,AM [(1,Ax)],[(MJ p0.decls p0.funcs)]⟩→K8 s:=by
    intro _ hq s hw
    subst o11
    try dsimp only at h0
    refine hK8 _ (Aa hw (AJ fun K12 hK12=>bs h0 fun o14 h1 h0=>?_))
    have M14 :∀(t13:Bool),o14=t13→∀s,Wk 0 s ⟨64,AM [(2,(.bool t13))],[]⟩→K12 s:=by
     intro t13 hq s hw
     subst o14
     try dsimp only at h0
     refine hK12 _ (Aa hw ?_)
     replace h0:=Sh.AE h0
     subst r
     exact AP (xr (Ab (L:=[(2,(.bool t13))]) (.same U)))
    refine AR U (zm tb 2 U (bs h1 fun c15 gc15 h1=>zx CQ gc15 U U U (zm tb 2 U (zl tb U U (zm tb 2 U ?_)))))
    rcases Sh.Az h1 with ⟨b16,h1⟩ | ⟨b16,h1⟩
    ·refine zg tb b16 U (zg tb b16 U (BU (v:=(.B1 (A5 c15) 0)) (DH U U b16) rfl (Eo CQ U U gc15 U) ?_))
     iterate 3 refine zg tb b16 rfl ?_
     exact zt b16 U (zq tb U (AA (M14 (decide (c15.result=0)) (Sh.AE h1).symm _ (Aq _ U))))
    ·refine zs b16 U ?_
     iterate 5 refine zs b16 rfl ?_
     exact zf b16 U (zq tb U (AA (M14 false (Sh.AE h1).symm _ (Aq _ U))))
   refine Ac (Aw (σ:=Int) (fun n v=>Cw N p0 n v=some o11) (fun i10=>⟨64,AM [(1,Ax),(3,(i64 i10))],[(MJ p0.decls p0.funcs)]⟩) N 0 h1 (AB U) (fun _ hv=>by rw[Cw] at hv;cases hv) ?_)
   rintro n i10 h1
   try dsimp only at h1 ⊢
   rw[Cw] at h1
   refine AJ fun K17 hK17=>sr U fun K18 hK18=>zm tb 3 U (zl tb U U (zq tb U (dn hK18 U ?_)))
   refine ci h1 U ?_ ?_ <;> clear h1
   ·intro b19 h1
    refine AN (hK17 _ (AJ fun K20 hK20=>Ac (sr U fun K21 hK21=>zm tb 3 U (bs h1 fun c22 gc22 h1=>zx CQ gc22 U U U (zq tb U (A7 (m:=1) Aj Mu U U (BI Aj O9 U U U U U U (show 0+5≤5 by decide) rfl (dn hK21 U (AJ fun K23 hK23=>?_)))))))))
    refine bs h1 fun o25 h2 h1=>?_
    have M25 :∀(t24:Bool),o25=t24→∀s,Wk 0 s ⟨64,AM [(1,Ax),(3,(i64 i10)),(48,(.bool t24))],[(MJ p0.decls p0.funcs)]⟩→K23 s:=by
     intro t24 hq s hw
     subst o25
     try dsimp only at h1
     refine hK23 _ (Aa hw ?_)
     refine ci h1 U ?_ ?_ <;> clear h1
     ·intro b26 h1
      refine zr tb U U ?_
      replace h1:=Sh.AE h1
      subst o11
      try dsimp only[id] at h0
      replace h0:=Sh.AE h0
      subst r
      exact AP (xr (Aq [(2,(.bool false))] U))
     ·intro b26 h1
      exact AN (hK20 _ (AR U (zm tb 3 U (AA (xi (Sh.w (i10+1)) h1 (AB U))))))
    refine AR U (zm tb 2 U (zl tb U U (zm tb 2 U ?_)))
    rcases Sh.Az h2 with ⟨b28,h2⟩ | ⟨b28,h2⟩
    ·refine zs b28 U ?_
     iterate 5 refine zs b28 rfl ?_
     refine zt b28 U (zq tb U ?_)
     iterate 7 refine zs rfl rfl ?_
     refine zt U U ?_
     exact AA (M25 true (Sh.AE h2).symm _ (Ai [0] U (by decide) rfl U (.raw U U .nil) (.same U)))
    ·refine zg tb b28 U ?_
     iterate 3 refine zg tb b28 rfl ?_
     refine bs h2 fun q29 gq29 h2=>zd b28 ZI (Kd gq29) rfl U U U (zg tb b28 U (zf b28 U (zq tb U ?_)))
     rcases Sh.Az h2 with ⟨b30,h2⟩ | ⟨b30,h2⟩
     ·refine zs b30 U ?_
      iterate 6 refine zs b30 rfl ?_
      refine zt b30 U ?_
      exact AA (M25 true (Sh.AE h2).symm _ (Ai [0] U (by decide) rfl U (.raw U U .nil) (.same U)))
     ·refine zg tb b30 U ?_
      iterate 3 refine zg tb b30 rfl ?_
      refine BU (v:=(i64 (Sh.len p0.decls))) (DH U U b30) rfl (Ci OS U) (bs h2 fun q31 gq31 h2=>zd b30 MU (Cj gq31) rfl U U U (zg tb b30 U (zf b30 U ?_)))
      exact AA (M25 (!q31) (Sh.AE h2).symm _ (Ai [0] U (by decide) rfl U (.raw U U .nil) (.same U)))
   ·intro b19 h1
    exact A0 (M11 () (Sh.AE h1).symm _ (AB U))
 refine AR U (zm tb 2 U (bs h1 fun q32 gq32 h1=>zc bQ (NR gq32) rfl U U (zm tb 2 U ?_)))
 rcases Sh.Az h1 with ⟨b33,h1⟩ | ⟨b33,h1⟩
 ·refine zs b33 U ?_
  iterate 4 refine zs b33 rfl ?_
  exact zt b33 U (AA (M5 true (Sh.AE h1).symm _ (AB U)))
 ·exact zg tb b33 U (zg tb b33 U (BU (v:=(i64 (Sh.len p0.funcs))) (DH U U b33) rfl (Ci Xb U) (bs h1 fun q34 gq34 h1=>zd b33 MU (Cj gq34) rfl U U U (zg tb b33 U (zf b33 U (AA (M5 (!q34) (Sh.AE h1).symm _ (AB U))))))))
theorem MY {N:Nat} {rec_spec_nodesLeft:AK→Int→Option (Int)} (hrec_spec_nodesLeft :∀{p0:AK} {p1:Int} {r:Int},rec_spec_nodesLeft p0 p1=some r→Ak Tryz.prog 86 [(B8 p0),(i64 p1)] [] (fun v st=>v=(i64 r)∧st=[])) {p0:AK} {p1:Int} {r:Int} (h0:Gr N rec_spec_nodesLeft p0 p1=some r):Ak Tryz.prog 86 [(B8 p0),(i64 p1)] [] (fun v st=>v=(i64 r)∧st=[]):=by
 unfold Gr at h0
 refine ai Tryz.func86 U U U U (sr U fun K1 hK1=>BY (m:=0) Aj U U U U U (zq tb U (dn hK1 U (AJ fun K2 hK2=>zr tb U U ?_))))
 refine ci h0 U ?_ ?_ <;> clear h0
 ·intro b4 h0
  refine zr tb U U ?_
  replace h0:=Sh.AE h0
  subst r
  exact AP (xr (Aq [(4,(i64 (-1)))] U))
 ·intro b4 h0
  refine AN (hK2 _ (zr tb U U (AJ fun K7 hK7=>zr tb U U ?_)))
  obtain⟨o12,h1,h0⟩:=Sh.BN h0
  have M12 :∀(left11:Int),o12=Sum.inr left11→∀s,Wk 0 s ⟨27,AM [(1,(i64 left11))],[]⟩→K7 s:=by
   intro left11 hq s hw
   subst o12
   try dsimp only at h0
   refine hK7 _ (Aa hw (zr tb U U ?_))
   replace h0:=Sh.AE h0
   subst r
   exact AP (xr (Ab (L:=[(4,(i64 left11))]) (.same U)))
  refine Ac (Aw (σ:=Int×Int) (fun n v=>CS p0 rec_spec_nodesLeft n v.1 v.2=some o12) (fun (left9,i10)=>⟨27,AM [(1,(i64 left9)),(2,Ax),(5,(i64 i10))],[(OA p0.op p0.num p0.kids)]⟩) N (Sh.w (p1 - 1),0) h1 (AB U) (fun _ hv=>by rw[CS] at hv;cases hv) ?_)
  rintro n ⟨left9,i10⟩ h1
  try dsimp only at h1 ⊢
  rw[CS] at h1
  refine AJ fun K14 hK14=>sr U fun K15 hK15=>zm tb 3 U (zl tb U U (zq tb U (dn hK15 U ?_)))
  refine ci h1 U ?_ ?_ <;> clear h1
  ·intro b16 h1
   refine AN (hK14 _ (AJ fun K17 hK17=>Ac (sr U fun K18 hK18=>zm tb 3 U (bs h1 fun c19 gc19 h1=>zz (FF c19) (Bq A2 U U gc19 (A4 _) rfl) rfl (zm tb 2 U (bs h1 fun q20 gq20 h1=>zc ZG (hrec_spec_nodesLeft gq20) rfl U U (zq tb U (dn hK18 U ?_))))))))
   refine zr tb U U ?_
   refine ci h1 U ?_ ?_ <;> clear h1
   ·intro b22 h1
    refine zr tb U U ?_
    replace h1:=Sh.AE h1
    subst o12
    try dsimp only[id] at h0
    replace h0:=Sh.AE h0
    subst r
    exact AP (xr (Aq [(4,(i64 (-1)))] U))
   ·intro b22 h1
    exact AN (hK17 _ (AR U (zm tb 3 U (AA (xi (q20,Sh.w (i10+1)) h1 (AB U))))))
  ·intro b16 h1
   exact A0 (M12 left9 (Sh.AE h1).symm _ (Aq _ U))

theorem Ml {N:Nat} :∀(n:Nat),∀{p0:AK} {p1:Int} {r:Int},Di N n p0 p1=some r→Ak Tryz.prog 86 [(B8 p0),(i64 p1)] [] (fun v st=>v=(i64 r)∧st=[]):=by
 intro n
 induction n with
 | zero=>intro p0 p1 r h0;cases h0
 | succ n ih=>
  intro p0 p1 r h0
  rw[Di] at h0
  exact MY (fun h=>ih h) h0
theorem Ns {N:Nat} :∀{p0:AK} {p1:Int} {r:Int},JU N p0 p1=some r→Ak Tryz.prog 86 [(B8 p0),(i64 p1)] [] (fun v st=>v=(i64 r)∧st=[]):=by
 intro p0 p1 r h0
 exact Ml N h0
theorem Kx {N:Nat} {p0:AK} {r:Int} (h0:Gl N p0=some r):Ak Tryz.prog 45 [(B8 p0)] [] (fun v st=>v=(i64 r)∧st=[]):=by
 unfold Gl at h0
 refine ai Tryz.func45 U U U U (sr U fun K1 hK1=>BY (m:=0) Aj U U U U U (zq tb U (dn hK1 U (sr U fun K2 hK2=>zq tb U (bs h0 fun q3 gq3 h0=>zc ZG (Ns gq3) rfl U U (zq tb U (dn hK2 U (AJ fun K4 hK4=>?_))))))))
 refine zr tb U U ?_
 refine ci h0 U ?_ ?_ <;> clear h0
 ·intro b6 h0
  refine zr tb U U ?_
  replace h0:=Sh.AE h0
  subst r
  exact AP (xr (Aq [(2,(i64 (-1)))] U))
 ·intro b6 h0
  refine AN (hK4 _ (zr tb U U ?_))
  replace h0:=Sh.AE h0
  subst r
  exact AP (xr (Aq [(2,(i64 (Sh.w (30 - q3))))] U))
theorem Ks {N:Nat} {rec_spec_typeOf:Ag→(List Int)→AK→Option (Int)} (hrec_spec_typeOf :∀{p0:Ag} {p1:(List Int)} {p2:AK} {r:Int},rec_spec_typeOf p0 p1 p2=some r→Ak Tryz.prog 46 [(Gn p0),(ls eI p1),(B8 p2)] [] (fun v st=>v=(i64 r)∧st=[])) {p0:Ag} {p1:(List Int)} {p2:(List AK)} {p3:Int} {r:Bool} (h0:Gj N rec_spec_typeOf p0 p1 p2 p3=some r):Ak Tryz.prog 87 [(Gn p0),(ls eI p1),(Cx p2),(i64 p3)] [] (fun v st=>v=(.bool r)∧st=[]):=by
 unfold Gj at h0
 refine ai Tryz.func87 U U U U (sr U fun K1 hK1=>BY (m:=0) Aj U U U U U (zq tb U (dn hK1 U (AJ fun K2 hK2=>sr U fun K3 hK3=>zq tb U (zl tb U U (zm tb 2 U (dn hK3 U ?_)))))))
 refine ci h0 U ?_ ?_ <;> clear h0
 ·intro b4 h0
  have b5:decide ((Sh.len p2)=p3)=false:=by simpa using b4
  refine zr tb U U ?_
  replace h0:=Sh.AE h0
  subst r
  exact AP (xr (Aq [(8,(.bool false))] U))
 ·intro b4 h0
  have b7:decide ((Sh.len p2)=p3)=true:=by simpa using b4
  refine AN (hK2 _ (AJ fun K8 hK8=>zr tb U U ?_))
  obtain⟨o11,h1,h0⟩:=Sh.BN h0
  have M11 :∀(_:Unit),o11=Sum.inr ()→∀s,Wk 0 s ⟨27,AM [],[]⟩→K8 s:=by
   intro _ hq s hw
   subst o11
   try dsimp only at h0
   refine hK8 _ (Aa hw (zr tb U U ?_))
   replace h0:=Sh.AE h0
   subst r
   exact AP (xr (Ab (L:=[(8,(.bool true))]) (.same U)))
  refine Ac (Aw (σ:=Int) (fun n v=>EC p0 p1 p2 p3 rec_spec_typeOf n v=some o11) (fun i10=>⟨27,AM [(1,(ls eI p1)),(2,(Cx p2)),(3,(i64 p3)),(4,Ax),(9,(i64 i10))],[(MJ p0.decls p0.funcs)]⟩) N 0 h1 (AB U) (fun _ hv=>by rw[EC] at hv;cases hv) ?_)
  rintro n i10 h1
  try dsimp only at h1 ⊢
  rw[EC] at h1
  refine AJ fun K13 hK13=>zr tb U U ?_
  refine ci h1 U ?_ ?_ <;> clear h1
  ·intro b15 h1
   refine AN (hK13 _ (AJ fun K16 hK16=>Ac (AJ fun K17 hK17=>?_)))
   refine B2 (by kernel_rfl) (by kernel_rfl) (by rfl) ?_
   iterate 4 refine yq tb rfl ?_
   refine bs h1 fun c18 gc18 h1=>yz (FF c18) (Bq A2 U U gc18 (A4 _) rfl) rfl (yq tb U (bs h1 fun q19 gq19 h1=>CH (v:=(i64 q19)) Aj LP (hrec_spec_typeOf gq19) rfl U U (yq tb U (Bh (hK17 _ ?_)))))
   refine ci h1 U ?_ ?_ <;> clear h1
   ·intro b20 h1
    have b21:decide (q19=0)=false:=by simpa using b20
    refine zr tb U U ?_
    replace h1:=Sh.AE h1
    subst o11
    try dsimp only[id] at h0
    replace h0:=Sh.AE h0
    subst r
    exact AP (xr (Aq [(8,(.bool false))] U))
   ·intro b20 h1
    have b23:decide (q19=0)=true:=by simpa using b20
    exact AN (hK16 _ (AR U (zm tb 3 U (AA (xi (Sh.w (i10+1)) h1 (AB U))))))
  ·intro b15 h1
   exact A0 (M11 () (Sh.AE h1).symm _ (Aq _ U))
theorem IP {N:Nat} {p0:(List Ah)} {p1:Int} {r:Int} (h0:FP N p0 p1=some r):Ak Tryz.prog 112 [(BS p0),(i64 p1)] [] (fun v st=>v=(i64 r)∧st=[]):=by
 unfold FP at h0
 refine ai Tryz.func112 U U U U ?_
 iterate 2 refine zr tb rfl rfl ?_
 refine AJ fun K3 hK3=>zr tb U U (bs h0 fun o8 h1 h0=>?_)
 have M8 :∀(n7:Int),o8=n7→∀s,Wk 0 s ⟨21,AM [(5,(i64 n7))],[]⟩→K3 s:=by
  intro n7 hq s hw
  subst o8
  try dsimp only at h0
  refine hK3 _ (Aa hw (zr tb U U ?_))
  replace h0:=Sh.AE h0
  subst r
  exact AP (xr (Ab (L:=[(4,(i64 n7))]) (.same U)))
 refine Ac (Aw (σ:=Int×Int) (fun n v=>DJ p0 p1 n v.1 v.2=some o8) (fun (n5,i6)=>⟨21,AM [(0,(BS p0)),(1,(i64 p1)),(5,(i64 n5)),(6,(i64 i6))],[]⟩) N (0,0) h1 (AB U) (fun _ hv=>by rw[DJ] at hv;cases hv) ?_)
 rintro n ⟨n5,i6⟩ h1
 try dsimp only at h1 ⊢
 rw[DJ] at h1
 refine AJ fun K10 hK10=>zr tb U U ?_
 refine ci h1 U ?_ ?_ <;> clear h1
 ·intro b12 h1
  refine AN (hK10 _ (AJ fun K13 hK13=>Ac (AR U (zm tb 3 U (bs h1 fun c14 gc14 h1=>zx DA gc14 U U U (zm tb 2 U (zl tb U U (zm tb 2 U (dn hK13 U (AR U ?_))))))))))
  exact zm tb 3 U (AA (xi (Sh.w (n5+(Sh.len c14.cons)),Sh.w (i6+1)) h1 (AB U)))
 ·intro b12 h1
  exact A0 (M8 n5 (Sh.AE h1).symm _ (AB U))
theorem Iv {N:Nat} {p0:(List Ah)} {p1:Int} {r:Int} (h0:El N p0 p1=some r):Ak Tryz.prog 88 [(BS p0),(i64 p1)] [] (fun v st=>v=(i64 r)∧st=[]):=by
 unfold El at h0
 refine ai Tryz.func88 U U U U (zr tb U U (AJ fun K2 hK2=>zr tb U U ?_))
 obtain⟨o5,h1,h0⟩:=Sh.BN h0
 have M5 :∀(_:Unit),o5=Sum.inr ()→∀s,Wk 0 s ⟨30,AM [],[]⟩→K2 s:=by
  intro _ hq s hw
  subst o5
  try dsimp only at h0
  refine hK2 _ (Aa hw (zr tb U U ?_))
  replace h0:=Sh.AE h0
  subst r
  exact AP (xr (Ab (L:=[(4,(i64 (-1)))]) (.same U)))
 refine Ac (Aw (σ:=Int) (fun n v=>Cf N p0 p1 n v=some o5) (fun i4=>⟨30,AM [(0,(BS p0)),(1,(i64 p1)),(5,(i64 i4))],[]⟩) N 0 h1 (AB U) (fun _ hv=>by rw[Cf] at hv;cases hv) ?_)
 rintro n i4 h1
 try dsimp only at h1 ⊢
 rw[Cf] at h1
 refine AJ fun K7 hK7=>sr U fun K8 hK8=>zm tb 2 U (zl tb U U (zq tb U (dn hK8 U ?_)))
 refine ci h1 U ?_ ?_ <;> clear h1
 ·intro b9 h1
  refine AN (hK7 _ (AJ fun K10 hK10=>Ac (sr U fun K11 hK11=>zm tb 2 U (bs h1 fun q12 gq12 h1=>zc Uv (IP gq12) rfl U U (zq tb U (dn hK11 U (sr U fun K13 hK13=>zm tb 5 U (bs h1 fun c14 gc14 h1=>?_))))))))
  refine zx DA gc14 U U U (zm tb 2 U (zl tb U U (zm tb 2 U (bs h1 fun q15 gq15 h1=>zc MU (Cj gq15) rfl U U (dn hK13 U ?_)))))
  refine ci h1 U ?_ ?_ <;> clear h1
  ·intro b16 h1
   refine zr tb U U ?_
   replace h1:=Sh.AE h1
   subst o5
   try dsimp only[id] at h0
   replace h0:=Sh.AE h0
   subst r
   exact AP (xr (Ab (L:=[(4,(Kn i4))]) (.same U)))
  ·intro b16 h1
   exact AN (hK10 _ (AR U (zm tb 3 U (AA (xi (Sh.w (i4+1)) h1 (AB U))))))
 ·intro b9 h1
  exact A0 (M5 () (Sh.AE h1).symm _ (AB U))
theorem Hv {N:Nat} {p0:(List Ah)} {p1:Int} {r:(List Int)} (h0:C4 N p0 p1=some r):Ak Tryz.prog 90 [(BS p0),(i64 p1)] [] (fun v st=>v=(ls eI r)∧st=[]):=by
 unfold C4 at h0
 refine ai Tryz.func90 U U U U (zr tb U U (sr U fun K2 hK2=>zm tb 2 U (bs h0 fun q3 gq3 h0=>zc Xs (Iv gq3) rfl U U (zq tb U (dn hK2 U (AJ fun K4 hK4=>zr tb U U ?_))))))
 refine ci h0 U ?_ ?_ <;> clear h0
 ·intro b6 h0
  refine sr U fun K7 hK7=>?_
  refine Bb (m:=0) (l:=([]:List Int)) (enc:=eI) Aj Bu (by decide) rfl U U U U U ?_
  refine zq tb U (dn hK7 U ?_)
  replace h0:=Sh.AE h0
  subst r
  exact AP (Exists.intro ⟨27,AM [(4,(.sl (List.map eI [])))],[]⟩ (And.intro (by refine Wk.trans (Wk.Ey (L:=[(4,(.sl (List.map eI [])))]) (st':=[⟨1,3,1,[]⟩]) (id:=0) rfl (show 0≤0 by decide) (AS fun _=>U) ⟨(.Ey U),trivial⟩ U) ?_;exact Ai [] U (by decide) rfl U .nil (.same U)) (And.intro U U)))
 ·intro b6 h0
  refine AN (hK4 _ (AJ fun K8 hK8=>?_))
  refine B2 (by kernel_rfl) (by kernel_rfl) (by rfl) ?_
  iterate 3 refine yq tb rfl ?_
  refine bs h0 fun c9 gc9 h0=>yx DA gc9 U U U ?_
  iterate 6 refine yq tb rfl ?_
  refine bs h0 fun q10 gq10 h0=>CH (v:=(i64 q10)) Aj Uv (IP gq10) rfl U U (yq tb U (bs h0 fun c11 gc11 h0=>yx H0 gc11 U U U ?_))
  iterate 3 refine yq tb rfl ?_
  refine Bh (hK8 _ ?_)
  replace h0:=Sh.AE h0
  subst r
  exact AP (xr (Ab (L:=[(4,(ls eI c11.fields))]) (.same U)))
theorem KE {N:Nat} {rec_spec_typeOf:Ag→(List Int)→AK→Option (Int)} (hrec_spec_typeOf :∀{p0:Ag} {p1:(List Int)} {p2:AK} {r:Int},rec_spec_typeOf p0 p1 p2=some r→Ak Tryz.prog 46 [(Gn p0),(ls eI p1),(B8 p2)] [] (fun v st=>v=(i64 r)∧st=[])) {p0:Ag} {p1:(List Int)} {p2:(List AK)} {p3:(List Int)} {r:Bool} (h0:G8 N rec_spec_typeOf p0 p1 p2 p3=some r):Ak Tryz.prog 89 [(Gn p0),(ls eI p1),(Cx p2),(ls eI p3)] [] (fun v st=>v=(.bool r)∧st=[]):=by
 unfold G8 at h0
 refine ai Tryz.func89 U U U U (sr U fun K1 hK1=>BY (m:=0) Aj U U U U U (zq tb U (dn hK1 U (AJ fun K2 hK2=>sr U fun K3 hK3=>zq tb U (zl tb U U (zq tb U (zl tb U U (zq tb U ?_))))))))
 refine dn hK3 U ?_
 refine ci h0 U ?_ ?_ <;> clear h0
 ·intro b4 h0
  have b5:decide ((Sh.len p2)=(Sh.len p3))=false:=by simpa using b4
  refine zr tb U U ?_
  replace h0:=Sh.AE h0
  subst r
  exact AP (xr (Aq [(8,(.bool false))] U))
 ·intro b4 h0
  have b7:decide ((Sh.len p2)=(Sh.len p3))=true:=by simpa using b4
  refine AN (hK2 _ (AJ fun K8 hK8=>zr tb U U ?_))
  obtain⟨o11,h1,h0⟩:=Sh.BN h0
  have M11 :∀(_:Unit),o11=Sum.inr ()→∀s,Wk 0 s ⟨33,AM [],[]⟩→K8 s:=by
   intro _ hq s hw
   subst o11
   try dsimp only at h0
   refine hK8 _ (Aa hw (zr tb U U ?_))
   replace h0:=Sh.AE h0
   subst r
   exact AP (xr (Ab (L:=[(8,(.bool true))]) (.same U)))
  refine Ac (Aw (σ:=Int) (fun n v=>Et p0 p1 p2 p3 rec_spec_typeOf n v=some o11) (fun i10=>⟨33,AM [(1,(ls eI p1)),(2,(Cx p2)),(3,(ls eI p3)),(4,Ax),(9,(i64 i10))],[(MJ p0.decls p0.funcs)]⟩) N 0 h1 (AB U) (fun _ hv=>by rw[Et] at hv;cases hv) ?_)
  rintro n i10 h1
  try dsimp only at h1 ⊢
  rw[Et] at h1
  refine AJ fun K13 hK13=>sr U fun K14 hK14=>zm tb 2 U (zl tb U U (zq tb U (dn hK14 U ?_)))
  refine ci h1 U ?_ ?_ <;> clear h1
  ·intro b15 h1
   refine AN (hK13 _ (AJ fun K16 hK16=>Ac (AJ fun K17 hK17=>?_)))
   refine B2 (by kernel_rfl) (by kernel_rfl) (by rfl) ?_
   iterate 4 refine yq tb rfl ?_
   refine bs h1 fun c18 gc18 h1=>yz (FF c18) (Bq A2 U U gc18 (A4 _) rfl) rfl (yq tb U (bs h1 fun q19 gq19 h1=>CH (v:=(i64 q19)) Aj LP (hrec_spec_typeOf gq19) rfl U U ?_))
   iterate 2 refine yq tb rfl ?_
   refine bs h1 fun c20 gc20 h1=>yx Bu gc20 U U U ?_
   iterate 2 refine yq tb rfl ?_
   refine Bh (hK17 _ ?_)
   refine ci h1 U ?_ ?_ <;> clear h1
   ·intro b21 h1
    have b22:decide (q19=c20)=false:=by simpa using b21
    refine zr tb U U ?_
    replace h1:=Sh.AE h1
    subst o11
    try dsimp only[id] at h0
    replace h0:=Sh.AE h0
    subst r
    exact AP (xr (Aq [(8,(.bool false))] U))
   ·intro b21 h1
    have b24:decide (q19=c20)=true:=by simpa using b21
    exact AN (hK16 _ (AR U (zm tb 3 U (AA (xi (Sh.w (i10+1)) h1 (AB U))))))
  ·intro b15 h1
   exact A0 (M11 () (Sh.AE h1).symm _ (Aq _ U))
theorem IY {p0:(List Int)} {r:(List Int)} (h0:Du p0=some r):Ak Tryz.prog 49 [(ls eI p0)] [] (fun v st=>v=(ow 0 0 r)∧st=[(BT r)]):=by
 unfold Du at h0
 refine ai Tryz.func49 U U U U (zr tb U U (sr U fun K2 hK2=>?_))
 refine Bb (m:=0) (l:=([]:List Int)) (enc:=eI) Aj Bu (by decide) rfl U U U U U ?_
 refine zq tb U (bs h0 fun l3 gl3 h0=>FR (l2:=p0) Aj Bu U U U U O0 (fun _=>U) gl3 U (zq tb U (dn hK2 U ?_)))
 replace h0:=Sh.AE h0
 subst r
 exact AP (xr (Dv (L:=[(2,(ow 0 0 l3))]) (st':=[(BT l3)]) (.pure (AS fun _=>U) .nil) (.same U)))
theorem JT {p0:(List Int)} {p1:(List Int)} {r:(List Int)} (h0:Fm p0 p1=some r):Ak Tryz.prog 91 [(ls eI p0),(ls eI p1)] [] (fun v st=>v=(ow 0 0 r)∧st=[(BT r)]):=by
 unfold Fm at h0
 refine ai Tryz.func91 U U U U (zr tb U U (sr U fun K2 hK2=>zq tb U (bs h0 fun q3 gq3 h0=>BW (v':=(ow 0 0 q3)) Aj W4 (IY gq3) rfl U ⟨(Br fun _=>U),trivial⟩ U U (zq tb U (bs h0 fun l4 gl4 h0=>FR (l2:=p1) Aj Bu U U U U O0 (fun _=>U) gl4 U (zq tb U (dn hK2 U ?_)))))))
 replace h0:=Sh.AE h0
 subst r
 exact AP (xr (Dv (L:=[(4,(ow 0 0 l4))]) (st':=[(BT l4)]) (.pure (AS fun _=>U) .nil) (.same U)))
theorem QM {N:Nat} {p0:(List Ah)} {p1:Int} {r:(List Int)} (h0:IX N p0 p1=some r):Ak Tryz.prog 110 [(BS p0),(i64 p1)] [] (fun v st=>v=(ow 0 0 r)∧st=[(BT r)]):=by
 unfold IX at h0
 refine ai Tryz.func110 U U U U (zr tb U U (sr U fun K2 hK2=>?_))
 refine Bb (m:=0) (l:=([]:List Int)) (enc:=eI) Aj Bu (by decide) rfl U U U U U ?_
 refine zq tb U (dn hK2 U (AJ fun K3 hK3=>sr U fun K4 hK4=>zm tb 2 U (zl tb U U (bs h0 fun q5 gq5 h0=>zc MU (Cj gq5) rfl U U (zq tb U (dn hK4 U ?_))))))
 refine ci h0 U ?_ ?_ <;> clear h0
 ·intro b6 h0
  have b7:q5=false:=by simpa using b6
  refine zr tb U U ?_
  replace h0:=Sh.AE h0
  subst r
  exact AP (xr (Ab (L:=[(4,VM)]) (.same U)))
 ·intro b6 h0
  have b9:q5=true:=by simpa using b6
  refine AN (hK3 _ (AJ fun K10 hK10=>zr tb U U (bs h0 fun o15 h1 h0=>?_)))
  have M15 :∀(l14:(List Int)),o15=l14→∀s,Wk 0 s ⟨35,AM [(5,(ow 0 0 l14))],[(BT l14)]⟩→K10 s:=by
   intro l14 hq s hw
   subst o15
   try dsimp only at h0
   refine hK10 _ (Aa hw (zr tb U U ?_))
   replace h0:=Sh.AE h0
   subst r
   exact AP (xr (Ab (L:=[(4,(ow 0 0 l14))]) (.same U)))
  refine Ac (Aw (σ:=Int×(List Int)) (fun n v=>D3 N p0 p1 n v.1 v.2=some o15) (fun (i12,l13)=>⟨35,AM [(0,(BS p0)),(1,(i64 p1)),(5,(ow 0 0 l13)),(6,(i64 i12))],[(BT l13)]⟩) N (0,[]) h1 (AB U) (fun _ hv=>by rw[D3] at hv;cases hv) ?_)
  rintro n ⟨i12,l13⟩ h1
  try dsimp only at h1 ⊢
  rw[D3] at h1
  refine AJ fun K17 hK17=>sr U fun K18 hK18=>zm tb 4 U (bs h1 fun c19 gc19 h1=>zx DA gc19 U U U (zm tb 2 U (zl tb U U (zq tb U (dn hK18 U ?_)))))
  refine ci h1 U ?_ ?_ <;> clear h1
  ·intro b20 h1
   refine AN (hK17 _ (AJ fun K21 hK21=>Ac (AR U (zm tb 4 U (bs h1 fun q22 gq22 h1=>zc Uv (IP gq22) rfl U U (zm tb 2 U ?_))))))
   refine Bb (m:=1) (l:=[Sh.w (q22+i12)]) (enc:=eI) Aj Bu (by decide) rfl U U U U U ?_
   refine bs h1 fun l23 gl23 h1=>FR (l2:=[Sh.w (q22+i12)]) Aj Bu U U U U (Ig U U) (fun _=>U) gl23 U (zq tb U (dn hK21 U (AR U (zm tb 3 U ?_))))
   exact AA (xi (Sh.w (i12+1),l23) h1 (by refine Wk.trans (Dv (L:=[(0,(BS p0)),(1,(i64 p1)),(5,(ow 0 0 l23)),(6,(Kn i12))]) (st':=[(BT l23),(ro 0 3 1 eI [Sh.w (q22+i12)])]) (.pure (AS fun _=>U) (.pure (AS fun _=>U) .nil)) (.same U)) ?_;exact Ai [0] U (by decide) rfl U (.pure (AS fun _=>U) .nil) (.same U)))
  ·intro b20 h1
   exact A0 (M15 l13 (Sh.AE h1).symm _ (AB U))
theorem N5 {N:Nat} {rec_spec_typeOf:Ag→(List Int)→AK→Option (Int)} (hrec_spec_typeOf :∀{p0:Ag} {p1:(List Int)} {p2:AK} {r:Int},rec_spec_typeOf p0 p1 p2=some r→Ak Tryz.prog 46 [(Gn p0),(ls eI p1),(B8 p2)] [] (fun v st=>v=(i64 r)∧st=[])) {p0:Ag} {p1:(List Int)} {p2:AK} {r:Int} (h0:Hk N rec_spec_typeOf p0 p1 p2=some r):Ak Tryz.prog 92 [(Gn p0),(ls eI p1),(B8 p2)] [] (fun v st=>v=(i64 r)∧st=[]):=by
 unfold Hk at h0
 refine ai Tryz.func92 U U U U (sr U fun K1 hK1=>BY (m:=0) Aj U U U U U (BY (m:=1) Aj U U U U U (zq tb U (dn hK1 U (sr U fun K2 hK2=>zm tb 4 U (bs h0 fun q3 gq3 h0=>BW (v':=(ow 2 0 q3)) Aj Zr (QM gq3) rfl U ⟨(Br fun _=>U),trivial⟩ U U (zq tb U (dn hK2 U ?_))))))))
 refine AJ fun K4 hK4=>AJ fun K5 hK5=>bs h0 fun o7 h1 h0=>?_
 have M7 :∀(t6:Bool),o7=t6→∀s,Wk 0 s ⟨79,AM [(1,(ls eI p1)),(3,Ax),(5,Ao),(7,(ow 2 0 q3)),(38,(.bool t6))],[(MJ p0.decls p0.funcs),(OA p2.op p2.num p2.kids),(BT q3)]⟩→K5 s:=by
  intro t6 hq s hw
  subst o7
  try dsimp only at h0
  refine hK5 _ (Aa hw ?_)
  refine ci h0 U ?_ ?_ <;> clear h0
  ·intro b8 h0
   refine zr tb U U ?_
   replace h0:=Sh.AE h0
   subst r
   exact AP (xr (Aq [(6,(i64 (-1)))] U))
  ·intro b8 h0
   refine AN (hK4 _ (AJ fun K10 hK10=>?_))
   refine Cd 14 (by kernel_rfl) (by kernel_rfl) (by rfl) ?_
   iterate 5 refine yq tb rfl ?_
   refine bs h0 fun c11 gc11 h0=>yz B0 (BZ Bu U U U U gc11) rfl (yz (i64 c11) (BG Em U U (Fy gc11) rfl) rfl (bs h0 fun q12 gq12 h0=>CH (v:=(ls eI q12)) Aj Xn (Hv gq12) rfl U U (bs h0 fun q13 gq13 h0=>?_)))
   refine CH (v:=(ls eI q13)) Aj XY (Ak.wk (JT gq13) (by refine Wk.trans (Wk.Ey (L:=[(0,(ls eI q13))]) (st':=[⟨1,3,1,[]⟩]) (id:=0) rfl (show 0≤0 by decide) (AS fun _=>U) ⟨(.Ey U),trivial⟩ U) ?_;exact Ai [] U (by decide) rfl U .nil (.same U))) rfl U U ?_
   iterate 2 refine yq tb rfl ?_
   refine bs h0 fun c14 gc14 h0=>yz (FF c14) (Bq A2 U U gc14 (A4 _) rfl) rfl (yq tb U (bs h0 fun q15 gq15 h0=>CH (v:=(i64 q15)) Aj LP (hrec_spec_typeOf gq15) rfl U U (Bh (zq tb U (dn hK10 U (AJ fun K16 hK16=>zr tb U U ?_))))))
   obtain⟨o19,h1,h0⟩:=Sh.BN h0
   have M19 :∀(_:Unit),o19=Sum.inr ()→∀s,Wk 0 s ⟨79,AM [(8,(i64 q15))],[]⟩→K16 s:=by
    intro _ hq s hw
    subst o19
    try dsimp only at h0
    refine hK16 _ (Aa hw (zr tb U U ?_))
    replace h0:=Sh.AE h0
    subst r
    exact AP (xr (Ab (L:=[(6,(i64 q15))]) (.same U)))
   refine Ac (Aw (σ:=Int) (fun n v=>C2 N p0 p1 p2 q15 q3 rec_spec_typeOf n v=some o19) (fun i18=>⟨79,AM [(1,(ls eI p1)),(3,Ax),(5,Ao),(7,(ow 2 0 q3)),(8,(i64 q15)),(9,(i64 i18))],[(MJ p0.decls p0.funcs),(OA p2.op p2.num p2.kids),(BT q3)]⟩) N 1 h1 (AB U) (fun _ hv=>by rw[C2] at hv;cases hv) ?_)
   rintro n i18 h1
   try dsimp only at h1 ⊢
   rw[C2] at h1
   refine AJ fun K21 hK21=>sr U fun K22 hK22=>zm tb 2 U (zz (Bx q3) (Ct FU U U U) rfl (zq tb U (dn hK22 U ?_)))
   refine ci h1 U ?_ ?_ <;> clear h1
   ·intro b23 h1
    refine AN (hK21 _ (AJ fun K24 hK24=>Ac (AJ fun K25 hK25=>?_)))
    refine Cd 18 (by kernel_rfl) (by kernel_rfl) (by rfl) ?_
    iterate 6 refine yq tb rfl ?_
    refine bs h1 fun c26 gc26 h1=>yz (.ptr 2 0 (Int.toNat i18) 0) (BZ Bu U U U U gc26) rfl (yz (i64 c26) (BG Em U U (Fy gc26) rfl) rfl (bs h1 fun q27 gq27 h1=>CH (v:=(ls eI q27)) Aj Xn (Hv gq27) rfl U U (bs h1 fun q28 gq28 h1=>?_)))
    refine CH (v:=(ls eI q28)) Aj XY (Ak.wk (JT gq28) (by refine Wk.trans (Wk.Ey (L:=[(0,(ls eI q28))]) (st':=[⟨1,3,1,[]⟩]) (id:=0) rfl (show 0≤0 by decide) (AS fun _=>U) ⟨(.Ey U),trivial⟩ U) ?_;exact Ai [] U (by decide) rfl U .nil (.same U))) rfl U U ?_
    iterate 4 refine yq tb rfl ?_
    refine bs h1 fun c29 gc29 h1=>yz (FF c29) (Bq A2 U U gc29 (A4 _) rfl) rfl (yq tb U (bs h1 fun q30 gq30 h1=>CH (v:=(i64 q30)) Aj LP (hrec_spec_typeOf gq30) rfl U U (yq tb U (Bh (zq tb U (dn hK25 U ?_))))))
    refine ci h1 U ?_ ?_ <;> clear h1
    ·intro b31 h1
     have b32:decide (q30=q15)=false:=by simpa using b31
     refine zr tb U U ?_
     replace h1:=Sh.AE h1
     subst o19
     try dsimp only[id] at h0
     replace h0:=Sh.AE h0
     subst r
     exact AP (xr (Aq [(6,(i64 (-1)))] U))
    ·intro b31 h1
     have b34:decide (q30=q15)=true:=by simpa using b31
     exact AN (hK24 _ (AR U (zm tb 3 U (AA (xi (Sh.w (i18+1)) h1 (AB U))))))
   ·intro b23 h1
    exact A0 (M19 () (Sh.AE h1).symm _ (Aq _ U))
 refine B2 (by kernel_rfl) (by kernel_rfl) (by rfl) ?_
 refine yq tb U (yz (Bx q3) (Ct FU U U U) rfl ?_)
 iterate 2 refine yq tb rfl ?_
 rcases Sh.Az h1 with ⟨b35,h1⟩ | ⟨b35,h1⟩
 ·refine ys b35 U ?_
  iterate 6 refine ys b35 rfl ?_
  refine yt b35 U (yq tb U ?_)
  iterate 10 refine ys rfl rfl ?_
  exact yt U U (Bh (M7 true (Sh.AE h1).symm _ (AB U)))
 ·refine yg tb b35 U (yg tb b35 U (Jd (v:=(Hx p2)) (DH U U b35) rfl (Ci RR U) (yg tb b35 U (Jd (v:=(Bx q3)) (DH U U b35) rfl (Ct FU U U U) ?_))))
  iterate 2 refine yg tb b35 rfl ?_
  refine yf b35 U (yq tb U ?_)
  rcases Sh.Az h1 with ⟨b36,h1⟩ | ⟨b36,h1⟩
  ·refine ys b36 U ?_
   iterate 9 refine ys b36 rfl ?_
   exact yt b36 U (Bh (M7 true (Sh.AE h1).symm _ (AB U)))
  ·refine yg tb b36 U ?_
   iterate 3 refine yg tb b36 rfl ?_
   refine bs h1 fun c37 gc37 h1=>Jd (v:=(FF c37)) (DH U U b36) rfl (Bq A2 U U gc37 (A4 _) rfl) (yg tb b36 U (bs h1 fun q38 gq38 h1=>CH (v:=(i64 q38)) (DH U U b36) LP (hrec_spec_typeOf gq38) rfl U U ?_))
   iterate 3 refine yg tb b36 rfl ?_
   exact yf b36 U (Bh (M7 (!decide (q38=p2.num)) (Sh.AE h1).symm _ (AB U)))
theorem PQ {N:Nat} {p0:(List Ah)} {p1:Int} {p2:Int} {r:Int} (h0:Hg N p0 p1 p2=some r):Ak Tryz.prog 122 [(BS p0),(i64 p1),(i64 p2)] [] (fun v st=>v=(i64 r)∧st=[]):=by
 unfold Hg at h0
 refine ai Tryz.func122 U U U U (zr tb U U (AJ fun K2 hK2=>zr tb U U ?_))
 obtain⟨o5,h1,h0⟩:=Sh.BN h0
 have M5 :∀(_:Unit),o5=Sum.inr ()→∀s,Wk 0 s ⟨41,AM [],[]⟩→K2 s:=by
  intro _ hq s hw
  subst o5
  try dsimp only at h0
  refine hK2 _ (Aa hw (zr tb U U ?_))
  replace h0:=Sh.AE h0
  subst r
  exact AP (xr (Ab (L:=[(6,(i64 (-1)))]) (.same U)))
 refine Ac (Aw (σ:=Int) (fun n v=>DY p0 p1 p2 n v=some o5) (fun i4=>⟨41,AM [(0,(BS p0)),(1,(i64 p1)),(2,(i64 p2)),(7,(i64 i4))],[]⟩) N 0 h1 (AB U) (fun _ hv=>by rw[DY] at hv;cases hv) ?_)
 rintro n i4 h1
 try dsimp only at h1 ⊢
 rw[DY] at h1
 refine AJ fun K7 hK7=>sr U fun K8 hK8=>zm tb 2 U (zl tb U U (zq tb U (dn hK8 U ?_)))
 refine ci h1 U ?_ ?_ <;> clear h1
 ·intro b9 h1
  refine AN (hK7 _ (AJ fun K10 hK10=>Ac (AJ fun K11 hK11=>bs h1 fun o13 h2 h1=>?_)))
  have M13 :∀(t12:Bool),o13=t12→∀s,Wk 0 s ⟨41,AM [(0,(BS p0)),(1,(i64 p1)),(2,(i64 p2)),(7,(i64 i4)),(38,(.bool t12))],[]⟩→K11 s:=by
   intro t12 hq s hw
   subst o13
   try dsimp only at h1
   refine hK11 _ (Aa hw ?_)
   refine ci h1 U ?_ ?_ <;> clear h1
   ·intro b14 h1
    refine zr tb U U ?_
    replace h1:=Sh.AE h1
    subst o5
    try dsimp only[id] at h0
    replace h0:=Sh.AE h0
    subst r
    exact AP (xr (Ab (L:=[(6,(Kn i4))]) (.same U)))
   ·intro b14 h1
    exact AN (hK10 _ (AR U (zm tb 3 U (AA (xi (Sh.w (i4+1)) h1 (AB U))))))
  refine AR U (zm tb 2 U (bs h2 fun c16 gc16 h2=>zx DA gc16 U U U (zm tb 2 U (zl tb U U (zm tb 2 U ?_)))))
  rcases Sh.Az h2 with ⟨b17,h2⟩ | ⟨b17,h2⟩
  ·refine zg tb b17 U (zg tb b17 U (BU (v:=(.B1 (Ad c16) 0)) (DH U U b17) rfl (Eo DA U U gc16 U) ?_))
   iterate 4 refine zg tb b17 rfl ?_
   refine zt b17 U (zq tb U ?_)
   rcases Sh.Az h2 with ⟨b18,h2⟩ | ⟨b18,h2⟩
   ·refine zg tb b18 U (zg tb b18 U (BU (v:=(.B1 (Ad c16) 0)) (DH U U b18) rfl (Eo DA U U gc16 U) ?_))
    iterate 4 refine zg tb b18 rfl ?_
    exact zt b18 U (AA (M13 (decide (c16.to=p2)) (Sh.AE h2).symm _ (AB U)))
   ·refine zs b18 U ?_
    iterate 6 refine zs b18 rfl ?_
    exact zf b18 U (AA (M13 false (Sh.AE h2).symm _ (AB U)))
  ·refine zs b17 U ?_
   iterate 6 refine zs b17 rfl ?_
   refine zf b17 U (zq tb U ?_)
   iterate 7 refine zs rfl rfl ?_
   exact zf U U (AA (M13 false (Sh.AE h2).symm _ (AB U)))
 ·intro b9 h1
  exact A0 (M5 () (Sh.AE h1).symm _ (AB U))
theorem Oa {N:Nat} {rec_spec_typeOf:Ag→(List Int)→AK→Option (Int)} (hrec_spec_typeOf :∀{p0:Ag} {p1:(List Int)} {p2:AK} {r:Int},rec_spec_typeOf p0 p1 p2=some r→Ak Tryz.prog 46 [(Gn p0),(ls eI p1),(B8 p2)] [] (fun v st=>v=(i64 r)∧st=[])) {p0:Ag} {p1:(List Int)} {p2:AK} {r:Int} (h0:Ex N rec_spec_typeOf p0 p1 p2=some r):Ak Tryz.prog 93 [(Gn p0),(ls eI p1),(B8 p2)] [] (fun v st=>v=(i64 r)∧st=[]):=by
 unfold Ex at h0
 refine ai Tryz.func93 U U U U (sr U fun K1 hK1=>BY (m:=0) Aj U U U U U (BY (m:=1) Aj U U U U U (zq tb U (dn hK1 U (AJ fun K2 hK2=>sr U fun K3 hK3=>zm tb 4 U (zl tb U U (zq tb U (bs h0 fun q4 gq4 h0=>?_))))))))
 refine zc MU (Cj gq4) rfl U U (zq tb U (dn hK3 U ?_))
 refine ci h0 U ?_ ?_ <;> clear h0
 ·intro b5 h0
  have b6:q4=false:=by simpa using b5
  refine zr tb U U ?_
  replace h0:=Sh.AE h0
  subst r
  exact AP (xr (Aq [(6,(i64 (-1)))] U))
 ·intro b5 h0
  have b8:q4=true:=by simpa using b5
  refine AN (hK2 _ (sr U fun K9 hK9=>zm tb 4 U (bs h0 fun c10 gc10 h0=>zx CQ gc10 U U U (zq tb U (A7 (m:=2) Aj Mu U U (BI Aj O9 U U U U U U (show 0+5≤5 by decide) rfl (dn hK9 U (sr U fun K11 hK11=>zm tb 2 U (zl tb U U ?_)))))))))
  refine zq tb U (dn hK11 U (AJ fun K12 hK12=>zr tb U U ?_))
  refine ci h0 U ?_ ?_ <;> clear h0
  ·intro b14 h0
   refine AJ fun K15 hK15=>sr U fun K16 hK16=>zm tb 6 U (bs h0 fun q17 gq17 h0=>zc Xp (KE hrec_spec_typeOf gq17) rfl U U (zq tb U (dn hK16 U ?_)))
   refine ci h0 U ?_ ?_ <;> clear h0
   ·intro b18 h0
    have b19:q17=false:=by simpa using b18
    refine zr tb U U ?_
    replace h0:=Sh.AE h0
    subst r
    exact AP (xr (Aq [(6,(i64 (-1)))] U))
   ·intro b18 h0
    have b21:q17=true:=by simpa using b18
    refine AN (hK15 _ (zr tb U U ?_))
    replace h0:=Sh.AE h0
    subst r
    exact AP (xr (Aq [(6,(i64 c10.result))] U))
  ·intro b14 h0
   refine AN (hK12 _ (AJ fun K23 hK23=>AJ fun K24 hK24=>bs h0 fun o26 h1 h0=>?_))
   have M26 :∀(t25:Bool),o26=t25→∀s,Wk 0 s ⟨65,AM [(3,Ax),(7,Ao),(8,(i64 (Sh.len c10.params))),(53,(.bool t25))],[(MJ p0.decls p0.funcs),⟨0,48,5,[(Q4 c10)]⟩]⟩→K24 s:=by
    intro t25 hq s hw
    subst o26
    try dsimp only at h0
    refine hK24 _ (Aa hw ?_)
    refine ci h0 U ?_ ?_ <;> clear h0
    ·intro b27 h0
     refine zr tb U U ?_
     replace h0:=Sh.AE h0
     subst r
     exact AP (xr (Aq [(6,(i64 (-1)))] U))
    ·intro b27 h0
     refine AN (hK23 _ (AJ fun K29 hK29=>?_))
     refine B2 (by kernel_rfl) (by kernel_rfl) (by rfl) ?_
     iterate 6 refine yq tb rfl ?_
     refine bs h0 fun c30 gc30 h0=>yx Bu gc30 U U U ?_
     iterate 3 refine yq tb rfl ?_
     refine bs h0 fun q31 gq31 h0=>CH (v:=(i64 q31)) Aj Zi (PQ gq31) rfl U U (yq tb U (Bh (hK29 _ ?_)))
     replace h0:=Sh.AE h0
     subst r
     exact AP (xr (Aq [(6,(i64 q31))] U))
   refine Cd 14 (by kernel_rfl) (by kernel_rfl) (by rfl) ?_
   iterate 3 refine yq tb rfl ?_
   rcases Sh.Az h1 with ⟨b32,h1⟩ | ⟨b32,h1⟩
   ·refine ys b32 U ?_
    iterate 10 refine ys b32 rfl ?_
    refine Bh (zt b32 U ?_)
    exact AA (M26 true (Sh.AE h1).symm _ (Ai [0,2] U (by decide) rfl U (.raw U U (.raw U U .nil)) (.same U)))
   ·refine yg tb b32 U ?_
    iterate 7 refine yg tb b32 rfl ?_
    refine bs h1 fun l33 gl33 h1=>Vf (i:=0) (j:=Sh.w ((Sh.len c10.params) - 1)) (DH U U b32) Bu U U U (fun _=>U) gl33 (bs h1 fun q34 gq34 h1=>CH (v:=(.bool q34)) (DH U U b32) Xp (KE hrec_spec_typeOf gq34) rfl U U (yg tb b32 U (Bh (zf b32 U ?_))))
    exact AA (M26 (!q34) (Sh.AE h1).symm _ (Ai [0,2] U (by decide) rfl U (.raw U U (.raw U U .nil)) (.same U)))
theorem PS {p0:(List Ah)} {p1:Int} {r:Bool} (h0:HT p0 p1=some r):Ak Tryz.prog 94 [(BS p0),(i64 p1)] [] (fun v st=>v=(.bool r)∧st=[]):=by
 unfold HT at h0
 refine ai Tryz.func94 U U U U (zr tb U U (AJ fun K2 hK2=>bs h0 fun o4 h1 h0=>?_))
 have M4 :∀(t3:Bool),o4=t3→∀s,Wk 0 s ⟨19,AM [(4,(.bool t3))],[]⟩→K2 s:=by
  intro t3 hq s hw
  subst o4
  try dsimp only at h0
  refine hK2 _ (Aa hw ?_)
  replace h0:=Sh.AE h0
  subst r
  exact AP (xr (Ab (L:=[(4,(.bool t3))]) (.same U)))
 refine AR U (zm tb 2 U (zl tb U U (bs h1 fun q5 gq5 h1=>zc MU (Cj gq5) rfl U U (zq tb U ?_))))
 rcases Sh.Az h1 with ⟨b6,h1⟩ | ⟨b6,h1⟩
 ·exact zg tb b6 U (zg tb b6 U (zg tb b6 U (bs h1 fun c7 gc7 h1=>BU (v:=(.B1 (Ad c7) 0)) (DH U U b6) rfl (Eo DA U U gc7 U) (zg tb b6 U (zg tb b6 U (BU (v:=(i64 (Sh.len c7.cons))) (DH U U b6) rfl (Ci Nc U) (zg tb b6 U (zt b6 U (zq tb U (AA (M4 (decide ((Sh.len c7.cons)=0)) (Sh.AE h1).symm _ (AB U))))))))))))
 ·refine zs b6 U ?_
  iterate 7 refine zs b6 rfl ?_
  exact zf b6 U (zq tb U (AA (M4 false (Sh.AE h1).symm _ (AB U))))
theorem OX {N:Nat} {rec_spec_typeOf:Ag→(List Int)→AK→Option (Int)} (hrec_spec_typeOf :∀{p0:Ag} {p1:(List Int)} {p2:AK} {r:Int},rec_spec_typeOf p0 p1 p2=some r→Ak Tryz.prog 46 [(Gn p0),(ls eI p1),(B8 p2)] [] (fun v st=>v=(i64 r)∧st=[])) {p0:Ag} {p1:(List Int)} {p2:AK} {r:Int} (h0:Bd N rec_spec_typeOf p0 p1 p2=some r):Ak Tryz.prog 46 [(Gn p0),(ls eI p1),(B8 p2)] [] (fun v st=>v=(i64 r)∧st=[]):=by
 unfold Bd at h0
 refine ai Tryz.func46 U U U U (sr U fun K1 hK1=>BY (m:=0) Aj U U U U U (BY (m:=1) Aj U U U U U (zq tb U (dn hK1 U (zr tb U U (AJ fun K3 hK3=>?_))))))
 obtain⟨o4,h1,h0⟩:=Sh.BN h0
 have M4 :∀(_:Unit),o4=Sum.inr ()→∀s,Wk 0 s ⟨215,AM [],[]⟩→K3 s:=by
  intro _ hq s hw
  subst o4
  try dsimp only at h0
  refine hK3 _ (Aa hw (zr tb U U ?_))
  replace h0:=Sh.AE h0
  subst r
  exact AP (xr (Ab (L:=[(6,(i64 (-1)))]) (.same U)))
 refine zr tb U U (Ac (zr tb U U ?_))
 refine ci h1 U ?_ ?_ <;> clear h1
 ·intro b8 h1
  refine AJ fun K9 hK9=>bs h1 fun o11 h2 h1=>?_
  have M11 :∀(t10:Bool),o11=t10→∀s,Wk 0 s ⟨215,AM [(26,(.bool t10))],[]⟩→K9 s:=by
   intro t10 hq s hw
   subst o11
   try dsimp only at h1
   refine hK9 _ (Aa hw ?_)
   refine ci h1 U ?_ ?_ <;> clear h1
   ·intro b12 h1
    refine zr tb U U ?_
    replace h1:=Sh.AE h1
    subst o4
    try dsimp only[id] at h0
    replace h0:=Sh.AE h0
    subst r
    exact AP (xr (Ab (L:=[(6,(i64 0))]) (.same U)))
   ·intro b12 h1
    exact AN (M4 () (Sh.AE h1).symm _ (AB U))
  refine AR U (zm tb 2 U (zl tb U U (zm tb 2 U ?_)))
  rcases Sh.Az h2 with ⟨b14,h2⟩ | ⟨b14,h2⟩
  ·exact zg tb b14 U (zg tb b14 U (bs h2 fun q15 gq15 h2=>zd b14 MU (Cj gq15) rfl U U U (zt b14 U (AA (M11 q15 (Sh.AE h2).symm _ (Aq _ U))))))
  ·exact zs b14 U (zs b14 U (zs b14 U (zf b14 U (AA (M11 false (Sh.AE h2).symm _ (Aq _ U))))))
 ·intro b8 h1
  refine zr tb U U ?_
  refine ci h1 U ?_ ?_ <;> clear h1
  ·intro b17 h1
   refine AJ fun K18 hK18=>bs h1 fun o20 h2 h1=>?_
   have M20 :∀(t19:Bool),o20=t19→∀s,Wk 0 s ⟨215,AM [(1,(ls eI p1)),(5,Ax),(40,(.bool t19))],[(OA p2.op p2.num p2.kids)]⟩→K18 s:=by
    intro t19 hq s hw
    subst o20
    try dsimp only at h1
    refine hK18 _ (Aa hw ?_)
    refine ci h1 U ?_ ?_ <;> clear h1
    ·intro b21 h1
     refine sr U fun K22 hK22=>zm tb 3 U (bs h1 fun c23 gc23 h1=>zx Bu gc23 U U U (zm tb 2 U (dn hK22 U ?_)))
     replace h1:=Sh.AE h1
     subst o4
     try dsimp only[id] at h0
     replace h0:=Sh.AE h0
     subst r
     exact AP (xr (Aq [(6,(i64 c23))] U))
    ·intro b21 h1
     exact AN (M4 () (Sh.AE h1).symm _ (Aq _ U))
   refine AR U (zm tb 2 U (zl tb U U (zm tb 2 U ?_)))
   rcases Sh.Az h2 with ⟨b24,h2⟩ | ⟨b24,h2⟩
   ·refine zg tb b24 U (zg tb b24 U (zg tb b24 U (BU (v:=(Bx p1)) (DH U U b24) rfl (Ci FU U) (zg tb b24 U (bs h2 fun q25 gq25 h2=>zd b24 MU (Cj gq25) rfl U U U (zt b24 U ?_))))))
    exact AA (M20 q25 (Sh.AE h2).symm _ (Ai [1] U (by decide) rfl U (.raw U U .nil) (.same U)))
   ·refine zs b24 U ?_
    iterate 5 refine zs b24 rfl ?_
    refine zf b24 U ?_
    exact AA (M20 false (Sh.AE h2).symm _ (Ai [1] U (by decide) rfl U (.raw U U .nil) (.same U)))
  ·intro b17 h1
   refine AJ fun K26 hK26=>bs h1 fun o28 h2 h1=>?_
   have M28 :∀(t27:Bool),o28=t27→∀s,Wk 0 s ⟨215,AM [(1,(ls eI p1)),(3,Ax),(5,Ao),(7,(.bool (decide (p2.num=0)))),(15,(i64 p2.op)),(46,(.bool t27))],[(MJ p0.decls p0.funcs),(OA p2.op p2.num p2.kids)]⟩→K26 s:=by
    intro t27 hq s hw
    subst o28
    try dsimp only at h1
    refine hK26 _ (Aa hw ?_)
    refine ci h1 U ?_ ?_ <;> clear h1
    ·intro b29 h1
     refine AJ fun K30 hK30=>bs h1 fun o32 h2 h1=>?_
     have M32 :∀(t31:Bool),o32=t31→∀s,Wk 0 s ⟨215,AM [(58,(.bool t31))],[]⟩→K30 s:=by
      intro t31 hq s hw
      subst o32
      try dsimp only at h1
      refine hK30 _ (Aa hw ?_)
      refine ci h1 U ?_ ?_ <;> clear h1
      ·intro b33 h1
       refine zr tb U U ?_
       replace h1:=Sh.AE h1
       subst o4
       try dsimp only[id] at h0
       replace h0:=Sh.AE h0
       subst r
       exact AP (xr (Ab (L:=[(6,(i64 0))]) (.same U)))
      ·intro b33 h1
       exact AN (M4 () (Sh.AE h1).symm _ (AB U))
     refine AR U (zm tb 2 U ?_)
     rcases Sh.Az h2 with ⟨b35,h2⟩ | ⟨b35,h2⟩
     ·refine zg tb b35 U ?_
      iterate 3 refine zg tb b35 rfl ?_
      exact bs h2 fun q36 gq36 h2=>zd b35 Y0 (Ks hrec_spec_typeOf gq36) rfl U U U (zt b35 U (AA (M32 q36 (Sh.AE h2).symm _ (Aq _ U))))
     ·refine zs b35 U ?_
      iterate 4 refine zs b35 rfl ?_
      exact zf b35 U (AA (M32 false (Sh.AE h2).symm _ (Aq _ U)))
    ·intro b29 h1
     refine zr tb U U ?_
     refine ci h1 U ?_ ?_ <;> clear h1
     ·intro b38 h1
      refine AJ fun K39 hK39=>bs h1 fun o41 h2 h1=>?_
      have M41 :∀(t40:Bool),o41=t40→∀s,Wk 0 s ⟨215,AM [(68,(.bool t40))],[]⟩→K39 s:=by
       intro t40 hq s hw
       subst o41
       try dsimp only at h1
       refine hK39 _ (Aa hw ?_)
       refine ci h1 U ?_ ?_ <;> clear h1
       ·intro b42 h1
        refine zr tb U U ?_
        replace h1:=Sh.AE h1
        subst o4
        try dsimp only[id] at h0
        replace h0:=Sh.AE h0
        subst r
        exact AP (xr (Ab (L:=[(6,(i64 0))]) (.same U)))
       ·intro b42 h1
        exact AN (M4 () (Sh.AE h1).symm _ (AB U))
      refine AR U (zm tb 2 U ?_)
      rcases Sh.Az h2 with ⟨b44,h2⟩ | ⟨b44,h2⟩
      ·refine zg tb b44 U ?_
       iterate 3 refine zg tb b44 rfl ?_
       exact bs h2 fun q45 gq45 h2=>zd b44 Y0 (Ks hrec_spec_typeOf gq45) rfl U U U (zt b44 U (AA (M41 q45 (Sh.AE h2).symm _ (Aq _ U))))
      ·refine zs b44 U ?_
       iterate 4 refine zs b44 rfl ?_
       exact zf b44 U (AA (M41 false (Sh.AE h2).symm _ (Aq _ U)))
     ·intro b38 h1
      refine zr tb U U ?_
      refine ci h1 U ?_ ?_ <;> clear h1
      ·intro b47 h1
       refine AJ fun K48 hK48=>bs h1 fun o50 h2 h1=>?_
       have M50 :∀(t49:Bool),o50=t49→∀s,Wk 0 s ⟨215,AM [(3,Ax),(5,Ao),(88,(.bool t49))],[(MJ p0.decls p0.funcs),(OA p2.op p2.num p2.kids)]⟩→K48 s:=by
        intro t49 hq s hw
        subst o50
        try dsimp only at h1
        refine hK48 _ (Aa hw ?_)
        refine ci h1 U ?_ ?_ <;> clear h1
        ·intro b51 h1
         refine sr U fun K52 hK52=>zm tb 4 U (bs h1 fun q53 gq53 h1=>zc Xs (Iv gq53) rfl U U (zq tb U (dn hK52 U ?_)))
         replace h1:=Sh.AE h1
         subst o4
         try dsimp only[id] at h0
         replace h0:=Sh.AE h0
         subst r
         exact AP (xr (Aq [(6,(i64 q53))] U))
        ·intro b51 h1
         exact AN (M4 () (Sh.AE h1).symm _ (Aq _ U))
       refine Cd 17 (by kernel_rfl) (by kernel_rfl) (by rfl) ?_
       iterate 4 refine yq tb rfl ?_
       refine bs h2 fun q54 gq54 h2=>CH (v:=(i64 q54)) Aj Xs (Iv gq54) rfl U U ?_
       iterate 2 refine yq tb rfl ?_
       rcases Sh.Az h2 with ⟨b55,h2⟩ | ⟨b55,h2⟩
       ·refine yg tb b55 U ?_
        iterate 7 refine yg tb b55 rfl ?_
        exact bs h2 fun q56 gq56 h2=>CH (v:=(ls eI q56)) (DH U U b55) Xn (Hv gq56) rfl U U (bs h2 fun q57 gq57 h2=>CH (v:=(.bool q57)) (DH U U b55) Xp (KE hrec_spec_typeOf gq57) rfl U U (Bh (zt b55 U (AA (M50 q57 (Sh.AE h2).symm _ (AB U))))))
       ·refine ys b55 U ?_
        iterate 9 refine ys b55 rfl ?_
        exact Bh (zf b55 U (AA (M50 false (Sh.AE h2).symm _ (AB U))))
      ·intro b47 h1
       refine zr tb U U ?_
       refine ci h1 U ?_ ?_ <;> clear h1
       ·intro b59 h1
        refine AJ fun K60 hK60=>bs h1 fun o62 h2 h1=>?_
        have M62 :∀(t61:Bool),o62=t61→∀s,Wk 0 s ⟨215,AM [(1,(ls eI p1)),(3,Ax),(5,Ao),(102,(.bool t61))],[(MJ p0.decls p0.funcs),(OA p2.op p2.num p2.kids)]⟩→K60 s:=by
         intro t61 hq s hw
         subst o62
         try dsimp only at h1
         refine hK60 _ (Aa hw ?_)
         refine ci h1 U ?_ ?_ <;> clear h1
         ·intro b63 h1
          refine AJ fun K64 hK64=>?_
          refine B2 (by kernel_rfl) (by kernel_rfl) (by rfl) ?_
          iterate 4 refine yq tb rfl ?_
          refine bs h1 fun c65 gc65 h1=>yz (FF c65) (Bq A2 U U gc65 (A4 _) rfl) rfl (yq tb U (bs h1 fun q66 gq66 h1=>CH (v:=(i64 q66)) Aj LP (hrec_spec_typeOf gq66) rfl U U (yq tb U (Bh (hK64 _ (zr tb U U ?_))))))
          refine ci h1 U ?_ ?_ <;> clear h1
          ·intro b68 h1
           refine AJ fun K69 hK69=>?_
           refine Cd 10 (by kernel_rfl) (by kernel_rfl) (by rfl) ?_
           iterate 3 refine yq tb rfl ?_
           refine Xg (l:=[q66]) (enc:=eI) Aj Bu (by decide) rfl U U U U (AS fun _=>U) ?_
           refine bs h1 fun q70 gq70 h1=>?_
           refine CH (v:=(ls eI q70)) Aj XY (Ak.wk (JT gq70) (by refine Wk.trans (Wk.Ey (L:=[(0,(ls eI q70))]) (st':=[⟨1,3,1,[]⟩]) (id:=0) rfl (show 0≤0 by decide) (AS fun _=>U) ⟨(.Ey U),trivial⟩ U) ?_;exact Ai [] U (by decide) rfl U .nil (.same U))) rfl U U ?_
           iterate 2 refine yq tb rfl ?_
           refine bs h1 fun c71 gc71 h1=>yz (FF c71) (Bq A2 U U gc71 (A4 _) rfl) rfl (yq tb U (bs h1 fun q72 gq72 h1=>CH (v:=(i64 q72)) Aj LP (hrec_spec_typeOf gq72) rfl U U (Bh (zq tb U (dn hK69 U ?_)))))
           replace h1:=Sh.AE h1
           subst o4
           try dsimp only[id] at h0
           replace h0:=Sh.AE h0
           subst r
           exact AP (xr (Aq [(6,(i64 q72))] U))
          ·intro b68 h1
           exact AN (M4 () (Sh.AE h1).symm _ (Aq _ U))
         ·intro b63 h1
          exact AN (M4 () (Sh.AE h1).symm _ (Aq _ U))
        refine AR U (zm tb 2 U ?_)
        rcases Sh.Az h2 with ⟨b73,h2⟩ | ⟨b73,h2⟩
        ·exact zg tb b73 U (zg tb b73 U (BU (v:=(Hx p2)) (DH U U b73) rfl (Ci RR U) (zg tb b73 U (zt b73 U (AA (M62 (decide ((Sh.len p2.kids)=2)) (Sh.AE h2).symm _ (AB U)))))))
        ·refine zs b73 U ?_
         iterate 3 refine zs b73 rfl ?_
         exact zf b73 U (AA (M62 false (Sh.AE h2).symm _ (AB U)))
       ·intro b59 h1
        refine zr tb U U ?_
        refine ci h1 U ?_ ?_ <;> clear h1
        ·intro b75 h1
         refine AJ fun K76 hK76=>bs h1 fun o78 h2 h1=>?_
         have M78 :∀(t77:Bool),o78=t77→∀s,Wk 0 s ⟨215,AM [(1,(ls eI p1)),(3,Ax),(5,Ao),(140,(.bool t77))],[(MJ p0.decls p0.funcs),(OA p2.op p2.num p2.kids)]⟩→K76 s:=by
          intro t77 hq s hw
          subst o78
          try dsimp only at h1
          refine hK76 _ (Aa hw ?_)
          refine ci h1 U ?_ ?_ <;> clear h1
          ·intro b79 h1
           refine AJ fun K80 hK80=>?_
           refine B2 (by kernel_rfl) (by kernel_rfl) (by rfl) ?_
           iterate 4 refine yq tb rfl ?_
           refine bs h1 fun c81 gc81 h1=>yz (FF c81) (Bq A2 U U gc81 (A4 _) rfl) rfl (yq tb U (bs h1 fun q82 gq82 h1=>CH (v:=(i64 q82)) Aj LP (hrec_spec_typeOf gq82) rfl U U (yq tb U (Bh (hK80 _ (AJ fun K83 hK83=>?_))))))
           refine B2 (by kernel_rfl) (by kernel_rfl) (by rfl) ?_
           iterate 4 refine yq tb rfl ?_
           refine bs h1 fun c84 gc84 h1=>yz (FF c84) (Bq A2 U U gc84 (A4 _) rfl) rfl (yq tb U (bs h1 fun q85 gq85 h1=>CH (v:=(i64 q85)) Aj LP (hrec_spec_typeOf gq85) rfl U U ?_))
           iterate 2 refine yq tb rfl ?_
           refine Bh (hK83 _ ?_)
           refine ci h1 U ?_ ?_ <;> clear h1
           ·intro b86 h1
            refine zr tb U U ?_
            replace h1:=Sh.AE h1
            subst o4
            try dsimp only[id] at h0
            replace h0:=Sh.AE h0
            subst r
            exact AP (xr (Aq [(6,(i64 q82))] U))
           ·intro b86 h1
            exact AN (M4 () (Sh.AE h1).symm _ (Aq _ U))
          ·intro b79 h1
           exact AN (M4 () (Sh.AE h1).symm _ (Aq _ U))
         refine B2 (by kernel_rfl) (by kernel_rfl) (by rfl) ?_
         iterate 2 refine yq tb rfl ?_
         rcases Sh.Az h2 with ⟨b88,h2⟩ | ⟨b88,h2⟩
         ·refine yg tb b88 U (yg tb b88 U (Jd (v:=(Hx p2)) (DH U U b88) rfl (Ci RR U) (yg tb b88 U (yt b88 U (yq tb U ?_)))))
          rcases Sh.Az h2 with ⟨b89,h2⟩ | ⟨b89,h2⟩
          ·refine yg tb b89 U ?_
           iterate 3 refine yg tb b89 rfl ?_
           exact bs h2 fun c90 gc90 h2=>Jd (v:=(FF c90)) (DH U U b89) rfl (Bq A2 U U gc90 (A4 _) rfl) (yg tb b89 U (bs h2 fun q91 gq91 h2=>CH (v:=(i64 q91)) (DH U U b89) LP (hrec_spec_typeOf gq91) rfl U U (yg tb b89 U (yt b89 U (Bh (M78 (decide (q91=0)) (Sh.AE h2).symm _ (AB U)))))))
          ·refine ys b89 U ?_
           iterate 7 refine ys b89 rfl ?_
           exact yf b89 U (Bh (M78 false (Sh.AE h2).symm _ (AB U)))
         ·refine ys b88 U ?_
          iterate 3 refine ys b88 rfl ?_
          refine yf b88 U (yq tb U ?_)
          iterate 8 refine ys rfl rfl ?_
          exact yf U U (Bh (M78 false (Sh.AE h2).symm _ (AB U)))
        ·intro b75 h1
         refine zr tb U U ?_
         refine ci h1 U ?_ ?_ <;> clear h1
         ·intro b93 h1
          refine sr U fun K94 hK94=>zm tb 3 U (bs h1 fun q95 gq95 h1=>zc bH (N5 hrec_spec_typeOf gq95) rfl U U (zq tb U (dn hK94 U ?_)))
          replace h1:=Sh.AE h1
          subst o4
          try dsimp only[id] at h0
          replace h0:=Sh.AE h0
          subst r
          exact AP (xr (Aq [(6,(i64 q95))] U))
         ·intro b93 h1
          refine AJ fun K96 hK96=>bs h1 fun o98 h2 h1=>?_
          have M98 :∀(t97:Bool),o98=t97→∀s,Wk 0 s ⟨215,AM [(1,(ls eI p1)),(3,Ax),(5,Ao),(7,(.bool (decide (p2.num=0)))),(15,(i64 p2.op)),(164,(.bool t97))],[(MJ p0.decls p0.funcs),(OA p2.op p2.num p2.kids)]⟩→K96 s:=by
           intro t97 hq s hw
           subst o98
           try dsimp only at h1
           refine hK96 _ (Aa hw ?_)
           refine ci h1 U ?_ ?_ <;> clear h1
           ·intro b99 h1
            refine sr U fun K100 hK100=>zm tb 3 U (bs h1 fun q101 gq101 h1=>zc aK (Oa hrec_spec_typeOf gq101) rfl U U (zq tb U (dn hK100 U ?_)))
            replace h1:=Sh.AE h1
            subst o4
            try dsimp only[id] at h0
            replace h0:=Sh.AE h0
            subst r
            exact AP (xr (Aq [(6,(i64 q101))] U))
           ·intro b99 h1
            refine zr tb U U ?_
            refine ci h1 U ?_ ?_ <;> clear h1
            ·intro b103 h1
             refine AJ fun K104 hK104=>bs h1 fun o106 h2 h1=>?_
             have M106 :∀(t105:Bool),o106=t105→∀s,Wk 0 s ⟨215,AM [(1,(ls eI p1)),(3,Ax),(5,Ao),(179,(.bool t105))],[(MJ p0.decls p0.funcs),(OA p2.op p2.num p2.kids)]⟩→K104 s:=by
              intro t105 hq s hw
              subst o106
              try dsimp only at h1
              refine hK104 _ (Aa hw ?_)
              refine ci h1 U ?_ ?_ <;> clear h1
              ·intro b107 h1
               refine AJ fun K108 hK108=>?_
               refine B2 (by kernel_rfl) (by kernel_rfl) (by rfl) ?_
               iterate 4 refine yq tb rfl ?_
               refine bs h1 fun c109 gc109 h1=>yz (FF c109) (Bq A2 U U gc109 (A4 _) rfl) rfl (yq tb U (bs h1 fun q110 gq110 h1=>CH (v:=(i64 q110)) Aj LP (hrec_spec_typeOf gq110) rfl U U (yq tb U (Bh (hK108 _ (AJ fun K111 hK111=>bs h1 fun o113 h2 h1=>?_))))))
               have M113 :∀(t112:Bool),o113=t112→∀s,Wk 0 s ⟨215,AM [(3,Ax),(10,(i64 q110)),(207,(.bool t112))],[(MJ p0.decls p0.funcs)]⟩→K111 s:=by
                intro t112 hq s hw
                subst o113
                try dsimp only at h1
                refine hK111 _ (Aa hw ?_)
                refine ci h1 U ?_ ?_ <;> clear h1
                ·intro b114 h1
                 refine sr U fun K115 hK115=>zm tb 4 U (bs h1 fun c116 gc116 h1=>zx DA gc116 U U U (zm tb 3 U (dn hK115 U ?_)))
                 replace h1:=Sh.AE h1
                 subst o4
                 try dsimp only[id] at h0
                 replace h0:=Sh.AE h0
                 subst r
                 exact AP (xr (Aq [(6,(i64 c116.to))] U))
                ·intro b114 h1
                 exact AN (M4 () (Sh.AE h1).symm _ (Aq _ U))
               refine B2 (by kernel_rfl) (by kernel_rfl) (by rfl) ?_
               iterate 3 refine yq tb rfl ?_
               refine bs h2 fun q117 gq117 h2=>CH (v:=(.bool q117)) Aj ax (PS gq117) rfl U U (yq tb U ?_)
               rcases Sh.Az h2 with ⟨b118,h2⟩ | ⟨b118,h2⟩
               ·refine yg tb b118 U ?_
                iterate 3 refine yg tb b118 rfl ?_
                refine bs h2 fun c119 gc119 h2=>Jd (v:=(FF c119)) (DH U U b118) rfl (Bq A2 U U gc119 (A4 _) rfl) (yg tb b118 U (bs h2 fun q120 gq120 h2=>CH (v:=(i64 q120)) (DH U U b118) LP (hrec_spec_typeOf gq120) rfl U U ?_))
                iterate 4 refine yg tb b118 rfl ?_
                refine bs h2 fun c121 gc121 h2=>Jd (v:=(.B1 (Ad c121) 0)) (DH U U b118) rfl (Eo DA U U gc121 U) ?_
                iterate 3 refine yg tb b118 rfl ?_
                refine yt b118 U ?_
                exact Bh (M113 (decide (q120=c121.from_)) (Sh.AE h2).symm _ (Ai [0] U (by decide) rfl U (.raw U U .nil) (.same U)))
               ·refine ys b118 U ?_
                iterate 14 refine ys b118 rfl ?_
                refine yf b118 U ?_
                exact Bh (M113 false (Sh.AE h2).symm _ (Ai [0] U (by decide) rfl U (.raw U U .nil) (.same U)))
              ·intro b107 h1
               exact AN (M4 () (Sh.AE h1).symm _ (Aq _ U))
             refine AR U (zm tb 2 U ?_)
             rcases Sh.Az h2 with ⟨b122,h2⟩ | ⟨b122,h2⟩
             ·exact zg tb b122 U (zg tb b122 U (BU (v:=(Hx p2)) (DH U U b122) rfl (Ci RR U) (zg tb b122 U (zt b122 U (AA (M106 (decide ((Sh.len p2.kids)=2)) (Sh.AE h2).symm _ (AB U)))))))
             ·refine zs b122 U ?_
              iterate 3 refine zs b122 rfl ?_
              exact zf b122 U (AA (M106 false (Sh.AE h2).symm _ (AB U)))
            ·intro b103 h1
             exact AN (M4 () (Sh.AE h1).symm _ (Aq _ U))
          refine zr tb U U ?_
          refine ci h2 U ?_ ?_ <;> clear h2
          ·intro b124 h2
           exact AN (M98 true (Sh.AE h2).symm _ (Ab (L:=[(1,(ls eI p1)),(3,Ax),(5,Ao),(7,(.bool (decide (p2.num=0)))),(15,(i64 p2.op)),(164,(.bool true))]) ⟨.rfl,.rfl,.rfl,.rfl,.rfl,(.of (congrArg AV.bool b124)),trivial⟩))
          ·intro b124 h2
           exact AR U (zm tb 2 U (AA (M98 (decide (p2.op=10)) (Sh.AE h2).symm _ (AB U))))
   refine zr tb U U ?_
   refine ci h2 U ?_ ?_ <;> clear h2
   ·intro b126 h2
    exact AN (M28 true (Sh.AE h2).symm _ (Ab (L:=[(1,(ls eI p1)),(3,Ax),(5,Ao),(7,(.bool (decide (p2.num=0)))),(15,(i64 p2.op)),(46,(.bool true))]) ⟨.rfl,.rfl,.rfl,.rfl,.rfl,(.of (congrArg AV.bool b126)),trivial⟩))
   ·intro b126 h2
    refine zr tb U U ?_
    refine ci h2 U ?_ ?_ <;> clear h2
    ·intro b128 h2
     exact AN (M28 true (Sh.AE h2).symm _ (Ab (L:=[(1,(ls eI p1)),(3,Ax),(5,Ao),(7,(.bool (decide (p2.num=0)))),(15,(i64 p2.op)),(46,(.bool true))]) ⟨.rfl,.rfl,.rfl,.rfl,.rfl,(.of (congrArg AV.bool b128)),trivial⟩))
    ·intro b128 h2
     refine zr tb U U ?_
     refine ci h2 U ?_ ?_ <;> clear h2
     ·intro b130 h2
      exact AN (M28 true (Sh.AE h2).symm _ (Ab (L:=[(1,(ls eI p1)),(3,Ax),(5,Ao),(7,(.bool (decide (p2.num=0)))),(15,(i64 p2.op)),(46,(.bool true))]) ⟨.rfl,.rfl,.rfl,.rfl,.rfl,(.of (congrArg AV.bool b130)),trivial⟩))
     ·intro b130 h2
      exact AR U (zm tb 2 U (AA (M28 (decide (p2.op=4)) (Sh.AE h2).symm _ (AB U))))

theorem O3 {N:Nat} :∀(n:Nat),∀{p0:Ag} {p1:(List Int)} {p2:AK} {r:Int},Ch N n p0 p1 p2=some r→Ak Tryz.prog 46 [(Gn p0),(ls eI p1),(B8 p2)] [] (fun v st=>v=(i64 r)∧st=[]):=by
 intro n
 induction n with
 | zero=>intro p0 p1 p2 r h0;cases h0
 | succ n ih=>
  intro p0 p1 p2 r h0
  rw[Ch] at h0
  exact OX (fun h=>ih h) h0
theorem QX {N:Nat} :∀{p0:Ag} {p1:(List Int)} {p2:AK} {r:Int},Jh N p0 p1 p2=some r→Ak Tryz.prog 46 [(Gn p0),(ls eI p1),(B8 p2)] [] (fun v st=>v=(i64 r)∧st=[]):=by
 intro p0 p1 p2 r h0
 exact O3 N h0
theorem L8 {N:Nat} {p0:Ag} {r:Bool} (h0:Cv N p0=some r):Ak Tryz.prog 19 [(Gn p0)] [] (fun v st=>v=(.bool r)∧st=[]):=by
 unfold Cv at h0
 refine ai Tryz.func19 U U U U (sr U fun K1 hK1=>BY (m:=0) Aj U U U U U (zq tb U (dn hK1 U (AJ fun K2 hK2=>sr U fun K3 hK3=>zq tb U (bs h0 fun q4 gq4 h0=>zc az (N4 gq4) rfl U U (zq tb U (dn hK3 U ?_)))))))
 refine ci h0 U ?_ ?_ <;> clear h0
 ·intro b5 h0
  have b6:q4=false:=by simpa using b5
  refine zr tb U U ?_
  replace h0:=Sh.AE h0
  subst r
  exact AP (xr (Aq [(2,(.bool false))] U))
 ·intro b5 h0
  have b8:q4=true:=by simpa using b5
  refine AN (hK2 _ (AJ fun K9 hK9=>zr tb U U ?_))
  obtain⟨o12,h1,h0⟩:=Sh.BN h0
  have M12 :∀(_:Unit),o12=Sum.inr ()→∀s,Wk 0 s ⟨45,AM [],[]⟩→K9 s:=by
   intro _ hq s hw
   subst o12
   try dsimp only at h0
   refine hK9 _ (Aa hw (zr tb U U ?_))
   replace h0:=Sh.AE h0
   subst r
   exact AP (xr (Ab (L:=[(2,(.bool true))]) (.same U)))
  refine Ac (Aw (σ:=Int) (fun n v=>By N p0 n v=some o12) (fun i11=>⟨45,AM [(1,Ax),(3,(i64 i11))],[(MJ p0.decls p0.funcs)]⟩) N 0 h1 (AB U) (fun _ hv=>by rw[By] at hv;cases hv) ?_)
  rintro n i11 h1
  try dsimp only at h1 ⊢
  rw[By] at h1
  refine AJ fun K14 hK14=>sr U fun K15 hK15=>zm tb 3 U (zl tb U U (zq tb U (dn hK15 U ?_)))
  refine ci h1 U ?_ ?_ <;> clear h1
  ·intro b16 h1
   refine AN (hK14 _ (AJ fun K17 hK17=>Ac (AJ fun K18 hK18=>bs h1 fun o20 h2 h1=>?_)))
   have M20 :∀(t19:Bool),o20=t19→∀s,Wk 0 s ⟨45,AM [(1,Ax),(3,(i64 i11)),(44,(.bool t19))],[(MJ p0.decls p0.funcs)]⟩→K18 s:=by
    intro t19 hq s hw
    subst o20
    try dsimp only at h1
    refine hK18 _ (Aa hw ?_)
    refine ci h1 U ?_ ?_ <;> clear h1
    ·intro b21 h1
     refine zr tb U U ?_
     replace h1:=Sh.AE h1
     subst o12
     try dsimp only[id] at h0
     replace h0:=Sh.AE h0
     subst r
     exact AP (xr (Aq [(2,(.bool false))] U))
    ·intro b21 h1
     exact AN (hK17 _ (AR U (zm tb 3 U (AA (xi (Sh.w (i11+1)) h1 (AB U))))))
   refine B2 (by kernel_rfl) (by kernel_rfl) (by rfl) ?_
   iterate 3 refine yq tb rfl ?_
   refine bs h2 fun c23 gc23 h2=>yx CQ gc23 U U U ?_
   iterate 2 refine yq tb rfl ?_
   refine bs h2 fun q24 gq24 h2=>CH (v:=(i64 q24)) Aj Yt (Kx gq24) rfl U U ?_
   iterate 2 refine yq tb rfl ?_
   rcases Sh.Az h2 with ⟨b25,h2⟩ | ⟨b25,h2⟩
   ·refine ys b25 U ?_
    iterate 20 refine ys b25 rfl ?_
    exact yt b25 U (Bh (M20 true (Sh.AE h2).symm _ (AB U)))
   ·refine yg tb b25 U ?_
    iterate 3 refine yg tb b25 rfl ?_
    refine Jd (v:=(.B1 (A5 c23) 0)) (DH U U b25) rfl (Eo CQ U U gc23 U) ?_
    iterate 5 refine yg tb b25 rfl ?_
    refine Jd (v:=(.B1 (A5 c23) 0)) (DH U U b25) rfl (Eo CQ U U gc23 U) ?_
    iterate 2 refine yg tb b25 rfl ?_
    refine bs h2 fun q26 gq26 h2=>CH (v:=(i64 q26)) (DH U U b25) LP (QX gq26) rfl U U ?_
    iterate 3 refine yg tb b25 rfl ?_
    refine Jd (v:=(.B1 (A5 c23) 0)) (DH U U b25) rfl (Eo CQ U U gc23 U) ?_
    iterate 3 refine yg tb b25 rfl ?_
    exact yf b25 U (Bh (M20 (!decide (q26=c23.result)) (Sh.AE h2).symm _ (AB U)))
  ·intro b16 h1
   exact A0 (M12 () (Sh.AE h1).symm _ (Aq _ U))
theorem Ou {rec_spec_copyExprs:(List AK)→Option ((List AK))} (hrec_spec_copyExprs :∀{p0:(List AK)} {r:(List AK)},rec_spec_copyExprs p0=some r→Ak Tryz.prog 47 [(Cx p0)] [] (fun v st=>v=(ow 0 0 r)∧st=[(FC r)])) {p0:AK} {r:AK} (h0:IH rec_spec_copyExprs p0=some r):Ak Tryz.prog 50 [(B8 p0)] [] (fun v st=>v=(B8 r)∧st=[]):=by
 unfold IH at h0
 refine EP U (ai Tryz.func50 U U U U (sr U fun K1 hK1=>BY (m:=0) Aj U U U U U (A7 (m:=1) Aj Ik U U (dn hK1 U (AJ fun K2 hK2=>?_)))))
 refine Cd 8 (by kernel_rfl) (by kernel_rfl) (by rfl) ?_
 iterate 6 refine yq tb rfl ?_
 refine bs h0 fun q3 gq3 h0=>?_
 refine CH (v:=(Cx q3)) Aj Sp (Ak.wk (hrec_spec_copyExprs gq3) (by refine Wk.trans (Wk.Ey (L:=[(0,(Cx q3))]) (st':=[B6]) (id:=0) rfl (show 0≤0 by decide) (AS Bg) ⟨(.Ey U),trivial⟩ U) ?_;exact Ai [] U (by decide) rfl U .nil (.same U))) rfl U U ?_
 refine yz (.agg [(i64 p0.op),(i64 p0.num),(Cx q3)]) (FX UE T3 Ik U U) rfl (Bh (BI Aj Bz U U U U U U (show 0+3≤3 by decide) rfl (dn hK2 U ?_)))
 replace h0:=Sh.AE h0
 subst r
 exact AP (Exists.intro _ (And.intro (Iz _ _) (A8 (x:=.tmp 2) (off:=0) (cs:=[(i64 p0.op),(i64 p0.num),(Cx q3)]) (vs:=[(i64 p0.op),(i64 p0.num),(Cx q3)]) Bz U U U (show 0+3≤3 by decide) rfl _ U)))
theorem Ma {N:Nat} {rec_spec_copyExprs:(List AK)→Option ((List AK))} (hrec_spec_copyExprs :∀{p0:(List AK)} {r:(List AK)},rec_spec_copyExprs p0=some r→Ak Tryz.prog 47 [(Cx p0)] [] (fun v st=>v=(ow 0 0 r)∧st=[(FC r)])) {p0:(List AK)} {r:(List AK)} (h0:Gw N rec_spec_copyExprs p0=some r):Ak Tryz.prog 47 [(Cx p0)] [] (fun v st=>v=(ow 0 0 r)∧st=[(FC r)]):=by
 unfold Gw at h0
 refine ai Tryz.func47 U U U U (zr tb U U (sr U fun K2 hK2=>?_))
 refine Bb (m:=0) (l:=([]:List AK)) (enc:=Bk) Aj A2 (by decide) rfl U (by simp only[List.map,A4];rfl) rfl U U ?_
 refine zq tb U (dn hK2 U (AJ fun K3 hK3=>zr tb U U (bs h0 fun o8 h1 h0=>?_)))
 have M8 :∀(l7:(List AK)),o8=l7→∀s,Wk 0 s ⟨21,AM [(3,(ow 0 0 l7))],[(FC l7)]⟩→K3 s:=by
  intro l7 hq s hw
  subst o8
  try dsimp only at h0
  refine hK3 _ (Aa hw (zr tb U U ?_))
  replace h0:=Sh.AE h0
  subst r
  exact AP (xr (Ab (L:=[(2,(ow 0 0 l7))]) (.same U)))
 refine Ac (Aw (σ:=Int×(List AK)) (fun n v=>CT p0 rec_spec_copyExprs n v.1 v.2=some o8) (fun (i5,l6)=>⟨21,AM [(0,(Cx p0)),(3,(ow 0 0 l6)),(4,(i64 i5))],[(FC l6)]⟩) N (0,[]) h1 (AB U) (fun _ hv=>by rw[CT] at hv;cases hv) ?_)
 rintro n ⟨i5,l6⟩ h1
 try dsimp only at h1 ⊢
 rw[CT] at h1
 refine AJ fun K10 hK10=>sr U fun K11 hK11=>zm tb 2 U (zl tb U U (zq tb U (dn hK11 U ?_)))
 refine ci h1 U ?_ ?_ <;> clear h1
 ·intro b12 h1
  refine AN (hK10 _ (AJ fun K13 hK13=>Ac (AR U (zm tb 3 U (bs h1 fun c14 gc14 h1=>zz (FF c14) (Bq A2 U U gc14 (A4 _) rfl) rfl (zq tb U (bs h1 fun q15 gq15 h1=>zc (v':=(B8 q15)) Y1 (Ou hrec_spec_copyExprs gq15) rfl U U ?_)))))))
  refine Bb (m:=1) (l:=[q15]) (enc:=Bk) Aj A2 (by decide) rfl U (by simp only[List.map,A4];rfl) rfl U U ?_
  refine bs h1 fun l16 gl16 h1=>FR (l2:=[q15]) Aj A2 U U U U (Ig U U Jc) Hz gl16 U (zq tb U (dn hK13 U (AR U (zm tb 3 U ?_))))
  exact AA (xi (Sh.w (i5+1),l16) h1 (by refine Wk.trans (Dv (L:=[(0,(Cx p0)),(3,(ow 0 0 l16)),(4,(Kn i5))]) (st':=[(FC l16),(ro 0 44 3 Bk [q15])]) (.pure (AS Bg) (.pure (AS Bg) .nil)) (.same U)) ?_;exact Ai [0] U (by decide) rfl U (.pure (AS Bg) .nil) (.same U)))
 ·intro b12 h1
  exact A0 (M8 l6 (Sh.AE h1).symm _ (AB U))

theorem MV {N:Nat} :∀(n:Nat),∀{p0:(List AK)} {r:(List AK)},Dm N n p0=some r→Ak Tryz.prog 47 [(Cx p0)] [] (fun v st=>v=(ow 0 0 r)∧st=[(FC r)]):=by
 intro n
 induction n with
 | zero=>intro p0 r h0;cases h0
 | succ n ih=>
  intro p0 r h0
  rw[Dm] at h0
  exact Ma (fun h=>ih h) h0
theorem FJ {N:Nat} :∀{p0:(List AK)} {r:(List AK)},Ge N p0=some r→Ak Tryz.prog 47 [(Cx p0)] [] (fun v st=>v=(ow 0 0 r)∧st=[(FC r)]):=by
 intro p0 r h0
 exact MV N h0
theorem PL {N:Nat} {rec_spec_known:AK→Option (AK)} (hrec_spec_known :∀{p0:AK} {r:AK},rec_spec_known p0=some r→Ak Tryz.prog 20 [(B8 p0)] [] (fun v st=>v=(B8 r)∧st=[])) {p0:AK} {r:AK} (h0:JB N rec_spec_known p0=some r):Ak Tryz.prog 20 [(B8 p0)] [] (fun v st=>v=(B8 r)∧st=[]):=by
 unfold JB at h0
 refine EP U (ai Tryz.func20 U U U U (sr U fun K1 hK1=>BY (m:=0) Aj U U U U U (A7 (m:=1) Aj Ik U U (dn hK1 U (sr U fun K2 hK2=>?_)))))
 refine Bb (m:=2) (l:=([]:List AK)) (enc:=Bk) Aj A2 (by decide) rfl U (by simp only[List.map,A4];rfl) rfl U U ?_
 refine zq tb U (dn hK2 U (AJ fun K3 hK3=>zr tb U U (bs h0 fun o8 h1 h0=>?_)))
 have M8 :∀(l7:(List AK)),o8=l7→∀s,Wk 0 s ⟨55,AM [(1,Ax),(2,Ao),(3,(ow 2 0 l7))],[(OA p0.op p0.num p0.kids),Hs,(FC l7)]⟩→K3 s:=by
  intro l7 hq s hw
  subst o8
  try dsimp only at h0
  refine hK3 _ (Aa hw (AJ fun K9 hK9=>AJ fun K10 hK10=>bs h0 fun o12 h1 h0=>?_))
  have M12 :∀(t11:Bool),o12=t11→∀s,Wk 0 s ⟨55,AM [(1,Ax),(2,Ao),(3,(ow 2 0 l7)),(32,(.bool t11))],[(OA p0.op p0.num p0.kids),Hs,(FC l7)]⟩→K10 s:=by
   intro t11 hq s hw
   subst o12
   try dsimp only at h0
   refine hK10 _ (Aa hw ?_)
   refine ci h0 U ?_ ?_ <;> clear h0
   ·intro b13 h0
    refine AJ fun K14 hK14=>?_
    refine GJ (by kernel_rfl) ?_
    refine bs h0 fun c15 gc15 h0=>bs h0 fun q16 gq16 h0=>bs h0 fun c17 gc17 h0=>bs h0 fun l18 gl18 h0=>I0 fun A19 hA19=>?_
    have A19_0123456789a:A19 0 (bm 11 2047) ⟨55,AM [(2,Ax),(3,(ow 1 0 l7)),(5,(ow 2 0 l18))],[Hs,(FC l7),(FC l18)]⟩:=(hA19 _ _ _).2 (by
     refine GR U (by kernel_rfl) ?_
     refine hK14 _ (sr U fun K20 hK20=>zq tb U (zz SD (BZ A2 U U U U gc15) rfl (zq tb U (zz (i64 c15.num) (BG Em U U (FZ gc15 (A4 _)) rfl) rfl (zq tb U (zz (.agg [(i64 9),(i64 c15.num),(ow 2 0 l18)]) (FX UE T3 Ik U U) rfl (Al (Wk.Ey (L:=[(2,Ax),(48,(.agg [(i64 9),(i64 c15.num),(Cx l18)]))]) (st':=[Hs,(FC l7),B6]) (id:=2) rfl (show 0≤2 by decide) (AS Bg) ⟨.rfl,(.agg ⟨.rfl,.rfl,(.IN U),trivial⟩),trivial⟩ U) (BI Aj Bz U U U U U U (show 0+3≤3 by decide) rfl (dn hK20 U ?_)))))))))
     replace h0:=Sh.AE h0
     subst r
     exact AP (Exists.intro _ (And.intro (Iz _ _) (A8 (x:=.tmp 2) (off:=0) (cs:=[(i64 9),(i64 c15.num),(Cx l18)]) (vs:=[(i64 9),(i64 c15.num),(Cx l18)]) Bz U U U (show 0+3≤3 by decide) rfl _ U))))
    have A19_0123456789:A19 1 (bm 11 1023) ⟨55,AM [(2,Ax),(3,(ow 1 0 l7)),(42,(ow 2 0 l18))],[Hs,(FC l7),(FC l18)]⟩:=(hA19 _ _ _).2 (by
     refine Bn 10 (v:=(ow 2 0 l18)) rfl U (by kernel_rfl) (by kernel_rfl) (by kernel_rfl) rfl (Jo U) ?_
     exact AI (by exact AB U) (AL (by kernel_rfl) ((hA19 _ _ _).1 A19_0123456789a)) rfl)
    have A19_012345678:A19 2 (bm 11 511) ⟨55,AM [(2,Ax),(3,(ow 1 0 l7)),(37,(ow 2 0 q16)),(41,(ow 3 0 [c17]))],[Hs,(FC l7),(FC q16),(ro 0 44 3 Bk [c17])]⟩:=(hA19 _ _ _).2 (by
     refine Af [9] U (by kernel_rfl) (by decide) ⟨?_,trivial⟩
     ·refine A3.of (i:=9) rfl U (by rfl) ?_
      refine FR (l2:=[c17]) Aj A2 U U U U (Ig U U Jc) Hz gl18 U (AA ⟨U,?_⟩)
      exact AI (by refine Wk.trans (Dv (L:=[(2,Ax),(3,(ow 1 0 l7)),(42,(ow 2 0 l18))]) (st':=[Hs,(FC l7),(FC l18),(ro 0 44 3 Bk [c17])]) (.raw U U (.pure (AS Bg) (.pure (AS Bg) (.pure (AS Bg) .nil)))) (.same U)) ?_;exact Ai [0,1,2] U (by decide) rfl U (.raw U U (.pure (AS Bg) (.pure (AS Bg) .nil))) (.same U)) (AL (by kernel_rfl) ((hA19 _ _ _).1 A19_0123456789)) rfl)
    have A19_01234567:A19 3 (bm 11 255) ⟨55,AM [(2,Ax),(3,(ow 1 0 l7)),(37,(ow 2 0 q16)),(40,(B8 c17))],[Hs,(FC l7),(FC q16)]⟩:=(hA19 _ _ _).2 (by
     refine Af [8] U (by kernel_rfl) (by decide) ⟨?_,trivial⟩
     ·refine A3.of (i:=8) rfl U (by rfl) ?_
      refine Bb (m:=3) (l:=[c17]) (enc:=Bk) Aj A2 (by decide) rfl U (by simp only[List.map,A4];rfl) rfl U U ?_
      refine AA ⟨U,?_⟩
      exact AI (by exact AB U) (AL (by kernel_rfl) ((hA19 _ _ _).1 A19_012345678)) rfl)
    have A19_0123456:A19 4 (bm 11 127) ⟨55,AM [(2,Ax),(3,(ow 1 0 l7)),(37,(ow 2 0 q16)),(39,SG)],[Hs,(FC l7),(FC q16)]⟩:=(hA19 _ _ _).2 (by
     refine Af [7] U (by kernel_rfl) (by decide) ⟨?_,trivial⟩
     ·refine A3.of (i:=7) rfl U (by rfl) ?_
      refine zz (B8 c17) (A8 Bz U U (FZ gc17 (A4 _)) (show 0+3≤3 by decide) rfl) rfl (AA ⟨U,?_⟩)
      exact AI (by exact AB U) (AL (by kernel_rfl) ((hA19 _ _ _).1 A19_01234567)) rfl)
    have A19_012345:A19 5 (bm 11 63) ⟨55,AM [(2,Ax),(3,(ow 1 0 l7)),(37,(ow 2 0 q16)),(38,(ow 1 0 l7))],[Hs,(FC l7),(FC q16)]⟩:=(hA19 _ _ _).2 (by
     refine Af [6] U (by kernel_rfl) (by decide) ⟨?_,trivial⟩
     ·refine A3.of (i:=6) rfl U (by rfl) ?_
      refine zz SG (BZ A2 U U U U gc17) rfl (AA ⟨U,?_⟩)
      exact AI (by exact AB U) (AL (by kernel_rfl) ((hA19 _ _ _).1 A19_0123456)) rfl)
    have A19_01235678:A19 3 (bm 11 495) ⟨55,AM [(2,Ax),(3,(ow 1 0 l7)),(36,(Fq c15)),(41,(ow 2 0 [c17]))],[Hs,(FC l7),(ro 0 44 3 Bk [c17])]⟩:=(hA19 _ _ _).2 (by
     refine Af [4] U (by kernel_rfl) (by decide) ⟨?_,trivial⟩
     ·refine A3.of (i:=4) rfl U (by rfl) ?_
      refine BW (v':=(ow 3 0 q16)) Aj Sp (FJ gq16) rfl U ⟨(Br Bg),trivial⟩ U U (AA ⟨U,?_⟩)
      exact AI (by exact Ai [0,1,3,2] U (by decide) rfl U (.raw U U (.pure (AS Bg) (.pure (AS Bg) (.pure (AS Bg) .nil)))) (.same U)) (AL (by kernel_rfl) ((hA19 _ _ _).1 A19_012345678)) rfl)
    have A19_0123567:A19 4 (bm 11 239) ⟨55,AM [(2,Ax),(3,(ow 1 0 l7)),(36,(Fq c15)),(40,(B8 c17))],[Hs,(FC l7)]⟩:=(hA19 _ _ _).2 (by
     refine Af [4,8] U (by kernel_rfl) (by decide) ⟨?_,?_,trivial⟩
     ·refine A3.of (i:=4) rfl U (by rfl) ?_
      refine BW (v':=(ow 2 0 q16)) Aj Sp (FJ gq16) rfl U ⟨(Br Bg),trivial⟩ U U (AA ⟨U,?_⟩)
      exact AI (by exact AB U) (AL (by kernel_rfl) ((hA19 _ _ _).1 A19_01234567)) rfl
     ·refine A3.of (i:=8) rfl U (by rfl) ?_
      refine Bb (m:=2) (l:=[c17]) (enc:=Bk) Aj A2 (by decide) rfl U (by simp only[List.map,A4];rfl) rfl U U ?_
      refine AA ⟨U,?_⟩
      exact AI (by exact AB U) (AL (by kernel_rfl) ((hA19 _ _ _).1 A19_01235678)) rfl)
    have A19_012356:A19 5 (bm 11 111) ⟨55,AM [(2,Ax),(3,(ow 1 0 l7)),(36,(Fq c15)),(39,SG)],[Hs,(FC l7)]⟩:=(hA19 _ _ _).2 (by
     refine Af [4,7] U (by kernel_rfl) (by decide) ⟨?_,?_,trivial⟩
     ·refine A3.of (i:=4) rfl U (by rfl) ?_
      refine BW (v':=(ow 2 0 q16)) Aj Sp (FJ gq16) rfl U ⟨(Br Bg),trivial⟩ U U (AA ⟨U,?_⟩)
      exact AI (by exact AB U) (AL (by kernel_rfl) ((hA19 _ _ _).1 A19_0123456)) rfl
     ·refine A3.of (i:=7) rfl U (by rfl) ?_
      refine zz (B8 c17) (A8 Bz U U (FZ gc17 (A4 _)) (show 0+3≤3 by decide) rfl) rfl (AA ⟨U,?_⟩)
      exact AI (by exact AB U) (AL (by kernel_rfl) ((hA19 _ _ _).1 A19_0123567)) rfl)
    have A19_01235:A19 6 (bm 11 47) ⟨55,AM [(2,Ax),(3,(ow 1 0 l7)),(36,(Fq c15)),(38,(ow 1 0 l7))],[Hs,(FC l7)]⟩:=(hA19 _ _ _).2 (by
     refine Af [4,6] U (by kernel_rfl) (by decide) ⟨?_,?_,trivial⟩
     ·refine A3.of (i:=4) rfl U (by rfl) ?_
      refine BW (v':=(ow 2 0 q16)) Aj Sp (FJ gq16) rfl U ⟨(Br Bg),trivial⟩ U U (AA ⟨U,?_⟩)
      exact AI (by exact AB U) (AL (by kernel_rfl) ((hA19 _ _ _).1 A19_012345)) rfl
     ·refine A3.of (i:=6) rfl U (by rfl) ?_
      refine zz SG (BZ A2 U U U U gc17) rfl (AA ⟨U,?_⟩)
      exact AI (by exact AB U) (AL (by kernel_rfl) ((hA19 _ _ _).1 A19_012356)) rfl)
    have A19_0125678:A19 4 (bm 11 487) ⟨55,AM [(2,Ax),(3,(ow 1 0 l7)),(35,(.ptr 1 0 (Int.toNat 0) 2)),(41,(ow 2 0 [c17]))],[Hs,(FC l7),(ro 0 44 3 Bk [c17])]⟩:=(hA19 _ _ _).2 (by
     refine Af [3] U (by kernel_rfl) (by decide) ⟨?_,trivial⟩
     ·refine A3.of (i:=3) rfl U (by rfl) ?_
      refine zz (Fq c15) (BG Ez U U (FZ gc15 (A4 _)) rfl) rfl (AA ⟨U,?_⟩)
      exact AI (by exact AB U) (AL (by kernel_rfl) ((hA19 _ _ _).1 A19_01235678)) rfl)
    have A19_012567:A19 5 (bm 11 231) ⟨55,AM [(2,Ax),(3,(ow 1 0 l7)),(35,(.ptr 1 0 (Int.toNat 0) 2)),(40,(B8 c17))],[Hs,(FC l7)]⟩:=(hA19 _ _ _).2 (by
     refine Af [3,8] U (by kernel_rfl) (by decide) ⟨?_,?_,trivial⟩
     ·refine A3.of (i:=3) rfl U (by rfl) ?_
      refine zz (Fq c15) (BG Ez U U (FZ gc15 (A4 _)) rfl) rfl (AA ⟨U,?_⟩)
      exact AI (by exact AB U) (AL (by kernel_rfl) ((hA19 _ _ _).1 A19_0123567)) rfl
     ·refine A3.of (i:=8) rfl U (by rfl) ?_
      refine Bb (m:=2) (l:=[c17]) (enc:=Bk) Aj A2 (by decide) rfl U (by simp only[List.map,A4];rfl) rfl U U ?_
      refine AA ⟨U,?_⟩
      exact AI (by exact AB U) (AL (by kernel_rfl) ((hA19 _ _ _).1 A19_0125678)) rfl)
    have A19_01256:A19 6 (bm 11 103) ⟨55,AM [(2,Ax),(3,(ow 1 0 l7)),(35,(.ptr 1 0 (Int.toNat 0) 2)),(39,SG)],[Hs,(FC l7)]⟩:=(hA19 _ _ _).2 (by
     refine Af [3,7] U (by kernel_rfl) (by decide) ⟨?_,?_,trivial⟩
     ·refine A3.of (i:=3) rfl U (by rfl) ?_
      refine zz (Fq c15) (BG Ez U U (FZ gc15 (A4 _)) rfl) rfl (AA ⟨U,?_⟩)
      exact AI (by exact AB U) (AL (by kernel_rfl) ((hA19 _ _ _).1 A19_012356)) rfl
     ·refine A3.of (i:=7) rfl U (by rfl) ?_
      refine zz (B8 c17) (A8 Bz U U (FZ gc17 (A4 _)) (show 0+3≤3 by decide) rfl) rfl (AA ⟨U,?_⟩)
      exact AI (by exact AB U) (AL (by kernel_rfl) ((hA19 _ _ _).1 A19_012567)) rfl)
    have A19_0125:A19 7 (bm 11 39) ⟨55,AM [(2,Ax),(3,(ow 1 0 l7)),(35,(.ptr 1 0 (Int.toNat 0) 2)),(38,(ow 1 0 l7))],[Hs,(FC l7)]⟩:=(hA19 _ _ _).2 (by
     refine Af [3,6] U (by kernel_rfl) (by decide) ⟨?_,?_,trivial⟩
     ·refine A3.of (i:=3) rfl U (by rfl) ?_
      refine zz (Fq c15) (BG Ez U U (FZ gc15 (A4 _)) rfl) rfl (AA ⟨U,?_⟩)
      exact AI (by exact AB U) (AL (by kernel_rfl) ((hA19 _ _ _).1 A19_01235)) rfl
     ·refine A3.of (i:=6) rfl U (by rfl) ?_
      refine zz SG (BZ A2 U U U U gc17) rfl (AA ⟨U,?_⟩)
      exact AI (by exact AB U) (AL (by kernel_rfl) ((hA19 _ _ _).1 A19_01256)) rfl)
    have A19_015678:A19 5 (bm 11 483) ⟨55,AM [(2,Ax),(3,(ow 1 0 l7)),(34,SD),(41,(ow 2 0 [c17]))],[Hs,(FC l7),(ro 0 44 3 Bk [c17])]⟩:=(hA19 _ _ _).2 (by
     refine Af [2] U (by kernel_rfl) (by decide) ⟨?_,trivial⟩
     ·refine A3.of (i:=2) rfl U (by rfl) ?_
      refine zq tb U (AA ⟨U,?_⟩)
      exact AI (by exact AB U) (AL (by kernel_rfl) ((hA19 _ _ _).1 A19_0125678)) rfl)
    have A19_01567:A19 6 (bm 11 227) ⟨55,AM [(2,Ax),(3,(ow 1 0 l7)),(34,SD),(40,(B8 c17))],[Hs,(FC l7)]⟩:=(hA19 _ _ _).2 (by
     refine Af [2,8] U (by kernel_rfl) (by decide) ⟨?_,?_,trivial⟩
     ·refine A3.of (i:=2) rfl U (by rfl) ?_
      refine zq tb U (AA ⟨U,?_⟩)
      exact AI (by exact AB U) (AL (by kernel_rfl) ((hA19 _ _ _).1 A19_012567)) rfl
     ·refine A3.of (i:=8) rfl U (by rfl) ?_
      refine Bb (m:=2) (l:=[c17]) (enc:=Bk) Aj A2 (by decide) rfl U (by simp only[List.map,A4];rfl) rfl U U ?_
      refine AA ⟨U,?_⟩
      exact AI (by exact AB U) (AL (by kernel_rfl) ((hA19 _ _ _).1 A19_015678)) rfl)
    have A19_0156:A19 7 (bm 11 99) ⟨55,AM [(2,Ax),(3,(ow 1 0 l7)),(34,SD),(39,SG)],[Hs,(FC l7)]⟩:=(hA19 _ _ _).2 (by
     refine Af [2,7] U (by kernel_rfl) (by decide) ⟨?_,?_,trivial⟩
     ·refine A3.of (i:=2) rfl U (by rfl) ?_
      refine zq tb U (AA ⟨U,?_⟩)
      exact AI (by exact AB U) (AL (by kernel_rfl) ((hA19 _ _ _).1 A19_01256)) rfl
     ·refine A3.of (i:=7) rfl U (by rfl) ?_
      refine zz (B8 c17) (A8 Bz U U (FZ gc17 (A4 _)) (show 0+3≤3 by decide) rfl) rfl (AA ⟨U,?_⟩)
      exact AI (by exact AB U) (AL (by kernel_rfl) ((hA19 _ _ _).1 A19_01567)) rfl)
    have A19_015:A19 8 (bm 11 35) ⟨55,AM [(2,Ax),(3,(ow 1 0 l7)),(34,SD),(38,(ow 1 0 l7))],[Hs,(FC l7)]⟩:=(hA19 _ _ _).2 (by
     refine Af [2,6] U (by kernel_rfl) (by decide) ⟨?_,?_,trivial⟩
     ·refine A3.of (i:=2) rfl U (by rfl) ?_
      refine zq tb U (AA ⟨U,?_⟩)
      exact AI (by exact AB U) (AL (by kernel_rfl) ((hA19 _ _ _).1 A19_0125)) rfl
     ·refine A3.of (i:=6) rfl U (by rfl) ?_
      refine zz SG (BZ A2 U U U U gc17) rfl (AA ⟨U,?_⟩)
      exact AI (by exact AB U) (AL (by kernel_rfl) ((hA19 _ _ _).1 A19_0156)) rfl)
    have A19_05678:A19 6 (bm 11 481) ⟨55,AM [(2,Ax),(3,(ow 1 0 l7)),(33,(ow 1 0 l7)),(41,(ow 2 0 [c17]))],[Hs,(FC l7),(ro 0 44 3 Bk [c17])]⟩:=(hA19 _ _ _).2 (by
     refine Af [1] U (by kernel_rfl) (by decide) ⟨?_,trivial⟩
     ·refine A3.of (i:=1) rfl U (by rfl) ?_
      refine zz SD (BZ A2 U U U U gc15) rfl (AA ⟨U,?_⟩)
      exact AI (by exact AB U) (AL (by kernel_rfl) ((hA19 _ _ _).1 A19_015678)) rfl)
    have A19_0567:A19 7 (bm 11 225) ⟨55,AM [(2,Ax),(3,(ow 1 0 l7)),(33,(ow 1 0 l7)),(40,(B8 c17))],[Hs,(FC l7)]⟩:=(hA19 _ _ _).2 (by
     refine Af [1,8] U (by kernel_rfl) (by decide) ⟨?_,?_,trivial⟩
     ·refine A3.of (i:=1) rfl U (by rfl) ?_
      refine zz SD (BZ A2 U U U U gc15) rfl (AA ⟨U,?_⟩)
      exact AI (by exact AB U) (AL (by kernel_rfl) ((hA19 _ _ _).1 A19_01567)) rfl
     ·refine A3.of (i:=8) rfl U (by rfl) ?_
      refine Bb (m:=2) (l:=[c17]) (enc:=Bk) Aj A2 (by decide) rfl U (by simp only[List.map,A4];rfl) rfl U U ?_
      refine AA ⟨U,?_⟩
      exact AI (by exact AB U) (AL (by kernel_rfl) ((hA19 _ _ _).1 A19_05678)) rfl)
    have A19_056:A19 8 (bm 11 97) ⟨55,AM [(2,Ax),(3,(ow 1 0 l7)),(33,(ow 1 0 l7)),(39,SG)],[Hs,(FC l7)]⟩:=(hA19 _ _ _).2 (by
     refine Af [1,7] U (by kernel_rfl) (by decide) ⟨?_,?_,trivial⟩
     ·refine A3.of (i:=1) rfl U (by rfl) ?_
      refine zz SD (BZ A2 U U U U gc15) rfl (AA ⟨U,?_⟩)
      exact AI (by exact AB U) (AL (by kernel_rfl) ((hA19 _ _ _).1 A19_0156)) rfl
     ·refine A3.of (i:=7) rfl U (by rfl) ?_
      refine zz (B8 c17) (A8 Bz U U (FZ gc17 (A4 _)) (show 0+3≤3 by decide) rfl) rfl (AA ⟨U,?_⟩)
      exact AI (by exact AB U) (AL (by kernel_rfl) ((hA19 _ _ _).1 A19_0567)) rfl)
    have A19_05:A19 9 (bm 11 33) ⟨55,AM [(2,Ax),(3,(ow 1 0 l7)),(33,(ow 1 0 l7)),(38,(ow 1 0 l7))],[Hs,(FC l7)]⟩:=(hA19 _ _ _).2 (by
     refine Af [1,6] U (by kernel_rfl) (by decide) ⟨?_,?_,trivial⟩
     ·refine A3.of (i:=1) rfl U (by rfl) ?_
      refine zz SD (BZ A2 U U U U gc15) rfl (AA ⟨U,?_⟩)
      exact AI (by exact AB U) (AL (by kernel_rfl) ((hA19 _ _ _).1 A19_015)) rfl
     ·refine A3.of (i:=6) rfl U (by rfl) ?_
      refine zz SG (BZ A2 U U U U gc17) rfl (AA ⟨U,?_⟩)
      exact AI (by exact AB U) (AL (by kernel_rfl) ((hA19 _ _ _).1 A19_056)) rfl)
    have A19_0:A19 10 (bm 11 1) ⟨55,AM [(2,Ax),(3,(ow 1 0 l7)),(33,(ow 1 0 l7))],[Hs,(FC l7)]⟩:=(hA19 _ _ _).2 (by
     refine Bn 5 (v:=(ow 1 0 l7)) rfl U (by kernel_rfl) (by kernel_rfl) (by kernel_rfl) rfl (CO U) ?_
     exact AI (by exact AB U) (AL (by kernel_rfl) ((hA19 _ _ _).1 A19_05)) rfl)
    have A19_e:A19 11 (bm 11 0) ⟨55,AM [(2,Ax),(3,(ow 1 0 l7))],[Hs,(FC l7)]⟩:=(hA19 _ _ _).2 (by
     refine Bn 0 (v:=(ow 1 0 l7)) rfl U (by kernel_rfl) (by kernel_rfl) (by kernel_rfl) rfl (CO U) ?_
     exact AI (by exact AB U) (AL (by kernel_rfl) ((hA19 _ _ _).1 A19_0)) rfl)
    refine (hA19 _ _ _).2 ?_
    exact AI (by exact Ai [1,2] U (by decide) rfl U (.raw U U (.pure (AS Bg) .nil)) (.same U)) (AL (by kernel_rfl) ((hA19 _ _ _).1 A19_e)) rfl
   ·intro b13 h0
    refine AN (hK9 _ (sr U fun K20 hK20=>zm tb 5 U (zz (.agg [(i64 p0.op),(i64 p0.num),(ow 2 0 l7)]) (FX UE T3 Ik U U) rfl (Al (Wk.Ey (L:=[(2,Ao),(54,(.agg [(i64 p0.op),(i64 p0.num),(Cx l7)]))]) (st':=[(OA p0.op p0.num p0.kids),Hs,B6]) (id:=2) rfl (show 0≤2 by decide) (AS Bg) ⟨.rfl,(.agg ⟨.rfl,.rfl,(.IN U),trivial⟩),trivial⟩ U) (BI Aj Bz U U U U U U (show 0+3≤3 by decide) rfl (dn hK20 U ?_))))))
    replace h0:=Sh.AE h0
    subst r
    exact AP (Exists.intro _ (And.intro (Iz _ _) (A8 (x:=.tmp 2) (off:=0) (cs:=[(i64 p0.op),(i64 p0.num),(Cx l7)]) (vs:=[(i64 p0.op),(i64 p0.num),(Cx l7)]) Bz U U U (show 0+3≤3 by decide) rfl _ U)))
  refine AR U (zm tb 4 U ?_)
  rcases Sh.Az h1 with ⟨b21,h1⟩ | ⟨b21,h1⟩
  ·exact zg tb b21 U (bs h1 fun c22 gc22 h1=>BU (v:=B0) (DH U U b21) rfl (BZ A2 U U U U gc22) (zg tb b21 U (BU (v:=(i64 c22.op)) (DH U U b21) rfl (BG Em U U (FZ gc22 (A4 _)) rfl) (zg tb b21 U (zt b21 U (AA (M12 (decide (c22.op=10)) (Sh.AE h1).symm _ (AB U))))))))
  ·refine zs b21 U ?_
   iterate 4 refine zs b21 rfl ?_
   exact zf b21 U (AA (M12 false (Sh.AE h1).symm _ (AB U)))
 refine Ac (Aw (σ:=Int×(List AK)) (fun n v=>Db p0 rec_spec_known n v.1 v.2=some o8) (fun (k5,l6)=>⟨55,AM [(1,Ax),(2,Ao),(3,(ow 2 0 l6)),(4,(i64 k5))],[(OA p0.op p0.num p0.kids),Hs,(FC l6)]⟩) N (0,[]) h1 (AB U) (fun _ hv=>by rw[Db] at hv;cases hv) ?_)
 rintro n ⟨k5,l6⟩ h1
 try dsimp only at h1 ⊢
 rw[Db] at h1
 refine AJ fun K23 hK23=>sr U fun K24 hK24=>zm tb 3 U (zl tb U U (zq tb U (dn hK24 U ?_)))
 refine ci h1 U ?_ ?_ <;> clear h1
 ·intro b25 h1
  refine AN (hK23 _ (AJ fun K26 hK26=>Ac (AR U (zm tb 4 U (bs h1 fun c27 gc27 h1=>zz (FF c27) (Bq A2 U U gc27 (A4 _) rfl) rfl (zq tb U (bs h1 fun q28 gq28 h1=>zc (v':=(B8 q28)) Y2 (hrec_spec_known gq28) rfl U U ?_)))))))
  refine Bb (m:=3) (l:=[q28]) (enc:=Bk) Aj A2 (by decide) rfl U (by simp only[List.map,A4];rfl) rfl U U ?_
  refine bs h1 fun l29 gl29 h1=>FR (l2:=[q28]) Aj A2 U U U U (Ig U U Jc) Hz gl29 U (zq tb U (dn hK26 U (AR U (zm tb 3 U ?_))))
  exact AA (xi (Sh.w (k5+1),l29) h1 (by refine Wk.trans (Dv (L:=[(1,Ax),(2,Ao),(3,(ow 2 0 l29)),(4,(Kn k5))]) (st':=[(OA p0.op p0.num p0.kids),Hs,(FC l29),(ro 0 44 3 Bk [q28])]) (.raw U U (.raw U U (.pure (AS Bg) (.pure (AS Bg) .nil)))) (.same U)) ?_;exact Ai [0,1,2] U (by decide) rfl U (.raw U U (.raw U U (.pure (AS Bg) .nil))) (.same U)))
 ·intro b25 h1
  exact A0 (M8 l6 (Sh.AE h1).symm _ (AB U))

theorem P1 {N:Nat} :∀(n:Nat),∀{p0:AK} {r:AK},E9 N n p0=some r→Ak Tryz.prog 20 [(B8 p0)] [] (fun v st=>v=(B8 r)∧st=[]):=by
 intro n
 induction n with
 | zero=>intro p0 r h0;cases h0
 | succ n ih=>
  intro p0 r h0
  rw[E9] at h0
  exact PL (fun h=>ih h) h0
theorem Qo {N:Nat} :∀{p0:AK} {r:AK},KO N p0=some r→Ak Tryz.prog 20 [(B8 p0)] [] (fun v st=>v=(B8 r)∧st=[]):=by
 intro p0 r h0
 exact P1 N h0
end Go.Proofs.YtpahalfiiahddaaGreat

