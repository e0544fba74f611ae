import Derived.Test.YtccficmcdkcpnaaGreatGAbsZRToAbsZY
import Derived.Test.YtccficmcdkcpnaaGreatCFWalk
import Derived.Test.YtccficmcdkcpnaaGreatCGX
import Derived.Test.YtccficmcdkcpnaaGreatINX
import Derived.Test.YtccficmcdkcpnaaGreatSXWalk
set_option linter.all false
namespace Go.Proofs.YtccficmcdkcpnaaGreat
noncomputable section
open Go Go.Abs RC
attribute [local irreducible] Go.Abs.DX
set_option maxRecDepth 100000
theorem Mu:([7,8,9,10,11,12,13,21,22,25,26,27,28,29,30,31,32,33,34,35,36,37,38,39,40,41,43,44,46,54,56,61,63,64,65,66,67,68,69,70,71,72,73,74,75,76,77,78,79,80,81,82,83,84,85,86,87,88,92,93,94,95,96,104,105,108,113,115,116,117,119,120,121,122,123,124,125,126,127,128,129,130,131,132,133,134,135,136,137,138,139,140,141,142,143,144,145,146,147,148,149,150,151,156,157,162,171,172,173,174,175,178,180,183,185,187,188,189,190,191,192,193,194,195,196,197,198,199,200,201,202,203,204,205,206,209,210,211,212,215,216,217,232,233,234,235,237,239,240,241,242,243,244,245,246,247,248,249,250,251,252,253,254,265,266,272,273,274,275,281].all λn=>DP Tryz.prog n)=true:=by kernel_rfl
theorem hb (n:Nat)(h:[7,8,9,10,11,12,13,21,22,25,26,27,28,29,30,31,32,33,34,35,36,37,38,39,40,41,43,44,46,54,56,61,63,64,65,66,67,68,69,70,71,72,73,74,75,76,77,78,79,80,81,82,83,84,85,86,87,88,92,93,94,95,96,104,105,108,113,115,116,117,119,120,121,122,123,124,125,126,127,128,129,130,131,132,133,134,135,136,137,138,139,140,141,142,143,144,145,146,147,148,149,150,151,156,157,162,171,172,173,174,175,178,180,183,185,187,188,189,190,191,192,193,194,195,196,197,198,199,200,201,202,203,204,205,206,209,210,211,212,215,216,217,232,233,234,235,237,239,240,241,242,243,244,245,246,247,248,249,250,251,252,253,254,265,266,272,273,274,275,281].contains n=true:=by decide):DP Tryz.prog n=true:=uS.1 Mu n (List.contains_iff_mem.1 h)
abbrev Fy:Go.Abs.Row:=⟨0,48,2,[[.zc,i64 0]]⟩
abbrev Ua (z0:List AP)(z1:List Ad):Go.Abs.Row:=⟨0,30,2,[[ls Ai z0,ls Al z1]]⟩
abbrev TL (z0 z1 z2:Int)(z3:List Int)(z4:List Block):Go.Abs.Row:=⟨0,80,5,[[i64 z0,i64 z1,i64 z2,ls eI z3,ls BS z4]]⟩
abbrev O0 (z0:List Step)(z1:Int):Go.Abs.Row:=⟨0,48,2,[[ls Ba z0,i64 z1]]⟩
abbrev XF:Go.Abs.Row:=⟨0,80,5,[[i64 0,i64 0,i64 0,.zc,.zc]]⟩
abbrev tT (z0 z1:List Int)(z2:Int)(z3:List Step)(z4:Int):Go.Abs.Row:=⟨0,50,5,[[ls eI z0,ls eI z1,i64 z2,ls Ba z3,i64 z4]]⟩
abbrev bZ:Go.Abs.Row:=⟨0,30,2,[[.zc,.zc]]⟩
abbrev ZA (z0 z1 z2:Int)(z3:List Int)(z4:List Block):Go.Abs.Row:=⟨0,80,5,[[i64 z0,i64 z1,i64 z2,ls eI z3,ls BS z4]]⟩
abbrev SI (z0:List Step)(z1:Int):Go.Abs.Row:=⟨0,48,2,[[ls Ba z0,i64 z1]]⟩
abbrev Wr (z0:List AP)(z1:List Ad):Go.Abs.Row:=⟨0,30,2,[[ls Ai z0,ls Al z1]]⟩
abbrev QX (z0:Bool):Go.Abs.Row:=⟨0,4,1,[[.bool z0]]⟩
abbrev U4 (z0:Int):Go.Abs.Row:=⟨0,3,1,[[i64 z0]]⟩
abbrev Zn:Go.Abs.Row:=⟨0,104,3,[[i64 0,i64 0,.zc]]⟩
abbrev Qp:Go.Abs.Row:=⟨0,127,6,[[.zc,.zc,.zc,.zc,.zc,.zc]]⟩
abbrev pX (z0 z1 z2:Int)(z3:List Int)(z4:List Block):Go.Abs.Row:=⟨0,80,5,[[i64 z0,i64 z1,i64 z2,ls eI z3,ls BS z4]]⟩
abbrev SX (z0:Int):Go.Abs.Row:=⟨0,3,1,[[i64 z0]]⟩
abbrev JO:Go.Abs.Row:=⟨0,48,2,[[.zc,i64 0]]⟩
abbrev V8:Go.Abs.Row:=⟨0,30,2,[[.zc,.zc]]⟩
abbrev sI:Go.Abs.Row:=⟨0,127,6,[[.zc,.zc,.zc,.zc,.zc,.zc]]⟩
abbrev fp (z0:List AP)(z1:List Ad):Go.Abs.Row:=⟨0,25,2,[[ls Ai z0,ls Al z1]]⟩
abbrev lP (z0:List AP)(z1:List Ad):Go.Abs.Row:=⟨0,30,2,[[ls Ai z0,ls Al z1]]⟩
abbrev YL (z0 z1:_){α2:Type}(z2:List α2)(z3 z4:_){α5:Type}(z5:List α5):=(⟨0,127,6,[[ls Ai z0,ls BI z1,ow 6 0 z2,ls eI z3,ls eI z4,ow 7 0 z5]]⟩:Row)
abbrev ln (z0:Step):=([i64 z0.op,i64 z0.num,i64 z0.BF,ls eI z0.args,ls BS z0.kids]:List AV)
abbrev As (z0:_):=((ro 0 3 1 eI z0):Row)
abbrev I0 (z0:_):=((ro 0 80 5 (BV 3 48 80) z0):Row)
abbrev MY (z0 z1:_){α2:Type}(z2:List α2)(z3 z4:_){α5:Type}(z5:List α5):=(⟨0,127,6,[[ls Ai z0,ls BI z1,ow 3 0 z2,ls eI z3,ls eI z4,ow 4 0 z5]]⟩:Row)
abbrev pY (z0:Block):=([ls Ba z0.steps,i64 z0.result]:List AV)
abbrev Ax:=((.ptr 0 0 0 0):AV)
abbrev Ir:=(⟨0,178,1,[[Ax]]⟩:Row)
abbrev U6 {α0:Type}(z0:List α0):=(⟨0,75,1,[[ow 8 0 z0]]⟩:Row)
abbrev Qd:=(⟨1,80,5,[]⟩:Row)
abbrev jI (z0:AL):=([ls Ai z0.decls,ls Al z0.AF]:List AV)
abbrev mR (z0:Ad):=([ls eI z0.params,ls eI z0.Aq,i64 z0.result,ls Ba z0.body.steps,i64 z0.body.result]:List AV)
abbrev IT (z0:_):=((ro 0 48 2 (Bv 3 48 80) z0):Row)
abbrev Mn (z0 z1 z2 z3 z4 z5 z6:_):=([YL z0 z1 z2 z3 z4 z5,⟨1,3,1,[]⟩,Qd,U6 z6,⟨1,3,1,[]⟩,Ir,As z2,I0 z5,As z6]:List Row)
abbrev lI (z0:Step):=([i64 z0.op,i64 z0.num,i64 z0.BF,ow 7 0 z0.args,ow 8 0 z0.kids]:List AV)
abbrev pU (z0:Step):=((ro 0 48 2 (Bv 3 48 80) z0.kids):Row)
abbrev XI:=((.ptr 5 0 0 0):AV)
abbrev Dc {α0:Type}(z0:List α0):=((i64 (Sh.len z0)):AV)
abbrev NT (z0 z1 z2 z3 z4 z5:_):=([MY z0 z1 z2 z3 z4 z5,⟨1,3,1,[]⟩,Qd,As z2,I0 z5,Ir,JO]:List Row)
abbrev O5 (z0:_):=((.Bj (pY z0) 0):AV)
abbrev JB (z0:_):=((ro 0 104 3 (BO 106 3) z0):Row)
abbrev NU (z0:_):=((ro 0 50 5 (BD 3 3 3 48 80) z0):Row)
abbrev SM (z0 z1:_){α2:Type}(z2:List α2)(z3 z4:_){α5:Type}(z5:List α5):=(⟨0,127,6,[[ls Ai z0,ls BI z1,ow 15 0 z2,ls eI z3,ls eI z4,ow 16 0 z5]]⟩:Row)
abbrev H4 (z0:_):=((.Bj (ln z0) 0):AV)
abbrev rV (z0 z1:_){α2:Type}(z2:List α2)(z3 z4:_){α5:Type}(z5:List α5):=(⟨0,127,6,[[ls Ai z0,ls BI z1,ow 7 0 z2,ls eI z3,ls eI z4,ow 8 0 z5]]⟩:Row)
abbrev HI:=((.ptr 1 0 0 0):AV)
abbrev E4:=((.ptr 2 0 0 0):AV)
abbrev mZ (z0 z1:_){α2:Type}(z2:List α2)(z3 z4:_){α5:Type}(z5:List α5):=(⟨0,127,6,[[ls Ai z0,ls BI z1,ow 13 0 z2,ls eI z3,ls eI z4,ow 14 0 z5]]⟩:Row)
abbrev gS (z0 z1 z2 z3 z4 z5:_)(z6:Step):=([MY z0 z1 z2 z3 z4 z5,⟨1,3,1,[]⟩,Qd,As z2,I0 z5,Ir,JO,⟨0,80,5,[[i64 z6.op,i64 z6.num,i64 z6.BF,ow 8 0 z6.args,ow 9 0 z6.kids]]⟩,ro 0 3 1 eI z6.args,pU z6]:List Row)
abbrev se {α0:Type}(z0:List α0):=(⟨0,75,1,[[ow 13 0 z0]]⟩:Row)
abbrev Rg (z0:_):=((ro 0 45 1 (eS eI) z0):Row)
abbrev DH (z0:_):=((ls Ai z0):AV)
abbrev U2 (z0 z1 z2 z3 z4 z5 z6:_):=([MY z0 z1 z2 z3 z4 z5,⟨1,3,1,[]⟩,Qd,As z2,I0 z5,Ir,JO,U6 z6,As z6]:List Row)
abbrev lg:=((.ptr 6 0 0 0):AV)
abbrev jV (z0:Step):=([i64 z0.op,i64 z0.num,i64 z0.BF,ow 10 0 z0.args,ow 11 0 z0.kids]:List AV)
abbrev DN (z0:_):=((.agg (pY z0)):AV)
abbrev U3:=((.ptr 9 0 0 0):AV)
abbrev QN (z0:Step):=((ro 0 3 1 eI z0.args):Row)
abbrev bu (z0:Step):=((i64 (Sh.len z0.kids)):AV)
abbrev lQ (z0:Block):=((i64 (Sh.len z0.steps)):AV)
abbrev NY (z0:_):=((.agg (Cp z0)):AV)
abbrev YQ (z0:Step):=([i64 z0.op,i64 z0.num,i64 z0.BF,ow 0 0 z0.args,ow 1 0 z0.kids]:List AV)
abbrev TZ (z0:AL):=((ro 0 50 5 (BD 3 3 3 48 80) z0.AF):Row)
abbrev T9 (z0:Block):=((ls Ba z0.steps):AV)
abbrev eM {α0:Type}(z0:List α0){α1:Type}(z1:List α1):=(⟨0,30,2,[[ow 2 0 z0,ow 3 0 z1]]⟩:Row)
abbrev Ve (z0:_):=([⟨0,45,1,[[ow 2 0 z0]]⟩,⟨1,3,1,[]⟩,As z0]:List Row)
abbrev HS (z0:_):=((ro 0 80 5 Ba z0):Row)
abbrev RY (z0:_):=((ls BI z0):AV)
abbrev bC (z0:Step):=([i64 z0.op,i64 z0.num,i64 z0.BF,ow 9 0 z0.args,ow 10 0 z0.kids]:List AV)
abbrev RI (z0:Block):=((ro 0 80 5 (BV 3 48 80) z0.steps):Row)
abbrev RJ (z0:_):=((ro 1 80 5 (BV 3 48 80) z0):Row)
abbrev UH (z0:_):=(⟨0,65,2,[Cp z0]⟩:Row)
abbrev Um (z0:_):=(⟨0,50,5,List.map (BD 3 3 3 48 80) z0⟩:Row)
abbrev qu:=((.ptr 12 0 0 0):AV)
abbrev lu (z0:Step):=((ls BS z0.kids):AV)
abbrev TH (z0:_):=(⟨0,104,3,List.map (BO 106 3) z0⟩:Row)
abbrev aq {α0:Type}(z0:List α0):=(⟨0,75,1,[[ow 4 0 z0]]⟩:Row)
abbrev Y4:=((.sl (List.map Ai [])):AV)
abbrev bY (z0 z1:_){α2:Type}(z2:List α2)(z3 z4:_){α5:Type}(z5:List α5):=(⟨0,127,6,[[DH z0,RY z1,ow 1 0 z2,ls eI z3,ls eI z4,ow 2 0 z5]]⟩:Row)
abbrev nL (z0:Step):=([i64 z0.op,i64 z0.num,i64 z0.BF,ow 8 0 z0.args,ow 9 0 z0.kids]:List AV)
abbrev Gz (z0:_):=((.agg (jI z0)):AV)
abbrev RU (z0 z1:_):=((.CW [.agg (Ai z0),.bool z1]):AV)
abbrev lX {α0:Type}(z0:List α0):=(⟨0,75,1,[[ow 1 0 z0]]⟩:Row)
abbrev qW:=([.own 0 0 (List.length ([]:List AP)),.own 1 0 (List.length ([]:List Ad))]:List AV)
abbrev qm (z0:Ad):=((.agg [ls Ba z0.body.steps,i64 z0.body.result]):AV)
abbrev QR (z0:_):=(⟨0,3,1,List.map eI z0⟩:Row)
abbrev bc (z0 z1 z2 z3 z4:_){α5:Type}(z5:List α5)(z6:_):=([MY z0 z1 z2 z3 z4 z5,⟨1,3,1,[]⟩,Qd,As z2,RJ z6,Ir,JO]:List Row)
abbrev YN (z0:Block):=((.agg [ow 0 0 z0.steps,i64 z0.result]):AV)
abbrev rf:=(⟨0,178,1,[[lg]]⟩:Row)
abbrev YW {α0:Type}(z0:List α0)(z1:_):=(⟨0,45,1,[[ow 6 0 z0],[ls eI z1]]⟩:Row)
abbrev SY:=((.sl (List.map eI [])):AV)
abbrev NV (z0:_):=((i64 (Sh.w (z0+1))):AV)
abbrev Yv (z0:_):=([⟨0,45,1,[[ow 1 0 z0]]⟩,As z0]:List Row)
abbrev Hu (z0:_):=((.agg (ln z0)):AV)
abbrev tM:=([.ptr 7 0 0 0,XI]:List AV)
abbrev bb (z0:AL):=([ow 0 0 z0.decls,ow 1 0 z0.AF]:List AV)
abbrev nU (z0:AL):=((ls Al z0.AF):AV)
abbrev mz (z0:AL):=((i64 (Sh.len z0.AF)):AV)
abbrev fj:=((ro 0 104 3 (BO 106 3) ([]:List AP)):Row)
abbrev tz:=((.ptr 14 0 0 0):AV)
abbrev fc:=([Y4,.sl (List.map Al [])]:List AV)
abbrev rD (z0 z1 z2 z3 z4 z5:_):=([⟨0,127,6,[[DH z0,RY z1,ow 5 0 z2,ls eI z3,ls eI z4,ow 6 0 z5]]⟩,⟨1,3,1,[]⟩,Qd,Ir,JO,As z2,I0 z5]:List Row)
abbrev nO (z0:Step):=([i64 z0.op,i64 z0.num,i64 z0.BF,ow 15 0 z0.args,ow 16 0 z0.kids]:List AV)
abbrev na (z0:Step):=([i64 z0.op,i64 z0.num,i64 z0.BF,ow 17 0 z0.args,ow 18 0 z0.kids]:List AV)
abbrev LR (z0:_):=((.Bj (eI z0) 0):AV)
abbrev Ml (z0:_):=((ro 0 3 1 eI [z0]):Row)
abbrev OX:=((.ptr 0 0 0 5):AV)
abbrev me:=((ro 0 50 5 (BD 3 3 3 48 80) ([]:List Ad)):Row)
abbrev fe:=((.own 0 0 (List.length ([]:List Int))):AV)
abbrev kg (z0 z1:_){α2:Type}(z2:List α2)(z3 z4:_){α5:Type}(z5:List α5):=(⟨0,127,6,[[DH z0,RY z1,ow 9 0 z2,ls eI z3,ls eI z4,ow 10 0 z5]]⟩:Row)
abbrev pg (z0:Ad):=([ow 0 0 z0.params,ow 1 0 z0.Aq,i64 z0.result,ow 2 0 z0.body.steps,i64 z0.body.result]:List AV)
abbrev Z0 (z0:_):=((.Bj (jI z0) 0):AV)
abbrev Sd (z0 z1:_):=((.agg [DH z0,RY z1]):AV)
abbrev iJ (z0 z1 z2 z3 z4 z5:_):=([MY z0 z1 z2 z3 z4 z5,⟨1,3,1,[]⟩,Qd,As z2,I0 z5]:List Row)
abbrev mn (z0:Step){α1:Type}(z1:List α1):=([i64 z0.op,i64 z0.num,i64 z0.BF,ow 10 0 z0.args,ow 11 0 z1]:List AV)
abbrev VZ:=((.ptr 3 0 0 0):AV)
abbrev gO:=([VZ,XI]:List AV)
abbrev IQ:=(⟨0,84,1,[[.fn 144 gO]]⟩:Row)
abbrev bT {α0:Type}(z0:List α0):=(⟨0,45,1,[[ow 2 0 z0]]⟩:Row)
abbrev Vk (z0:_):=((.ptr 0 0 (Int.toNat z0) 0):AV)
abbrev Y8:=((.ptr 4 0 0 0):AV)
abbrev YU (z0:_):=(⟨0,104,3,[Ai z0]⟩:Row)
abbrev qz (z0 z1 z2 z3 z4 z5 z6:_):=([MY z0 z1 z2 z3 z4 z5,⟨1,3,1,[]⟩,Qd,As z2,I0 z5,Ir,JO,⟨0,80,5,[lI z6]⟩,QN z6,pU z6]:List Row)
abbrev ml:=((ro 0 48 2 (Bv 3 48 80) ([]:List Block)):Row)
abbrev gP (z0 z1 z2 z3 z4 z5 z6:_):=([U6 z0,As z0,Ir,YL z1 z2 z3 z4 z5 z6,As z3,I0 z6]:List Row)
abbrev pa (z0:Step):=([i64 z0.op,i64 z0.num,i64 z0.BF,ow 16 0 z0.args,ow 17 0 z0.kids]:List AV)
abbrev qV (z0:Step):=([i64 z0.op,i64 z0.num,i64 z0.BF,ow 18 0 z0.args,ow 19 0 z0.kids]:List AV)
abbrev pV (z0:Step):=([i64 z0.op,i64 z0.num,i64 z0.BF,ow 11 0 z0.args,ow 12 0 z0.kids]:List AV)
abbrev W0 {α0:Type}(z0:List α0)(z1:_):=((i64 (Sh.w ((Sh.len z0)+z1))):AV)
abbrev pf (z0:Step):=([i64 z0.op,i64 z0.num,i64 z0.BF,ow 3 0 z0.args,ow 4 0 z0.kids]:List AV)
abbrev rX:=((.own 1 0 (List.length ([]:List Block))):AV)
abbrev iV (z0 z1 z2 z3:_):=([As z0,As z1,XF,ro 0 48 2 BS z2,As z3]:List Row)
abbrev Wj (z0:Ap):=((ls BI z0.funcs):AV)
abbrev oe (z0 z1:_){α2:Type}(z2:List α2)(z3 z4:_){α5:Type}(z5:List α5):=(⟨0,127,6,[[DH z0,RY z1,ow 4 0 z2,ls eI z3,ls eI z4,ow 5 0 z5]]⟩:Row)
abbrev rC (z0:Step){α1:Type}(z1:List α1):=([i64 z0.op,i64 z0.num,i64 z0.BF,ow 11 0 z0.args,ow 12 0 z1]:List AV)
abbrev oT {α0:Type}(z0:List α0){α1:Type}(z1:List α1)(z2:_)(z3:Block):=([ow 4 0 z0,ow 5 0 z1,i64 z2,ow 6 0 z3.steps,i64 z3.result]:List AV)
abbrev aI (z0 z1:_):=((.CW [i64 z0,.bool z1]):AV)
abbrev Yc (z0 z1:_):=([ls Ba z0,i64 z1]:List AV)
abbrev mY (z0:_):=(⟨0,80,5,List.map (BV 3 48 80) z0⟩:Row)
abbrev qO (z0 z1:_):=([JB z0,NU z1,⟨0,30,2,[[ow 0 0 z0,ow 1 0 z1]]⟩]:List Row)
abbrev oJ (z0:_)(z1:Step)(z2:_):=([UH z0,ZA z1.op z1.num z1.BF z1.args z1.kids,As z2]:List Row)
abbrev iI:=((ro 0 3 1 eI ([]:List Int)):Row)
abbrev Vu {α0:Type}(z0:List α0)(z1:_):=([ow 0 0 z0,i64 z1]:List AV)
abbrev pS (z0:Step){α1:Type}(z1:List α1):=([i64 z0.op,i64 z0.num,i64 z0.BF,ow 1 0 z0.args,ow 0 0 z1]:List AV)
abbrev mf (z0 z1:_){α2:Type}(z2:List α2)(z3:_):=([DH z0,RY z1,ow 15 0 z2,.zc,ls eI z3,.zc]:List AV)
abbrev qb:=([Y4,.sl (List.map BI [])]:List AV)
abbrev qZ (z0 z1 z2 z3 z4 z5 z6:_):=([MY z0 z1 z2 z3 z4 z5,⟨1,3,1,[]⟩,Qd,As z2,I0 z5,Ir,JO,QN z6,pU z6]:List Row)
abbrev eZ (z0 z1:_):=([DH z0,ls Al z1]:List AV)
abbrev qe:=((.own 3 0 (List.length ([]:List Ad))):AV)
abbrev sC:=([i64 0,i64 0,.sl (List.map By [])]:List AV)
abbrev oY (z0 z1 z2 z3 z4:_):=([V8,eM z0 z1,JB z0,NU z1,As z2,As z3,RI z4]:List Row)
abbrev dq {α0:Type}(z0:List α0)(z1:_):=((.agg [ow 4 0 z0,i64 z1]):AV)
abbrev VP (z0:_):=((ro 1 3 1 eI z0):Row)
abbrev nM (z0:_):=((.Bj (Cp z0) 0):AV)
abbrev px:=((.own 2 0 (List.length ([]:List Block))):AV)
abbrev WX (z0:_):=((.agg (Ai z0)):AV)
abbrev qw {α0:Type}(z0:List α0){α1:Type}(z1:List α1)(z2:_)(z3:Block):=([ow 5 0 z0,ow 6 0 z1,i64 z2,ow 7 0 z3.steps,i64 z3.result]:List AV)
abbrev mD (z0 z1 z2 z3 z4:_):=([Gz z0,ls eI z1,DN z2,ls eI z3,ls eI z4]:List AV)
abbrev gM (z0:_):=((ro 0 106 1 (DT 3) z0):Row)
abbrev rI:=((.own 1 0 (List.length ([]:List Int))):AV)
abbrev sS (z0:Step)(z1 z2:_):=([i64 z0.op,i64 z0.num,i64 0,ls eI z1,ls BS z2]:List AV)
abbrev HQ (z0:_):=((ls eI z0):AV)
abbrev mU {α0:Type}(z0:List α0):=(⟨0,75,1,[[ow 11 0 z0]]⟩:Row)
abbrev Z5 (z0:_):=((.agg (mR z0)):AV)
abbrev pB {α0:Type}(z0:List α0){α1:Type}(z1:List α1):=(⟨0,30,2,[[ow 1 0 z0,ow 3 0 z1]]⟩:Row)
abbrev ax (z0:_):=((.Bj (Ai z0) 0):AV)
abbrev nj:=(⟨0,40,2,[[.zc,.zc]]⟩:Row)
abbrev qH (z0:_){α1:Type}(z1:List α1)(z2:_):=(⟨1,80,5,hole z0 (BV 3 48 80) (Sh.len z1) (nL z2)⟩:Row)
abbrev iZ (z0:_):=((.ptr 1 0 (Int.toNat z0) 0):AV)
abbrev iy:=([⟨1,3,1,[]⟩]:List Row)
abbrev iQ:=(⟨1,104,3,[]⟩:Row)
abbrev pb (z0:AP):=([i64 z0.from_,i64 z0.to,ow 0 0 z0.cons]:List AV)
abbrev pt (z0:Block):=((.agg [ow 6 0 z0.steps,i64 z0.result]):AV)
abbrev Yd (z0 z1:_):=([ls eI z0,i64 z1]:List AV)
abbrev ie (z0:_):=(⟨0,80,5,[jV z0]⟩:Row)
abbrev tQ (z0 z1:_):=([i64 z0,i64 0,i64 0,ls eI [z1],.sl (List.map BS [])]:List AV)
abbrev jJ:=(⟨1,48,2,[]⟩:Row)
abbrev iK:=(⟨1,50,5,[]⟩:Row)
abbrev rG (z0:_):=([⟨0,45,1,[[ow 1 1 z0]]⟩,VP z0]:List Row)
abbrev UQ (z0:_):=((.agg (lI z0)):AV)
abbrev rl (z0 z1 z2 z3 z4 z5 z6:_):=([YL z0 z1 z2 z3 z4 z5,⟨1,3,1,[]⟩,Qd,Ir,JO,U6 z6,As z2,I0 z5,As z6]:List Row)
abbrev sY (z0:AL):=(⟨0,30,2,[[ow 3 0 z0.decls,ow 4 0 z0.AF]]⟩:Row)
abbrev tx (z0:AL):=(⟨0,30,2,[[ow 2 0 z0.decls,ow 3 0 z0.AF]]⟩:Row)
abbrev qa (z0:Ad):=((ro 0 80 5 (BV 3 48 80) z0.body.steps):Row)
abbrev mQ:=(⟨0,178,1,[[VZ]]⟩:Row)
abbrev RD (z0 z1 z2 z3 z4 z5 z6:_):=([⟨0,75,1,[[ow 1 0 z0]]⟩,As z0,mQ,⟨0,127,6,[[ls Ai z1,ls BI z2,ow 4 0 z3,ls eI z4,ls eI z5,ow 5 0 z6]]⟩,As z3,I0 z6]:List Row)
abbrev fT (z0:AP):=((i64 (Sh.len z0.cons)):AV)
abbrev nR (z0 z1:_):=([V8,eM z0 z1,JB z0,NU z1]:List Row)
abbrev sQ (z0:_)(z1:Block):=([bT z0,⟨1,3,1,[]⟩,As z0,SI z1.steps z1.result]:List Row)
abbrev Xe (z0 z1:_):=([DH z0,i64 z1]:List AV)
abbrev Wn (z0 z1:_):=([DN z0,i64 z1]:List AV)
abbrev sw:=((.own 2 0 (List.length ([]:List AP))):AV)
abbrev sD:=((.own 6 0 (List.length ([]:List AP))):AV)
abbrev ma {α0:Type}(z0:List α0){α1:Type}(z1:List α1):=([ow 0 0 z0,ow 1 0 z1]:List AV)
abbrev pz (z0 z1 z2 z3 z4 z5:_):=([MY z0 z1 z2 z3 z4 z5,⟨1,3,1,[]⟩,Qd,As z2,I0 z5,JO]:List Row)
abbrev nv (z0 z1:_):=([DN z0,i64 z1,.fn 141 [Ax]]:List AV)
abbrev iP (z0:_):=((.Bj (mR z0) 0):AV)
abbrev sh (z0:Block):=([Fy,⟨1,3,1,[]⟩,O0 z0.steps z0.result]:List Row)
abbrev YF (z0 z1:_):=([As z0,As z1]:List Row)
abbrev tC (z0:Step){α1:Type}(z1:List α1):=([i64 z0.op,i64 z0.num,i64 z0.BF,ow 0 0 z1,rX]:List AV)
abbrev jF (z0:_):=((ro 0 104 3 Ai z0):Row)
abbrev tH (z0:Step){α1:Type}(z1:List α1){α2:Type}(z2:List α2):=([i64 z0.op,i64 z0.num,i64 z0.BF,ow 0 0 z1,ow 1 0 z2]:List AV)
abbrev th (z0:Step){α1:Type}(z1:List α1){α2:Type}(z2:List α2):=([i64 z0.op,i64 z0.num,i64 z0.BF,ow 1 0 z1,ow 0 0 z2]:List AV)
abbrev mS (z0 z1 z2:_):=([As z0,As z1,Fy,HS z2]:List Row)
set_option maxHeartbeats 4000000
abbrev BH (f:FuncId)(a:List AV)(r:List Go.Abs.Row)(v:AV)(s:List Go.Abs.Row):Prop:=BW Tryz.prog f a r λx y=>x=v/\y=s
def tb:Mo Tryz.prog where
 t:=[(102,false,1),(104,true,3),(106,true,1),(108,false,1),(110,true,3),(112,false,1),(114,true,2),(116,true,5),(122,true,3),(127,true,6),(178,false,1),(215,true,1),(22,false,1),(23,false,1),(246,false,1),(248,true,5),(25,true,2),(27,false,1),(28,false,1),(3,false,1),(30,true,2),(38,false,1),(4,false,1),(40,true,2),(45,false,1),(46,false,1),(48,true,2),(50,true,5),(55,true,5),(63,false,1),(65,true,2),(75,false,1),(78,false,1),(80,true,5),(84,false,1)]
 f:=[(104,0,0),(104,1,1),(104,2,2),(106,0,0),(110,0,0),(110,1,1),(110,2,2),(114,0,0),(114,1,1),(116,0,0),(116,1,1),(116,2,2),(116,3,3),(122,0,0),(122,1,1),(122,2,2),(127,0,0),(127,1,2),(127,2,3),(127,3,4),(127,4,5),(215,0,0),(248,0,0),(248,1,1),(248,2,2),(248,3,3),(248,4,4),(25,0,0),(25,1,1),(30,0,0),(30,1,1),(40,0,0),(40,1,1),(48,0,0),(48,1,1),(50,0,0),(50,1,1),(50,2,2),(50,3,3),(55,0,0),(55,1,1),(65,0,0),(65,1,1),(80,0,0),(80,1,1),(80,2,2),(80,3,3),(80,4,4)]
 v:=[]
 b:=[4]
 s:=[102,108,112,134,22,23,246,27,28,38,45,46,63,75,78]
 ht:=by kernel_rfl
 hf:=by kernel_rfl
 hv:=by kernel_rfl
 hb:=by kernel_rfl
 hs:=by kernel_rfl
section
variable {k n : Nat} {ops : Array Oper} {Q : Exit -> St -> Prop} {st : List Row} {e e' : Nat -> AV} {ds ds' : List (Option Tmp)} {t : Tmp} {op : Op} {ty : TypeId} {ps : String} {ed : Array Edge} {v : AV} {r l l' : List Oper} {jj id : Nat} {b want : Bool} {x : Operand} {t' : TypeId} {α : Type} {enc : α -> List AV} {xs : List α} {y : Code}
theorem AK (h:qL tb ⟨n,e,st⟩ op=some v)(hk:AO Tryz.prog k ops Q (ds++[some t]) r ⟨n,EW e t v,st⟩):AO Tryz.prog k ops Q ds (⟨some t,op,ty,ps,ed,none⟩::r) ⟨n,e,st⟩:=zq tb h hk
theorem Aj (hb:b=want)(h:gL tb ds jj ⟨n,e,st⟩ op=some (b,v))(hk:AO Tryz.prog k ops Q (ds++[some t]) r ⟨n,EW e t v,st⟩):AO Tryz.prog k ops Q ds (⟨some t,op,ty,ps,ed,some (jj,want)⟩::r) ⟨n,e,st⟩:=zg tb hb h hk
theorem AM (m:Nat)(h:Go.Abs.runN tb n st m l ds e=some (l',ds',e'))(hk:AO Tryz.prog k ops Q ds' l' ⟨n,e',st⟩):AO Tryz.prog k ops Q ds l ⟨n,e,st⟩:=zm tb m h hk
theorem AS (h:(Go.Abs.cF tb n st ops.toList e,ops.toList.all λo=>DK n o.dst)=(some e',true))(hk:AW Tryz.prog k y Q ⟨n,e',st⟩):AW Tryz.prog k (.seq (.region id ops false) y) Q ⟨n,e,st⟩:=zr tb (vI Prod.fst h) (vI Prod.snd h) hk
theorem Bd (h:(has tb.s t',St.ev ⟨n,e,st⟩ x)=(true,.sl (xs.map enc)))(hk:AO Tryz.prog k ops Q (ds++[some t]) r ⟨n,EW e t (i64 (Sh.len xs)),st⟩):AO Tryz.prog k ops Q ds (⟨some t,.call ⟨.builtin .len,#[x],#[t']⟩,ty,ps,ed,none⟩::r) ⟨n,e,st⟩:=zl tb (vI Prod.fst h) (vI Prod.snd h) hk
end
abbrev dT (z0 z1 z2:Int)(z3:List Int)(z4:List Block):Go.Abs.Row:=⟨0,80,5,[[i64 z0,i64 z1,i64 z2,ls eI z3,ls BS z4]]⟩
abbrev VQ (z0:List AP)(z1:List Ad):Go.Abs.Row:=⟨0,30,2,[[ls Ai z0,ls Al z1]]⟩
abbrev ZJ (z0:List Step)(z1:Int):Go.Abs.Row:=⟨0,48,2,[[ls Ba z0,i64 z1]]⟩
abbrev tw (z0 z1:List Int)(z2:Int)(z3:List Step)(z4:Int):Go.Abs.Row:=⟨0,50,5,[[ls eI z0,ls eI z1,i64 z2,ls Ba z3,i64 z4]]⟩
abbrev qv (z0:List AP)(z1:List Kf):Go.Abs.Row:=⟨0,40,2,[[ls Ai z0,ls Kn z1]]⟩
abbrev ru:Go.Abs.Row:=⟨0,104,3,[[i64 0,i64 0,.zc]]⟩
abbrev CA (z0 z1 z2 z3 z4 z5 z6:_)(r:List (Go.Abs.Row)):=(YL z0 z1 z2 z3 z4 z5)::⟨1,3,1,[]⟩::Qd::(U6 z6)::⟨1,3,1,[]⟩::Ir::(As z2)::(I0 z5)::(As z6)::r
abbrev Hr (z0 z1:_){α2:Type}(z2:List α2){α3:Type}(z3:List α3)(r:List (Nat×AV)):=(0,Ax)::(4,H4 z0)::(5,U3)::(6,ls eI z1)::(8,ow 10 0 z2)::(9,ow 11 0 z3)::r
abbrev H6 (z0:Step)(z1:_)(r:List (Nat×AV)):=(50,lu z0)::(51,bu z0)::(52,i64 z1)::r
abbrev H7 (z0:Block)(z1:_)(r:List (Nat×AV)):=(14,T9 z0)::(15,lQ z0)::(16,i64 z1)::r
abbrev F5 (z0:_)(r:List (Nat×AV)):=(2,XI)::(3,O5 z0)::(4,lg)::r
abbrev Hz (z0 z1 z2:_)(r:List (Go.Abs.Row)):=IQ::(Rg z0)::(IT z1)::(se z2)::(As z2)::r
abbrev Wu (z0 z1:_){α2:Type}(z2:List α2)(z3:_)(r:List (Nat×AV)):=(0,Ax)::(2,.fn 144 gO)::(4,H4 z0)::(7,ls eI z1)::(26,ow 9 0 z2)::(27,Dc z2)::(28,i64 z3)::r
abbrev VR (z0:_)(z1:AL)(z2:_)(r:List (Nat×AV)):=(1,.bd 34 [NY z0])::(4,Ax)::(5,HI)::(13,nU z1)::(14,mz z1)::(15,i64 z2)::r
abbrev bw {α0:Type}(z0:List α0){α1:Type}(z1:List α1)(z2 z3 z4:_){α5:Type}(z5:List α5){α6:Type}(z6:List α6)(z7:_)(r:List (Nat×AV)):=(1,ow 0 0 z0)::(3,ow 1 0 z1)::(4,ls eI z2)::(5,Z0 z3)::(7,H4 z4)::(10,E4)::(11,ow 3 0 z5)::(12,ow 4 0 z6)::(13,i64 z7)::r
abbrev UW (z0 z1 z2 z3 z4:_){α5:Type}(z5:List α5){α6:Type}(z6:List α6)(r:List (Go.Abs.Row)):=(YL z0 z1 z2 z3 z4 z5)::⟨1,3,1,[]⟩::Qd::(U6 z6)::⟨1,3,1,[]⟩::Ir::(As z2)::r
abbrev UC (z0 z1 z2 z3 z4 z5 z6 z7:_)(r:List (Go.Abs.Row)):=(lX z0)::(As z0)::IQ::(aq z1)::(As z1)::rf::(rV z2 z3 z4 z5 z6 z7)::(As z4)::(I0 z7)::r
abbrev Uz (z0:AL)(z1:Step)(r:List (Go.Abs.Row)):=(VQ z0.decls z0.AF)::(dT z1.op z1.num z1.BF z1.args z1.kids)::r
abbrev fF (z0 z1 z2:_){α3:Type}(z3:List α3){α4:Type}(z4:List α4)(z5:_){α6:Type}(z6:List α6){α7:Type}(z7:List α7)(r:List (Nat×AV)):=(5,ls eI z0)::(6,Z0 z1)::(9,O5 z2)::(12,E4)::(13,Dc z3)::(14,ow 3 0 z4)::(15,ls eI z5)::(16,ow 4 0 z6)::(17,ow 5 0 z7)::r
abbrev bO (z0 z1 z2:_)(r:List (Nat×AV)):=(0,Ax)::(2,.fn 144 gO)::(12,i64 z0)::(95,ls eI z1)::(96,Dc z1)::(97,i64 z2)::r
abbrev en (z0:_){α1:Type}(z1:List α1){α2:Type}(z2:List α2){α3:Type}(z3:List α3)(z4:_)(r:List (Nat×AV)):=(4,ls eI z0)::(5,Ax)::(7,HI)::(10,E4)::(11,ow 3 0 z1)::(12,ow 4 0 z2)::(13,ow 5 0 z3)::(14,i64 z4)::r
abbrev OR (z0:_)(r:List (Nat×AV)):=(11,O5 z0)::(12,qu)::(13,tz)::r
abbrev Od (z0:_)(r:List (Nat×AV)):=(1,ls eI z0)::(3,Ax)::(5,HI)::r
abbrev Zs (z0:AL)(z1:Step)(r:List (Go.Abs.Row)):=(Ua z0.decls z0.AF)::(TL z1.op z1.num z1.BF z1.args z1.kids)::r
abbrev V2 (z0:AL)(z1:Block)(r:List (Go.Abs.Row)):=(Ua z0.decls z0.AF)::(O0 z1.steps z1.result)::Fy::r
abbrev KE (r:List (Go.Abs.Row)):=⟨1,3,1,[]⟩::Qd::r
abbrev ix (z0:AL)(z1:Ad)(r:List (Go.Abs.Row)):=(Ua z0.decls z0.AF)::(tT z1.params z1.Aq z1.result z1.body.steps z1.body.result)::Fy::r
abbrev Y9 (r:List (Go.Abs.Row)):=⟨1,3,1,[]⟩::⟨1,3,1,[]⟩::r
abbrev Pn (r:List (Nat×AV)):=(0,Ax)::(2,.fn 144 gO)::r
abbrev aj (z0 z1:_)(r:List (Nat×AV)):=(122,ls eI z0)::(123,Dc z0)::(124,i64 z1)::r
abbrev Ya (z0 z1:_)(r:List (Nat×AV)):=(85,ls eI z0)::(86,Dc z0)::(87,i64 z1)::r
abbrev Yf (z0:_){α1:Type}(z1:List α1)(r:List (Nat×AV)):=(8,.fn 144 tM)::(9,i64 z0)::(11,Dc z1)::r
abbrev Cf (z0 z1:_)(r:List (Go.Abs.Row)):=(As z0)::(As z1)::r
abbrev YJ (z0 z1 z2 z3 z4 z5 z6 z7:_)(r:List (Go.Abs.Row)):=IQ::(Rg z0)::(IT z1)::(mZ z2 z3 z4 z5 z6 z7)::(As z4)::(I0 z7)::r
abbrev jC (z0 z1:_)(z2:Ad)(r:List (Nat×AV)):=(28,i64 z0)::(29,.bd 34 [NY z1])::(30,Z5 z2)::(32,qm z2)::r
abbrev eY (z0:_){α1:Type}(z1:List α1)(r:List (Nat×AV)):=(0,Ax)::(4,H4 z0)::(5,U3)::(6,ow 10 0 z1)::r
abbrev hP (z0 z1 z2:_)(r:List (Nat×AV)):=(1,ls eI z0)::(3,ls eI z1)::(4,ls eI z2)::(5,Ax)::(7,HI)::r
abbrev SQ {α0:Type}(z0:List α0)(r:List (Nat×AV)):=(12,E4)::(21,ow 3 0 z0)::r
abbrev Qf (z0 z1:_)(r:List (Nat×AV)):=(2,i64 z0)::(3,ls eI z1)::r
abbrev Jy (z0:Step)(r:List (Go.Abs.Row)):=(QN z0)::(pU z0)::r
abbrev db (z0 z1:_){α2:Type}(z2:List α2)(r:List (Nat×AV)):=(0,ls eI z0)::(1,i64 z1)::(5,ow 0 0 z2)::r
abbrev Ez (z0 z1:_)(r:List (Go.Abs.Row)):=(As z0)::(I0 z1)::r
abbrev sP (z0:AL)(z1:List AP)(z2:List Ad)(z3:_)(z4:AL)(z5 z6:_)(r:List (Go.Abs.Row)):=(fp z0.decls z0.AF)::(lP z1 z2)::(JB z3)::(TZ z4)::(tx z4)::(JB z5)::(NU z6)::⟨0,30,2,[[ow 5 0 z5,ow 6 0 z6]]⟩::r
abbrev dG (z0 z1:_)(r:List (Nat×AV)):=(10,i64 z0)::(11,O5 z1)::(12,qu)::r
abbrev ky {α0:Type}(z0:List α0)(r:List (Nat×AV)):=(0,Ax)::(5,U3)::(147,Ax)::(151,ow 7 0 z0)::r
abbrev qA (z0:_){α1:Type}(z1:List α1){α2:Type}(z2:List α2)(z3:_)(r:List (Nat×AV)):=(2,Ax)::(3,HI)::(4,E4)::(5,ls eI z0)::(6,ow 3 0 z1)::(7,ow 4 0 z2)::(8,i64 z3)::r
abbrev Vt (z0:_)(r:List (Nat×AV)):=(11,O5 z0)::(13,qu)::r
abbrev sV (z0:AL){α1:Type}(z1:List α1)(r:List (Go.Abs.Row)):=(Wr z0.decls z0.AF)::⟨0,65,2,[[.zc,.zc]]⟩::⟨0,65,2,[[DH z0.decls,ow 3 0 z1]]⟩::r
abbrev mW (z0 z1:_)(r:List (Nat×AV)):=(8,ls eI z0)::(9,Dc z0)::(10,i64 z1)::r
abbrev nE (z0:_)(r:List (Nat×AV)):=(4,ls eI z0)::(5,Ax)::(7,HI)::(10,E4)::r
abbrev bV (z0:_)(r:List (Go.Abs.Row)):=(As z0)::⟨1,3,1,[]⟩::r
abbrev oc (z0:_)(z1:Step)(r:List (Go.Abs.Row)):=(UH z0)::(ZA z1.op z1.num z1.BF z1.args z1.kids)::r
abbrev qI (z0 z1 z2:_){α3:Type}(z3:List α3)(z4:_)(r:List (Nat×AV)):=(3,nM z0)::(4,iP z1)::(5,O5 z2)::(6,Ax)::(7,ow 1 0 z3)::(8,HQ z4)::r
abbrev mK (z0 z1 z2:_)(r:List (Nat×AV)):=(98,Gz z0)::(99,ls eI z1)::(100,DN z2)::r
abbrev sx (z0 z1:_)(r:List (Nat×AV)):=(0,DH z0)::(3,i64 z1)::(4,Ax)::(12,DH z0)::(13,Dc z0)::(14,i64 z1)::r
abbrev ir (z0:_)(r:List (Nat×AV)):=(2,VZ)::(3,O5 z0)::(4,Y8)::r
abbrev ja (z0:_)(r:List (Nat×AV)):=(6,H4 z0)::(8,.fn 144 tM)::r
abbrev sM (z0 z1:_)(r:List (Nat×AV)):=(1,Ax)::(4,HI)::(5,.bool z0)::(6,Y8)::(7,.ptr 7 0 0 0)::(8,.bool z1)::r
abbrev bX {α0:Type}(z0:List α0)(z1:_)(r:List (Nat×AV)):=(16,Dc z0)::(17,i64 z1)::r
abbrev eb (z0:_)(r:List (Go.Abs.Row)):=Ir::JO::(U6 z0)::(As z0)::r
abbrev pC (r:List (Nat×AV)):=(8,i64 (-1))::(9,.bool false)::r
abbrev ns (r:List (Nat×AV)):=(6,i64 (-1))::(7,.bool false)::r
abbrev oD {α0:Type}(z0:List α0)(z1 z2:_)(r:List (Nat×AV)):=(66,ow 6 0 z0)::(70,ls eI z1)::(73,ls eI z2)::r
abbrev ij (z0 z1:_)(r:List (Go.Abs.Row)):=V8::(eM z0 z1)::(JB z0)::(NU z1)::r
abbrev ke (r:List (Nat×AV)):=(2,Ax)::(3,.bool false)::r
abbrev qN (z0 z1:_)(r:List (Nat×AV)):=(16,HQ z0)::(17,Dc z0)::(18,i64 z1)::r
abbrev sG (z0:Step)(r:List (Go.Abs.Row)):=(TL z0.op z0.num z0.BF z0.args z0.kids)::⟨1,3,1,[]⟩::r
abbrev oW {α0:Type}(z0:List α0)(r:List (Nat×AV)):=(7,Ax)::(10,HI)::(11,ow 2 0 z0)::r
abbrev qB (z0:_){α1:Type}(z1:List α1)(z2:_)(r:List (Nat×AV)):=(22,Y8)::(98,Gz z0)::(99,ow 5 0 z1)::(100,DN z2)::r
abbrev jS (z0:_){α1:Type}(z1:List α1)(r:List (Nat×AV)):=(104,ls eI z0)::(105,Dc z1)::r
theorem nk:Ix Tryz.prog 104=true:=by kernel_rfl
theorem nI:Ix Tryz.prog 106=true:=by kernel_rfl
theorem ta:Ix Tryz.prog 40=true:=by kernel_rfl
theorem tG:Ix Tryz.prog 55=true:=by kernel_rfl
theorem oM:Kt Tryz.prog 104=some [(0,1),(1,1),(2,1)]:=by kernel_rfl
theorem nZ:Kt Tryz.prog 106=some [(0,1)]:=by kernel_rfl
theorem tN:Kt Tryz.prog 40=some [(0,1),(1,1)]:=by kernel_rfl
theorem tR:Kt Tryz.prog 55=some [(0,1),(1,1),(2,3)]:=by kernel_rfl
theorem Jl:Ck Tryz.prog 102=some ⟨106,1,24,[.sl []]⟩:=by kernel_rfl
theorem nJ:Ck Tryz.prog 108=some ⟨215,1,24,[.sl []]⟩:=by kernel_rfl
theorem nW:Ck Tryz.prog 112=some ⟨248,5,72,[.int .i64 0,.int .i64 0,.int .i64 0,.sl [],.sl []]⟩:=by kernel_rfl
theorem rN:Ck Tryz.prog 22=some ⟨110,3,40,[.int .i64 0,.int .i64 0,.sl []]⟩:=by kernel_rfl
theorem rT:Ck Tryz.prog 23=some ⟨116,5,88,[.sl [],.sl [],.int .i64 0,.sl [],.int .i64 0]⟩:=by kernel_rfl
theorem nX:Ck Tryz.prog 246=some ⟨114,2,32,[.sl [],.int .i64 0]⟩:=by kernel_rfl
theorem EZ:Ck Tryz.prog 27=some ⟨104,3,40,[.int .i64 0,.int .i64 0,.sl []]⟩:=by kernel_rfl
theorem Hg:Ck Tryz.prog 28=some ⟨50,5,88,[.sl [],.sl [],.int .i64 0,.sl [],.int .i64 0]⟩:=by kernel_rfl
theorem cR:Ck Tryz.prog 38=some ⟨55,5,72,[.sl [],.int .i64 0,.int .i64 0,.int .i64 0,.sl []]⟩:=by kernel_rfl
theorem Ay:Ck Tryz.prog 45=some ⟨3,1,8,[.int .i64 0]⟩:=by kernel_rfl
theorem Cb:Ck Tryz.prog 46=some ⟨80,5,72,[.int .i64 0,.int .i64 0,.int .i64 0,.sl [],.sl []]⟩:=by kernel_rfl
theorem Kq:Ck Tryz.prog 78=some ⟨48,2,32,[.sl [],.int .i64 0]⟩:=by kernel_rfl
theorem Qa:Cn Tryz.prog 102=true:=by kernel_rfl
theorem WG:Cn Tryz.prog 27=true:=by kernel_rfl
theorem tE:Cn Tryz.prog 38=true:=by kernel_rfl
theorem Hq:Cn Tryz.prog 45=true:=by kernel_rfl
theorem aQ:Cn Tryz.prog 78=true:=by kernel_rfl
theorem QP:DJ Tryz.prog 102=some (false,1):=by kernel_rfl
theorem JU:DJ Tryz.prog 104=some (true,3):=by kernel_rfl
theorem Ny:DJ Tryz.prog 106=some (true,1):=by kernel_rfl
theorem rJ:DJ Tryz.prog 27=some (false,1):=by kernel_rfl
theorem nS:DJ Tryz.prog 28=some (false,1):=by kernel_rfl
theorem JR:DJ Tryz.prog 3=some (false,1):=by kernel_rfl
theorem I1:DJ Tryz.prog 30=some (true,2):=by kernel_rfl
theorem tX:DJ Tryz.prog 38=some (false,1):=by kernel_rfl
theorem nQ:DJ Tryz.prog 40=some (true,2):=by kernel_rfl
theorem Kl:DJ Tryz.prog 45=some (false,1):=by kernel_rfl
theorem R8:DJ Tryz.prog 46=some (false,1):=by kernel_rfl
theorem LO:DJ Tryz.prog 48=some (true,2):=by kernel_rfl
theorem Q9:DJ Tryz.prog 50=some (true,5):=by kernel_rfl
theorem tD:DJ Tryz.prog 55=some (true,5):=by kernel_rfl
theorem fz:DJ Tryz.prog 78=some (false,1):=by kernel_rfl
theorem LP:DJ Tryz.prog 80=some (true,5):=by kernel_rfl
theorem Hb:IE Tryz.prog 104=some [.int .i64 0,.int .i64 0,.zc]:=by kernel_rfl
theorem QK:IE Tryz.prog 106=some [.zc]:=by kernel_rfl
theorem Me:IE Tryz.prog 30=some [.zc,.zc]:=by kernel_rfl
theorem nC:IE Tryz.prog 40=some [.zc,.zc]:=by kernel_rfl
theorem Lr:IE Tryz.prog 48=some [.zc,.int .i64 0]:=by kernel_rfl
theorem Q2:IE Tryz.prog 50=some [.zc,.zc,.int .i64 0,.zc,.int .i64 0]:=by kernel_rfl
theorem rK:IE Tryz.prog 55=some [.zc,.int .i64 0,.int .i64 0,.int .i64 0,.zc]:=by kernel_rfl
theorem Ot:IE Tryz.prog 80=some [.int .i64 0,.int .i64 0,.int .i64 0,.zc,.zc]:=by kernel_rfl
theorem L9 {p0:(List Int)}{p1 r:Int}(h0:I7 p0 p1=some r):BH 124 (Yd p0 p1) [] (i64 r) []:=by
 unfold I7 at h0;refine Bb Tryz.func124 AA (AS AA (Ab λc a=>AM 2 AA (Bd AA (AM 2 AA (AR a (AB λd b=>AS AA ?_))))));refine An h0 ?_ ?_<;>intro e h0
 ·refine AS AA ?_;cases h0;exact rt [(4,i64 (-1))]
 ·refine AG (b _ (AS AA ?_));cases h0;exact rt [(4,i64 (Sh.w (p1-(Sh.len p0))))]
theorem Zu {p0:Bw}{p1 r:Int}(h0:OM p0 p1=some r):BH 190 [.agg (By p0),i64 p1] [] (i64 r) []:=by
 unfold OM at h0;refine Bb Tryz.func190 AA (Ab λf a=>CY 0 AA (AK AA (AR a (Ab λg b=>AM 3 AA (bs h0 λe c h0=>CR (hb 124) (L9 c) rfl (AK AA (AR b (AB λh d=>AS AA ?_))))))));refine An h0 ?_ ?_<;>intro i h0
 ·refine AS AA ?_;obtain rfl:=Sh.Av h0;exact rd [(4,i64 (-1))]
 ·refine AG (d _ (AS AA ?_));obtain rfl:=Sh.Av h0;exact rd [(4,i64 e)]
theorem YE {N:Nat}{p0:(List Bw)}{p1 r:Int}(h0:Mx N p0 p1=some r):BH 123 [ls By p0,i64 p1] [] (i64 r) []:=by
 unfold Mx at h0;refine Bb Tryz.func123 AA (AS AA (Ab λF l=>AM 2 AA (Bd AA (AM 2 AA (AR l (AB λG m=>AS AA ?_))))));refine An h0 ?_ ?_<;>intro H h0
 ·refine AS AA ?_;cases h0;exact rt [(4,i64 (-1))]
 ·refine AG (m _ (AB λu o=>AS AA ?_));obtain⟨d,b,h0⟩:=Sh.BG h0;have p:∀{a},JJ d (.inr a) ⟨27,AJ [(1,i64 a)],[]⟩ u:=by
   rintro a ⟨⟩ s x;try dsimp only at h0
   refine o _ (AH x (AS AA ?_));obtain rfl:=Sh.Av h0;exact rt [(4,i64 a)]
  refine AI (Fh (H0 p0) (λc e=>⟨27,AJ [(0,ls By p0),(1,i64 c),(5,i64 e)],[]⟩) N (Sh.w (p1-(Sh.len p0))) 0 b Ag ?_);intro n c e b;rw[H0]at b;refine AB λy f=>Ab λz g=>AM 2 AA (Bd AA (AK AA (AR g ?_)));refine An b ?_ ?_<;>intro A b
  ·refine AG (f _ (AB λB h=>AI (Ab λC i=>AM 2 AA (bs b λD j b=>DI nJ j AA (AM 2 AA (bs b λq k b=>CR (hb 190) (Zu k) rfl (AK AA (AR i (AS AA ?_)))))))));refine An b ?_ ?_<;>intro E b
   ·refine AS AA ?_;cases b;cases h0;exact rt [(4,i64 (-1))]
   ·exact AG (h _ (AE AA (AM 3 AA (AD (xi (q,Sh.w (e+1)) b Ag)))))
  ·exact Af (p b Ag)
theorem X7 {N:Nat}{p0:AP}{p1 r:Int}(h0:NC N p0 p1=some r):BH 66 [WX p0,i64 p1] [] (i64 r) []:=by
 unfold NC at h0;refine Bb Tryz.func66 AA (Ab λf a=>CY 0 AA (AK AA (AR a (Ab λg b=>AM 3 AA (bs h0 λe c h0=>CR (hb 123) (YE c) rfl (AK AA (AR b (AB λh d=>AS AA ?_))))))));refine An h0 ?_ ?_<;>intro i h0
 ·refine AS AA ?_;obtain rfl:=Sh.Av h0;exact rd [(4,i64 (-1))]
 ·refine AG (d _ (AS AA ?_));obtain rfl:=Sh.Av h0;exact rd [(4,i64 e)]
theorem Wl {N:Nat}{p0:(List AP)}{p1 r:Int}(h0:Lu N p0 p1=some r):BH 25 (Xe p0 p1) [] (i64 r) []:=by
 unfold Lu at h0;refine Bb Tryz.func25 AA (AS AA (Ab λF l=>AM 2 AA (Bd AA (AM 2 AA (AR l (AB λG m=>AS AA ?_))))));refine An h0 ?_ ?_<;>intro H h0
 ·refine AS AA ?_;cases h0;exact rt [(4,i64 (-1))]
 ·refine AG (m _ (AB λu o=>AS AA ?_));obtain⟨d,b,h0⟩:=Sh.BG h0;have p:∀{a},JJ d (.inr a) ⟨27,AJ [(1,i64 a)],[]⟩ u:=by
   rintro a ⟨⟩ s x;try dsimp only at h0
   refine o _ (AH x (AS AA ?_));obtain rfl:=Sh.Av h0;exact rt [(4,i64 a)]
  refine AI (Fh (HM N p0) (λc e=>⟨27,AJ [(0,ls Ai p0),(1,i64 c),(5,i64 e)],[]⟩) N (Sh.w (p1-(Sh.len p0))) 0 b Ag ?_);intro n c e b;rw[HM]at b;refine AB λy f=>Ab λz g=>AM 2 AA (Bd AA (AK AA (AR g ?_)));refine An b ?_ ?_<;>intro A b
  ·refine AG (f _ (AB λB h=>AI (Ab λC i=>AM 2 AA (bs b λD j b=>DI rN j AA (AM 2 AA (bs b λq k b=>CR (hb 66) (X7 k) rfl (AK AA (AR i (AS AA ?_)))))))));refine An b ?_ ?_<;>intro E b
   ·refine AS AA ?_;cases b;cases h0;exact rt [(4,i64 (-1))]
   ·exact AG (h _ (AE AA (AM 3 AA (AD (xi (q,Sh.w (e+1)) b Ag)))))
  ·exact Af (p b Ag)
theorem Vg {N:Nat}{zY:Block->Int->Option (Int)}(hrec_laws_szBlock :∀{p0:Block} {p1:Int} {r:Int},zY p0 p1=some r->BH 125 (Wn p0 p1) [] (i64 r) []){p0:(List Block)}{p1 r:Int}(h0:LQ N zY p0 p1=some r):BH 272 [ls BS p0,i64 p1] [] (i64 r) []:=by
 unfold LQ at h0;refine Bb Tryz.func272 AA (AS AA (Ab λF l=>AM 2 AA (Bd AA (AM 2 AA (AR l (AB λG m=>AS AA ?_))))));refine An h0 ?_ ?_<;>intro H h0
 ·refine AS AA ?_;cases h0;exact rt [(4,i64 (-1))]
 ·refine AG (m _ (AB λu o=>AS AA ?_));obtain⟨d,b,h0⟩:=Sh.BG h0;have p:∀{a},JJ d (.inr a) ⟨27,AJ [(1,i64 a)],[]⟩ u:=by
   rintro a ⟨⟩ s x;try dsimp only at h0
   refine o _ (AH x (AS AA ?_));obtain rfl:=Sh.Av h0;exact rt [(4,i64 a)]
  refine AI (Fh (Fp p0 zY) (λc e=>⟨27,AJ [(0,ls BS p0),(1,i64 c),(5,i64 e)],[]⟩) N (Sh.w (p1-(Sh.len p0))) 0 b Ag ?_);intro n c e b;rw[Fp]at b;refine AB λy f=>Ab λz g=>AM 2 AA (Bd AA (AK AA (AR g ?_)));refine An b ?_ ?_<;>intro A b
  ·refine AG (f _ (AB λB h=>AI (Ab λC i=>AM 2 AA (bs b λD j b=>DI nX j AA (AM 2 AA (bs b λq k b=>CR (hb 125) (hrec_laws_szBlock k) rfl (AK AA (AR i (AS AA ?_)))))))));refine An b ?_ ?_<;>intro E b
   ·refine AS AA ?_;cases b;cases h0;exact rt [(4,i64 (-1))]
   ·exact AG (h _ (AE AA (AM 3 AA (AD (xi (q,Sh.w (e+1)) b Ag)))))
  ·exact Af (p b Ag)
theorem X4 {N:Nat}{zY:Block->Int->Option (Int)}(hrec_laws_szBlock :∀{p0:Block} {p1:Int} {r:Int},zY p0 p1=some r->BH 125 (Wn p0 p1) [] (i64 r) []){p0:Step}{p1 r:Int}(h0:My N zY p0 p1=some r):BH 241 [Hu p0,i64 p1] [] (i64 r) []:=by
 unfold My at h0;refine Bb Tryz.func241 AA (Ab λk b=>CY 0 AA (AK AA (AR b (Ab λl c=>AM 3 AA (bs h0 λn d h0=>CR (hb 124) (L9 d) rfl (AK AA (AR c (AB λo e=>AS AA ?_))))))));refine An h0 ?_ ?_<;>intro p h0
 ·refine AS AA ?_;cases h0;exact rd [(4,i64 (-1))]
 ·refine AG (e _ (Ab λq f=>AM 3 AA (bs h0 λh g h0=>CR (hb 272) (Vg hrec_laws_szBlock g) rfl (AK AA (AR f (AB λi a=>AS AA ?_))))));refine An h0 ?_ ?_<;>intro j h0
  ·refine AS AA ?_;obtain rfl:=Sh.Av h0;exact rd [(4,i64 (-1))]
  ·refine AG (a _ (AS AA ?_));obtain rfl:=Sh.Av h0;exact rd [(4,i64 h)]
theorem Xh {N:Nat}{zY:Block->Int->Option (Int)}(hrec_laws_szBlock :∀{p0:Block} {p1:Int} {r:Int},zY p0 p1=some r->BH 125 (Wn p0 p1) [] (i64 r) []){p0:(List Step)}{p1 r:Int}(h0:N8 N zY p0 p1=some r):BH 191 (Yc p0 p1) [] (i64 r) []:=by
 unfold N8 at h0;refine Bb Tryz.func191 AA (AS AA (Ab λF l=>AM 2 AA (Bd AA (AM 2 AA (AR l (AB λG m=>AS AA ?_))))));refine An h0 ?_ ?_<;>intro H h0
 ·refine AS AA ?_;cases h0;exact rt [(4,i64 (-1))]
 ·refine AG (m _ (AB λx o=>AS AA ?_));obtain⟨d,b,h0⟩:=Sh.BG h0;have p:∀{a},JJ d (.inr a) ⟨27,AJ [(1,i64 a)],[]⟩ x:=by
   rintro a ⟨⟩ s y;try dsimp only at h0
   refine o _ (AH y (AS AA ?_));obtain rfl:=Sh.Av h0;exact rt [(4,i64 a)]
  refine AI (Fh (GL N p0 zY) (λc e=>⟨27,AJ [(0,ls Ba p0),(1,i64 c),(5,i64 e)],[]⟩) N (Sh.w (p1-(Sh.len p0))) 0 b Ag ?_);intro n c e b;rw[GL]at b;refine AB λz f=>Ab λA g=>AM 2 AA (Bd AA (AK AA (AR g ?_)));refine An b ?_ ?_<;>intro B b
  ·refine AG (f _ (AB λC h=>AI (Ab λD i=>AM 2 AA (bs b λq j b=>zz (H4 q) (E1 nW AA AA j (CE _) rfl) rfl (AM 2 AA (bs b λt k b=>CR (hb 241) (X4 hrec_laws_szBlock k) rfl (AK AA (AR i (AS AA ?_)))))))));refine An b ?_ ?_<;>intro E b
   ·refine AS AA ?_;cases b;cases h0;exact rt [(4,i64 (-1))]
   ·exact AG (h _ (AE AA (AM 3 AA (AD (xi (t,Sh.w (e+1)) b Ag)))))
  ·exact Af (p b Ag)
theorem Uq {N:Nat}{zY:Block->Int->Option (Int)}(hrec_laws_szBlock :∀{p0:Block} {p1:Int} {r:Int},zY p0 p1=some r->BH 125 (Wn p0 p1) [] (i64 r) []){p0:Block}{p1 r:Int}(h0:L8 N zY p0 p1=some r):BH 125 (Wn p0 p1) [] (i64 r) []:=by
 unfold L8 at h0;refine Bb Tryz.func125 AA (Ab λf a=>CY 0 AA (AK AA (AR a (Ab λg b=>AM 3 AA (bs h0 λe c h0=>CR (hb 191) (Xh hrec_laws_szBlock c) rfl (AK AA (AR b (AB λh d=>AS AA ?_))))))));refine An h0 ?_ ?_<;>intro i h0
 ·refine AS AA ?_;obtain rfl:=Sh.Av h0;exact rd [(4,i64 (-1))]
 ·refine AG (d _ (AS AA ?_));obtain rfl:=Sh.Av h0;exact rd [(4,i64 e)]
theorem U0 {N:Nat}:∀(n:Nat),∀{p0:Block} {p1:Int} {r:Int},H5 N n p0 p1=some r->BH 125 (Wn p0 p1) [] (i64 r) []:=by
 intro n
 induction n with
 | zero=>intro p0 p1 r a;cases a
 | succ n ih=>
  intro p0 p1 r a;rw[H5]at a;exact Uq (λh=>ih h) a
theorem Xb {N:Nat}:∀{p0:Block} {p1:Int} {r:Int},OB N p0 p1=some r->BH 125 (Wn p0 p1) [] (i64 r) []:=by
 intro p0 p1 r a;exact U0 N a
theorem Uu {N:Nat}{p0:Ad}{p1 r:Int}(h0:KL N p0 p1=some r):BH 67 [Z5 p0,i64 p1] [] (i64 r) []:=by
 unfold KL at h0;refine Bb Tryz.func67 AA (Ab λs e=>CY 0 AA (AK AA (AR e (Ab λt f=>AM 3 AA (bs h0 λu g h0=>CR (hb 124) (L9 g) rfl (AK AA (AR f (AB λw h=>AS AA ?_))))))));refine An h0 ?_ ?_<;>intro x h0
 ·refine AS AA ?_;cases h0;exact rd [(4,i64 (-1))]
 ·refine AG (h _ (Ab λy i=>AM 3 AA (bs h0 λz j h0=>CR (hb 124) (L9 j) rfl (AK AA (AR i (AB λl a=>AS AA ?_))))));refine An h0 ?_ ?_<;>intro n h0
  ·refine AS AA ?_;cases h0;exact rd [(4,i64 (-1))]
  ·refine AG (a _ (Ab λo b=>AM 3 AA (bs h0 λk c h0=>CR (hb 125) (Xb c) rfl (AK AA (AR b (AB λp d=>AS AA ?_))))));refine An h0 ?_ ?_<;>intro q h0
   ·refine AS AA ?_;obtain rfl:=Sh.Av h0;exact rd [(4,i64 (-1))]
   ·refine AG (d _ (AS AA ?_));obtain rfl:=Sh.Av h0;exact rd [(4,i64 k)]
theorem UL {N:Nat}{p0:(List Ad)}{p1 r:Int}(h0:Jj N p0 p1=some r):BH 26 [ls Al p0,i64 p1] [] (i64 r) []:=by
 unfold Jj at h0;refine Bb Tryz.func26 AA (AS AA (Ab λF l=>AM 2 AA (Bd AA (AM 2 AA (AR l (AB λG m=>AS AA ?_))))));refine An h0 ?_ ?_<;>intro H h0
 ·refine AS AA ?_;cases h0;exact rt [(4,i64 (-1))]
 ·refine AG (m _ (AB λu o=>AS AA ?_));obtain⟨d,b,h0⟩:=Sh.BG h0;have p:∀{a},JJ d (.inr a) ⟨27,AJ [(1,i64 a)],[]⟩ u:=by
   rintro a ⟨⟩ s x;try dsimp only at h0
   refine o _ (AH x (AS AA ?_));obtain rfl:=Sh.Av h0;exact rt [(4,i64 a)]
  refine AI (Fh (Fg N p0) (λc e=>⟨27,AJ [(0,ls Al p0),(1,i64 c),(5,i64 e)],[]⟩) N (Sh.w (p1-(Sh.len p0))) 0 b Ag ?_);intro n c e b;rw[Fg]at b;refine AB λy f=>Ab λz g=>AM 2 AA (Bd AA (AK AA (AR g ?_)));refine An b ?_ ?_<;>intro A b
  ·refine AG (f _ (AB λB h=>AI (Ab λC i=>AM 2 AA (bs b λD j b=>DI rT j AA (AM 2 AA (bs b λq k b=>CR (hb 67) (Uu k) rfl (AK AA (AR i (AS AA ?_)))))))));refine An b ?_ ?_<;>intro E b
   ·refine AS AA ?_;cases b;cases h0;exact rt [(4,i64 (-1))]
   ·exact AG (h _ (AE AA (AM 3 AA (AD (xi (q,Sh.w (e+1)) b Ag)))))
  ·exact Af (p b Ag)
theorem WU {N:Nat}{p0:AL}{p1 r:Int}(h0:LL N p0 p1=some r):BH 7 [Gz p0,i64 p1] [] (i64 r) []:=by
 unfold LL at h0;refine Bb Tryz.func7 AA (Ab λk b=>CY 0 AA (AK AA (AR b (Ab λl c=>AM 3 AA (bs h0 λn d h0=>CR (hb 25) (Wl d) rfl (AK AA (AR c (AB λo e=>AS AA ?_))))))));refine An h0 ?_ ?_<;>intro p h0
 ·refine AS AA ?_;cases h0;exact rd [(4,i64 (-1))]
 ·refine AG (e _ (Ab λq f=>AM 3 AA (bs h0 λh g h0=>CR (hb 26) (UL g) rfl (AK AA (AR f (AB λi a=>AS AA ?_))))));refine An h0 ?_ ?_<;>intro j h0
  ·refine AS AA ?_;obtain rfl:=Sh.Av h0;exact rd [(4,i64 (-1))]
  ·refine AG (a _ (AS AA ?_));obtain rfl:=Sh.Av h0;exact rd [(4,i64 h)]
theorem MD {N:Nat}{p0:(List Int)}{r:(List Int)}(h0:JM N p0=some r):BH 135 [ls eI p0] [] (ow 0 0 r) [As r]:=by
 unfold JM at h0;refine Bb Tryz.func135 AA (AS AA (Ab λF k=>AK AA (Bd AA (bs h0 λt l h0=>gN (m:=0) (enc:=eI) (u:=0) BJ Ay AA AA AA l AA AA (AK AA (AR k (AB λx o=>AS AA (bs h0 λp a h0=>?_))))))));have y:∀{f},JJ p f ⟨22,AJ [(3,ow 0 0 f)],[As f]⟩ x:=by
  rintro _ ⟨⟩ s z;try dsimp only at h0
  refine o _ (AH z (AS AA ?_));obtain rfl:=Sh.Av h0;exact rt [(2,ow 0 0 p)]
 refine AI (Fh (G5 p0) (λc e=>⟨22,AJ [(0,ls eI p0),(3,ow 0 0 e),(4,i64 c)],[ro 0 3 1 eI e]⟩) N 0 t a Ag ?_);intro n c e a;rw[G5]at a;refine AB λA g=>Ab λB h=>AM 2 AA (Bd AA (AK AA (AR h ?_)));refine An a ?_ ?_<;>intro C a
 ·refine AG (g _ (AB λD i=>AI (AE AA (AM 4 AA (bs a λd j a=>DI Ay j AA (AK AA (bs a λE b a=>zz (Vk c) (Ls Ay AA b) rfl (N5 (u':=d) BJ JR AA AA b AA AA AA zC rfl AA (AR i (AE AA (AM 3 AA ?_)))))))))));exact AD (xi (Sh.w (c+1),Sh.put e c d) a (DY [(0,.sl (List.map eI p0)),(3,.own 0 0 (List.length (Sh.put e c d))),(4,i64 (Sh.w (c+1)))] ⟨.rfl,(.len (by simp only[Sh.BE])),.rfl,uM⟩))
 ·exact Af (y a Ag)
theorem ZT {N:Nat}{p0 r:Bw}(h0:OI N p0=some r):BH 204 [.agg (By p0)] [] (.agg [ow 0 0 r.fields]) [ro 0 3 1 eI r.fields]:=by
 unfold OI at h0;refine BW.wk (r0:=(.agg [ow 0 0 r.fields])) (st0:=[ro 0 3 1 eI r.fields,⟨0,106,1,[[ow 0 0 r.fields]]⟩]) (Bb Tryz.func204 AA (Ab λg b=>CY 0 AA (Cm 1 QK AA (AR b (Ab λh c=>Cm 2 QK AA (AR c (Ab λi d=>AM 2 AA (bs h0 λa e h0=>Dx (ow 3 0 a) (MD e) ⟨(Ar λ_=>AA),uM⟩ (AK AA (CF Kl AA (AR d (Ab λj f=>AK AA (CF Ny AA (AR f ?_)))))))))))))) (Gy (L:=[(0,.agg [ow 0 0 r.fields])]) (st':=[ro 0 3 1 eI r.fields]) [0] AA (by decide) rfl AA (.pure BB uM) (.same AA));cases h0;exact BP ⟨_,(Da (L:=[(2,HI)]) (st':=[As a,⟨0,106,1,[[ow 0 0 a]]⟩]) (st1:=[As a,⟨0,106,1,[[ow 3 0 a]]⟩]) [3,1] (.p (.w .nil)) (.same AA)).trans (DY [(2,HI)] (.same AA)),Lk (.tmp 2) [ow 0 0 a] Ny AA _ ⟨AA,AA⟩⟩
theorem YK {N:Nat}{p0:(List Bw)}{r:(List Bw)}(h0:Mp N p0=some r):BH 134 [ls By p0] [] (ow 0 0 r) [gM r]:=by
 unfold Mp at h0;refine Bb Tryz.func134 AA (AS AA (Ab λK q=>AK AA (Bd AA (bs h0 λA t h0=>Qz (m:=0) (st':=[gM A]) (enc:=(DT 3)) (u:=(Bw.mk [])) Jl AA AA ⟨.inr ⟨AA,_,_,AA,by decide⟩,uM⟩ t AA AA (AK AA (AR q (AB λC x=>AS AA (bs h0 λy b h0=>?_))))))));have D:∀{g},JJ y g ⟨23,AJ [(3,ow 0 0 g)],[gM g]⟩ C:=by
  rintro _ ⟨⟩ s E;try dsimp only at h0
  refine x _ (AH E (AS AA ?_));obtain rfl:=Sh.Av h0;exact rt [(2,ow 0 0 y)]
 refine AI (Fh (Hy N p0) (λd f=>⟨23,AJ [(0,ls By p0),(3,ow 0 0 f),(4,i64 d)],[ro 0 106 1 (DT 3) f]⟩) N 0 A b Ag ?_);intro n d f b;rw[Hy]at b;refine AB λF h=>Ab λG k=>AM 2 AA (Bd AA (AK AA (AR k ?_)));refine An b ?_ ?_<;>intro H b
 ·refine AG (h _ (AB λI l=>AI (AE AA (AM 4 AA (bs b λJ o b=>DI nJ o AA (AK AA (bs b λa p b=>Dx (.agg [ow 1 0 a.fields]) (ZT p) ⟨(Ar λ_=>AA),uM⟩ (bs b λz e b=>zz (Vk d) (Ls Jl AA e) rfl (V0 (st':=[⟨0,106,1,hole f (DT 3) d [ow 1 0 a.fields]⟩,ro 0 3 1 eI a.fields]) BJ Ny AA AA e AA AA AA zA rfl AA (Ac (Wk.take (id:=0) (m:=1) (j:=0) (i:=d) (c:=z) (ys:=a.fields) (encY:=eI) rfl e AA AA AA (by decide) yp DA AA AA) (Ac (FT (id:=0) (i:=d) (u:=a) rfl AA AA) (AR l (AE AA (AM 3 AA ?_))))))))))))));exact AD (xi (Sh.w (d+1),Sh.put f d a) b (by refine Wk.trans (Bf (L:=[(0,.sl (List.map By p0)),(3,.own 0 0 (List.length f)),(4,i64 (Sh.w (d+1)))]) (st':=[⟨0,106,1,List.map (DT 3) (Sh.put f d a)⟩]) [0] (.deep Bi .nil) ⟨.rfl,.rfl,.rfl,uM⟩) ?_;exact DY [(0,.sl (List.map By p0)),(3,.own 0 0 (List.length (Sh.put f d a))),(4,i64 (Sh.w (d+1)))] ⟨.rfl,(.len (by simp only[Sh.BE])),.rfl,uM⟩))
 ·exact Af (D b Ag)
theorem YV {N:Nat}{p0 r:AP}(h0:Mr N p0=some r):BH 74 [WX p0] [] (.agg (pb r)) [ro 0 106 1 (DT 3) r.cons]:=by
 unfold Mr at h0;refine BW.wk (r0:=(.agg (pb r))) (st0:=[ro 0 106 1 (DT 3) r.cons,⟨0,104,3,[pb r]⟩]) (Bb Tryz.func74 AA (Ab λi b=>CY 0 AA (Cm 1 Hb AA (AR b (Ab λj c=>Cm 2 Hb AA (AR c (Ab λk d=>AM 3 AA (CF JR AA (AR d (Ab λl e=>AM 3 AA (CF JR AA (AR e (Ab λn f=>AM 2 AA (bs h0 λa g h0=>Dx (ow 3 0 a) (YK g) ⟨Bi,uM⟩ (AK AA (CF QP AA (AR f (Ab λo h=>AK AA (CF JU AA (AR h ?_)))))))))))))))))))) (Gy (L:=[(0,.agg (pb r))]) (st':=[ro 0 106 1 (DT 3) r.cons]) [0] AA (by decide) rfl AA (.deep Bi uM) (.same AA));cases h0;exact BP ⟨_,(Da (L:=[(2,HI)]) (st':=[gM a,⟨0,104,3,[[i64 p0.from_,i64 p0.to,ow 0 0 a]]⟩]) (st1:=[gM a,⟨0,104,3,[[i64 p0.from_,i64 p0.to,ow 3 0 a]]⟩]) [3,1] (.deep Bi (.w .nil)) (.same AA)).trans (DY [(2,HI)] (.same AA)),Lk (.tmp 2) [i64 p0.from_,i64 p0.to,ow 0 0 a] JU AA _ ⟨AA,AA⟩⟩
theorem XT {N:Nat}{p0:(List AP)}{r:(List AP)}(h0:L6 N p0=some r):BH 30 [DH p0] [] (ow 0 0 r) [JB r]:=by
 unfold L6 at h0;refine Bb Tryz.func30 AA (AS AA (Ab λK q=>AK AA (Bd AA (bs h0 λA t h0=>Qz (m:=0) (st':=[JB A]) (enc:=(BO 106 3)) (u:=(AP.mk 0 0 [])) EZ AA AA ⟨.inl ⟨AA,AA⟩,⟨.inl ⟨AA,AA⟩,⟨.inr ⟨AA,_,_,AA,by decide⟩,uM⟩⟩⟩ t AA AA (AK AA (AR q (AB λC x=>AS AA (bs h0 λy b h0=>?_))))))));have D:∀{g},JJ y g ⟨23,AJ [(3,ow 0 0 g)],[JB g]⟩ C:=by
  rintro _ ⟨⟩ s E;try dsimp only at h0
  refine x _ (AH E (AS AA ?_));obtain rfl:=Sh.Av h0;exact rt [(2,ow 0 0 y)]
 refine AI (Fh (HC N p0) (λd f=>⟨23,AJ [(0,ls Ai p0),(3,ow 0 0 f),(4,i64 d)],[ro 0 104 3 (BO 106 3) f]⟩) N 0 A b Ag ?_);intro n d f b;rw[HC]at b;refine AB λF h=>Ab λG k=>AM 2 AA (Bd AA (AK AA (AR k ?_)));refine An b ?_ ?_<;>intro H b
 ·refine AG (h _ (AB λI l=>AI (AE AA (AM 4 AA (bs b λJ o b=>DI rN o AA (AK AA (bs b λa p b=>Dx (.agg [i64 a.from_,i64 a.to,ow 1 0 a.cons]) (YV p) ⟨Bi,uM⟩ (bs b λz e b=>zz (Vk d) (Ls EZ AA e) rfl (V0 (st':=[⟨0,104,3,hole f (BO 106 3) d [i64 a.from_,i64 a.to,ow 1 0 a.cons]⟩,ro 0 106 1 (DT 3) a.cons]) BJ JU AA AA e AA AA AA (show 3<=3 by decide) rfl AA (Ac (Wk.take (id:=0) (m:=1) (j:=2) (i:=d) (c:=z) (ys:=a.cons) (encY:=(DT 3)) rfl e AA AA AA (by decide) yp DA AA AA) (Ac (FT (id:=0) (i:=d) (u:=a) rfl AA AA) (AR l (AE AA (AM 3 AA ?_))))))))))))));exact AD (xi (Sh.w (d+1),Sh.put f d a) b (by refine Wk.trans (Bf (L:=[(0,.sl (List.map Ai p0)),(3,.own 0 0 (List.length f)),(4,i64 (Sh.w (d+1)))]) (st':=[⟨0,104,3,List.map (BO 106 3) (Sh.put f d a)⟩]) [0] (.deep Bi .nil) ⟨.rfl,.rfl,.rfl,uM⟩) ?_;exact DY [(0,.sl (List.map Ai p0)),(3,.own 0 0 (List.length (Sh.put f d a))),(4,i64 (Sh.w (d+1)))] ⟨.rfl,(.len (by simp only[Sh.BE])),.rfl,uM⟩))
 ·exact Af (D b Ag)
theorem Wc {N:Nat}{zZ:Block->Option (Block)}(hrec_laws_toBlock :∀{p0:Block} {r:Block},zZ p0=some r->BH 136 [DN p0] [] (YN r) [RI r]){p0:(List Block)}{r:(List Block)}(h0:NH N zZ p0=some r):BH 275 [ls BS p0] [] (ow 0 0 r) [IT r]:=by
 unfold NH at h0;refine Bb Tryz.func275 AA (AS AA (Ab λK q=>AK AA (Bd AA (bs h0 λA t h0=>Qz (m:=0) (st':=[IT A]) (enc:=(Bv 3 48 80)) (u:=(Block.mk [] 0)) Kq AA AA ⟨.inr ⟨AA,_,_,AA,by decide⟩,⟨.inl ⟨AA,AA⟩,uM⟩⟩ t AA AA (AK AA (AR q (AB λC x=>AS AA (bs h0 λy b h0=>?_))))))));have D:∀{g},JJ y g ⟨23,AJ [(3,ow 0 0 g)],[IT g]⟩ C:=by
  rintro _ ⟨⟩ s E;try dsimp only at h0
  refine x _ (AH E (AS AA ?_));obtain rfl:=Sh.Av h0;exact rt [(2,ow 0 0 y)]
 refine AI (Fh (Fm p0 zZ) (λd f=>⟨23,AJ [(0,ls BS p0),(3,ow 0 0 f),(4,i64 d)],[ro 0 48 2 (Bv 3 48 80) f]⟩) N 0 A b Ag ?_);intro n d f b;rw[Fm]at b;refine AB λF h=>Ab λG k=>AM 2 AA (Bd AA (AK AA (AR k ?_)));refine An b ?_ ?_<;>intro H b
 ·refine AG (h _ (AB λI l=>AI (AE AA (AM 4 AA (bs b λJ o b=>DI nX o AA (AK AA (bs b λa p b=>Dx (.agg [ow 1 0 a.steps,i64 a.result]) (hrec_laws_toBlock p) ⟨AT AN,uM⟩ (bs b λz e b=>zz (Vk d) (Ls Kq AA e) rfl (V0 (st':=[⟨0,48,2,hole f (Bv 3 48 80) d [ow 1 0 a.steps,i64 a.result]⟩,RI a]) BJ LO AA AA e AA AA AA zL rfl AA (Ac (Wk.take (id:=0) (m:=1) (j:=0) (i:=d) (c:=z) (ys:=a.steps) (encY:=(BV 3 48 80)) rfl e AA AA AA (by decide) yp Le AA AA) (Ac (FT (id:=0) (i:=d) (u:=a) rfl AA AA) (AR l (AE AA (AM 3 AA ?_))))))))))))));exact AD (xi (Sh.w (d+1),Sh.put f d a) b (by refine Wk.trans (Bf (L:=[(0,.sl (List.map BS p0)),(3,.own 0 0 (List.length f)),(4,i64 (Sh.w (d+1)))]) (st':=[⟨0,48,2,List.map (Bv 3 48 80) (Sh.put f d a)⟩]) [0] (.deep Bi .nil) ⟨.rfl,.rfl,.rfl,uM⟩) ?_;exact DY [(0,.sl (List.map BS p0)),(3,.own 0 0 (List.length (Sh.put f d a))),(4,i64 (Sh.w (d+1)))] ⟨.rfl,(.len (by simp only[Sh.BE])),.rfl,uM⟩))
 ·exact Af (D b Ag)
theorem YH {N:Nat}{zZ:Block->Option (Block)}(hrec_laws_toBlock :∀{p0:Block} {r:Block},zZ p0=some r->BH 136 [DN p0] [] (YN r) [RI r]){p0 r:Step}(h0:Mw N zZ p0=some r):BH 254 [Hu p0] [] (.agg (YQ r)) (Jy r []):=by
 unfold Mw at h0;refine BW.wk (r0:=(.agg (YQ r))) (st0:=(Jy r [⟨0,80,5,[YQ r]⟩])) (Bb Tryz.func254 AA (Ab λo d=>CY 0 AA (Cm 1 Ot AA (AR d (Ab λp e=>Cm 2 Ot AA (AR e (Ab λq f=>AM 3 AA (CF JR AA (AR f (Ab λs g=>AM 3 AA (CF JR AA (AR g (Ab λt h=>AM 3 AA (CF JR AA (AR h (Ab λu i=>AM 2 AA (bs h0 λa j h0=>Dx (ow 3 0 a) (MD j) ⟨(Ar λ_=>AA),uM⟩ (AK AA (CF Kl AA (AR i (Ab λw k=>AM 2 AA (bs h0 λb l h0=>Dx (ow 4 0 b) (Wc hrec_laws_toBlock l) ⟨Bi,uM⟩ (AK AA (CF fz AA (AR k (Ab λn c=>AK AA (CF LP AA (AR c ?_)))))))))))))))))))))))))))) (Gy (L:=[(0,.agg (YQ r))]) (st':=(Jy r [])) [0,1] AA (by decide) rfl AA (.pure BB (.deep Bi uM)) (.same AA));cases h0;exact BP ⟨_,(Da (L:=[(2,E4)]) (st':=[As a,IT b,⟨0,80,5,[tH p0 a b]⟩]) (st1:=[As a,IT b,⟨0,80,5,[[i64 p0.op,i64 p0.num,i64 p0.BF,ow 3 0 a,ow 4 0 b]]⟩]) [3,4,1] (.p (.deep Bi (.w .nil))) (.same AA)).trans (DY [(2,E4)] (.same AA)),Lk (.tmp 2) (tH p0 a b) LP AA _ ⟨AA,AA⟩⟩
theorem XC {N:Nat}{zZ:Block->Option (Block)}(hrec_laws_toBlock :∀{p0:Block} {r:Block},zZ p0=some r->BH 136 [DN p0] [] (YN r) [RI r]){p0:(List Step)}{r:(List Step)}(h0:N4 N zZ p0=some r):BH 205 [ls Ba p0] [] (ow 0 0 r) [I0 r]:=by
 unfold N4 at h0;refine Bb Tryz.func205 AA (AS AA (Ab λK t=>AK AA (Bd AA (bs h0 λB x h0=>?_))));refine Qz (m:=0) (st':=[ro 0 80 5 (BV 3 48 80) B]) (enc:=(BV 3 48 80)) (u:=(Step.mk 0 0 0 [] [])) Cb AA AA (by rw[CV];exact⟨.inl ⟨AA,AA⟩,⟨.inl ⟨AA,AA⟩,⟨.inl ⟨AA,AA⟩,⟨.inr ⟨AA,_,_,AA,by decide⟩,⟨.inr ⟨AA,_,_,AA,by decide⟩,uM⟩⟩⟩⟩⟩) x AA AA ?_;refine AK AA (AR t (AB λD y=>AS AA (bs h0 λz b h0=>?_)));have E:∀{g},JJ z g ⟨23,AJ [(3,ow 0 0 g)],[I0 g]⟩ D:=by
  rintro _ ⟨⟩ s F;try dsimp only at h0
  refine y _ (AH F (AS AA ?_));obtain rfl:=Sh.Av h0;exact rt [(2,ow 0 0 z)]
 refine AI (Fh (GM N p0 zZ) (λe f=>⟨23,AJ [(0,ls Ba p0),(3,ow 0 0 f),(4,i64 e)],[ro 0 80 5 (BV 3 48 80) f]⟩) N 0 B b Ag ?_);intro n e f b;rw[GM]at b;refine AB λG h=>Ab λH k=>AM 2 AA (Bd AA (AK AA (AR k ?_)));refine An b ?_ ?_<;>intro I b
 ·refine AG (h _ (AB λJ l=>AI (AE AA (AM 4 AA (bs b λA o b=>zz (H4 A) (E1 nW AA AA o (CE _) rfl) rfl (AK AA (bs b λa p b=>Dx (.agg [i64 a.op,i64 a.num,i64 a.BF,ow 1 0 a.args,ow 2 0 a.kids]) (YH hrec_laws_toBlock p) ⟨(Ar λ_=>AA),⟨Bi,uM⟩⟩ (bs b λq d b=>zz (Vk e) (Ls Cb AA d) rfl (V0 (st':=(⟨0,80,5,hole f (BV 3 48 80) e [i64 a.op,i64 a.num,i64 a.BF,ow 1 0 a.args,ow 2 0 a.kids]⟩::Jy a [])) BJ LP AA AA d AA AA AA (show 5<=5 by decide) (gX _) rfl (Ac (Wk.take (id:=0) (m:=1) (j:=3) (i:=e) (c:=q) (ys:=a.args) (encY:=eI) rfl d AA AA AA (by decide) yp DA AA AA) (Ac (Wk.take (id:=0) (m:=2) (j:=4) (i:=e) (c:=q) (ys:=a.kids) (encY:=(Bv 3 48 80)) rfl d AA AA AA (by decide) zE DA AA AA) (Ac (FT (id:=0) (i:=e) (u:=a) rfl (CV a).symm AA) (AR l (AE AA (AM 3 AA ?_)))))))))))))));exact AD (xi (Sh.w (e+1),Sh.put f e a) b (by refine Wk.trans (Bf (L:=[(0,.sl (List.map Ba p0)),(3,.own 0 0 (List.length f)),(4,i64 (Sh.w (e+1)))]) (st':=[⟨0,80,5,List.map (BV 3 48 80) (Sh.put f e a)⟩]) [0] (.deep (AT AN) .nil) ⟨.rfl,.rfl,.rfl,uM⟩) ?_;exact DY [(0,.sl (List.map Ba p0)),(3,.own 0 0 (List.length (Sh.put f e a))),(4,i64 (Sh.w (e+1)))] ⟨.rfl,(.len (by simp only[Sh.BE])),.rfl,uM⟩))
 ·exact Af (E b Ag)
theorem Ur {N:Nat}{zZ:Block->Option (Block)}(hrec_laws_toBlock :∀{p0:Block} {r:Block},zZ p0=some r->BH 136 [DN p0] [] (YN r) [RI r]){p0 r:Block}(h0:MM N zZ p0=some r):BH 136 [DN p0] [] (YN r) [RI r]:=by
 unfold MM at h0;refine BW.wk (r0:=(YN r)) (st0:=[RI r,⟨0,48,2,[[ow 0 0 r.steps,i64 r.result]]⟩]) (Bb Tryz.func136 AA (Ab λh b=>CY 0 AA (Cm 1 Lr AA (AR b (Ab λi c=>Cm 2 Lr AA (AR c (Ab λj d=>AM 2 AA (bs h0 λa e h0=>Dx (ow 3 0 a) (XC hrec_laws_toBlock e) ⟨AT AN,uM⟩ (AK AA (CF R8 AA (AR d (Ab λk f=>AM 3 AA (CF JR AA (AR f (Ab λl g=>AK AA (CF LO AA (AR g ?_))))))))))))))))) (Gy (L:=[(0,YN r)]) (st':=[RI r]) [0] AA (by decide) rfl AA (.deep (AT AN) uM) (.same AA));cases h0;exact BP ⟨_,(Da (L:=[(2,HI)]) (st':=[I0 a,⟨0,48,2,[Vu a p0.result]⟩]) (st1:=[I0 a,⟨0,48,2,[[ow 3 0 a,i64 p0.result]]⟩]) [3,1] (.deep (AT AN) (.w .nil)) (.same AA)).trans (DY [(2,HI)] (.same AA)),Lk (.tmp 2) (Vu a p0.result) LO AA _ ⟨AA,AA⟩⟩
theorem Uw {N:Nat}:∀(n:Nat),∀{p0:Block} {r:Block},H2 N n p0=some r->BH 136 [DN p0] [] (YN r) [RI r]:=by
 intro n
 induction n with
 | zero=>intro p0 r a;cases a
 | succ n ih=>
  intro p0 r a;rw[H2]at a;exact Ur (λh=>ih h) a
theorem XX {N:Nat}:∀{p0:Block} {r:Block},OC N p0=some r->BH 136 [DN p0] [] (YN r) [RI r]:=by
 intro p0 r a;exact Uw N a
theorem U7 {N:Nat}{p0 r:Ad}(h0:KI N p0=some r):BH 75 [Z5 p0] [] (.agg (pg r)) (Cf r.params r.Aq [qa r]):=by
 unfold KI at h0;refine BW.wk (r0:=(.agg (pg r))) (st0:=(Cf r.params r.Aq [qa r,⟨0,50,5,[pg r]⟩])) (Bb Tryz.func75 AA (Ab λp e=>CY 0 AA (Cm 1 Q2 AA (AR e (Ab λq f=>Cm 2 Q2 AA (AR f (Ab λs g=>AM 2 AA (bs h0 λb h h0=>Dx (ow 3 0 b) (MD h) ⟨(Ar λ_=>AA),uM⟩ (AK AA (CF Kl AA (AR g (Ab λt i=>AM 2 AA (bs h0 λc j h0=>Dx (ow 4 0 c) (MD j) ⟨(Ar λ_=>AA),uM⟩ (AK AA (CF Kl AA (AR i (Ab λu k=>AM 3 AA (CF JR AA (AR k (Ab λw l=>AM 2 AA (bs h0 λa n h0=>Dx (.agg [ow 5 0 a.steps,i64 a.result]) (XX n) ⟨AT AN,uM⟩ (AK AA (CF LO AA (AR l (Ab λo d=>AK AA (CF Q9 AA (AR d ?_))))))))))))))))))))))))))) (Gy (L:=[(0,.agg (pg r))]) (st':=(Cf r.params r.Aq [qa r])) [0,1,2] AA (by decide) rfl AA (.pure BB (.pure BB (.deep (AT AN) uM))) (.same AA));cases h0;exact BP ⟨_,(Da (L:=[(2,VZ)]) (st':=(Cf b c [RI a,⟨0,50,5,[[ow 0 0 b,ow 1 0 c,i64 p0.result,ow 2 0 a.steps,i64 a.result]]⟩])) (st1:=(Cf b c [RI a,⟨0,50,5,[[ow 3 0 b,ow 4 0 c,i64 p0.result,ow 5 0 a.steps,i64 a.result]]⟩])) [3,4,5,1] (.p (.p (.deep (AT AN) (.w .nil)))) (.same AA)).trans (DY [(2,VZ)] (.same AA)),Lk (.tmp 2) [ow 0 0 b,ow 1 0 c,i64 p0.result,ow 2 0 a.steps,i64 a.result] Q9 AA _ ⟨AA,AA⟩⟩
theorem UU {N:Nat}{p0:(List Ad)}{r:(List Ad)}(h0:Jk N p0=some r):BH 31 [ls Al p0] [] (ow 0 0 r) [NU r]:=by
 unfold Jk at h0;refine Bb Tryz.func31 AA (AS AA (Ab λK t=>AK AA (Bd AA (bs h0 λA x h0=>Qz (m:=0) (st':=[NU A]) (enc:=(BD 3 3 3 48 80)) (u:=(Ad.mk [] [] 0 (Block.mk [] 0))) Hg AA AA ⟨.inr ⟨AA,_,_,AA,by decide⟩,⟨.inr ⟨AA,_,_,AA,by decide⟩,⟨.inl ⟨AA,AA⟩,⟨.inr ⟨AA,_,_,AA,by decide⟩,⟨.inl ⟨AA,AA⟩,uM⟩⟩⟩⟩⟩ x AA AA (AK AA (AR t (AB λC y=>AS AA (bs h0 λz d h0=>?_))))))));have D:∀{h},JJ z h ⟨23,AJ [(3,ow 0 0 h)],[NU h]⟩ C:=by
  rintro _ ⟨⟩ s E;try dsimp only at h0
  refine y _ (AH E (AS AA ?_));obtain rfl:=Sh.Av h0;exact rt [(2,ow 0 0 z)]
 refine AI (Fh (Fe N p0) (λe f=>⟨23,AJ [(0,ls Al p0),(3,ow 0 0 f),(4,i64 e)],[ro 0 50 5 (BD 3 3 3 48 80) f]⟩) N 0 A d Ag ?_);intro n e f d;rw[Fe]at d;refine AB λF k=>Ab λG l=>AM 2 AA (Bd AA (AK AA (AR l ?_)));refine An d ?_ ?_<;>intro H d
 ·refine AG (k _ (AB λI o=>AI (AE AA (AM 4 AA (bs d λJ p d=>DI rT p AA (AK AA (bs d λa q d=>Dx (.agg [ow 1 0 a.params,ow 2 0 a.Aq,i64 a.result,ow 3 0 a.body.steps,i64 a.body.result]) (U7 q) ⟨(Ar λ_=>AA),⟨(Ar λ_=>AA),⟨AT AN,uM⟩⟩⟩ (bs d λg b d=>zz (Vk e) (Ls Hg AA b) rfl (V0 (st':=(⟨0,50,5,hole f (BD 3 3 3 48 80) e [ow 1 0 a.params,ow 2 0 a.Aq,i64 a.result,ow 3 0 a.body.steps,i64 a.body.result]⟩::Cf a.params a.Aq [qa a])) BJ Q9 AA AA b AA AA AA (show 5<=5 by decide) rfl AA (Ac (Wk.take (id:=0) (m:=1) (j:=0) (i:=e) (c:=g) (ys:=a.params) (encY:=eI) rfl b AA AA AA (by decide) yp DA AA AA) (Ac (Wk.take (id:=0) (m:=2) (j:=1) (i:=e) (c:=g) (ys:=a.Aq) (encY:=eI) rfl b AA AA AA (by decide) zE DA AA AA) (Ac (Wk.take (id:=0) (m:=3) (j:=3) (i:=e) (c:=g) (ys:=a.body.steps) (encY:=(BV 3 48 80)) rfl b AA AA AA (by decide) (show 0<=3 by decide) Le AA AA) (Ac (FT (id:=0) (i:=e) (u:=a) rfl AA AA) (AR o (AE AA (AM 3 AA ?_))))))))))))))));exact AD (xi (Sh.w (e+1),Sh.put f e a) d (by refine Wk.trans (Bf (L:=[(0,.sl (List.map Al p0)),(3,.own 0 0 (List.length f)),(4,i64 (Sh.w (e+1)))]) (st':=[⟨0,50,5,List.map (BD 3 3 3 48 80) (Sh.put f e a)⟩]) [0] (.deep Bi .nil) ⟨.rfl,.rfl,.rfl,uM⟩) ?_;exact DY [(0,.sl (List.map Al p0)),(3,.own 0 0 (List.length (Sh.put f e a))),(4,i64 (Sh.w (e+1)))] ⟨.rfl,(.len (by simp only[Sh.BE])),.rfl,uM⟩))
 ·exact Af (D d Ag)
theorem Kv {N:Nat}{p0 r:AL}(h0:HW N p0=some r):BH 9 [Gz p0] [] (.agg (bb r)) [JB r.decls,TZ r]:=by
 unfold HW at h0;refine BW.wk (r0:=(.agg (bb r))) (st0:=[JB r.decls,TZ r,⟨0,30,2,[bb r]⟩]) (Bb Tryz.func9 AA (Ab λj c=>CY 0 AA (Cm 1 Me AA (AR c (Ab λk d=>Cm 2 Me AA (AR d (Ab λl e=>AM 2 AA (bs h0 λa f h0=>Dx (ow 3 0 a) (XT f) ⟨Bi,uM⟩ (AK AA (CF rJ AA (AR e (Ab λn g=>AM 2 AA (bs h0 λb h h0=>Dx (ow 4 0 b) (UU h) ⟨Bi,uM⟩ (AK AA (CF nS AA (AR g (Ab λo i=>AK AA (CF I1 AA (AR i ?_))))))))))))))))))) (Gy (L:=[(0,.agg (bb r))]) (st':=[JB r.decls,TZ r]) [0,1] AA (by decide) rfl AA (.deep Bi (.deep Bi uM)) (.same AA));cases h0;exact BP ⟨_,(Da (L:=[(2,E4)]) (st':=(qO a b)) (st1:=[JB a,NU b,⟨0,30,2,[[ow 3 0 a,ow 4 0 b]]⟩]) [3,4,1] (.deep Bi (.deep Bi (.w .nil))) (.same AA)).trans (DY [(2,E4)] (.same AA)),Lk (.tmp 2) (ma a b) I1 AA _ ⟨AA,AA⟩⟩
theorem YO {N:Nat}{p0:AL}{r:Ej}(h0:NG N p0=some r):BH 192 [Gz p0] [] (.agg [DH r.decls,ls Kn r.funcs]) []:=by
 unfold NG at h0;refine FK AA (Bb Tryz.func192 AA (Ab λG o=>CY 0 AA (Cm 1 nC AA (AR o (Ab λH p=>AM 2 AA (D9 2 ([]:List Kf) Kn cR AA (zz (.agg [DH p0.decls,.own 2 0 (List.length ([]:List Kf))]) (Gs ta tN nC AA AA) rfl (Cm 3 nC AA (CF nQ AA (AR p (AB λz q=>AS AA (bs h0 λt b h0=>?_))))))))))));have A:∀{c},JJ t c ⟨35,AJ [(2,Ax),(3,E4)],[nj,ro 0 55 5 Kn c,⟨0,40,2,[[DH p0.decls,ow 1 0 c]]⟩]⟩ z:=by
  rintro _ ⟨⟩ s B;refine q _ (AH B (Ab λJ u=>AK AA (JT [(2,Ax),(34,.agg [DH p0.decls,ls Kn t])] [nj,⟨1,55,5,[]⟩,⟨0,40,2,[[DH p0.decls,ow 1 0 t]]⟩] 1 AA ⟨.rfl,.agg ⟨.rfl,.Km AA,uM⟩,uM⟩ DA AA (CF nQ AA (AR u ?_)))));cases h0;exact BP ⟨_,Wk.refl _ _,Lk (.tmp 2) [DH p0.decls,ls Kn t] nQ AA _ AA⟩
 refine AI (Fh (G2 p0) (λk d=>⟨35,AJ [(1,.ptr 0 0 0 0),(2,.ptr 1 0 0 0),(3,.ptr 3 0 0 0),(4,i64 k)],[VQ p0.decls p0.AF,⟨0,40,2,[[.zc,.zc]]⟩,ro 0 55 5 Kn d,⟨0,40,2,[[ls Ai p0.decls,ow 2 0 d]]⟩]⟩) N 0 [] b Ag ?_);intro n k d b;rw[G2]at b;refine AB λC g=>Ab λD h=>AM 3 AA (Bd AA (AK AA (AR h ?_)));refine An b ?_ ?_<;>intro E b
 ·refine AG (g _ (AB λF i=>AI (D5 16 (by kernel_rfl) (by kernel_rfl) (by rfl) ?_)));iterate 5 refine yq tb rfl ?_
  refine bs b λa e b=>Lw Hg e AA ?_;iterate 5 refine yq tb rfl ?_
  refine Lw Hg e AA ?_;iterate 2 refine yq tb rfl ?_
  exact yz (.agg [HQ a.params,i64 a.result,i64 0,i64 0,.zc]) (Gs tG tR rK AA AA) rfl (su (l:=([Kf.mk a.params a.result (Ee.mk 0 0 [])])) (enc:=Kn) (pv':=[(0,.agg [HQ a.params,i64 a.result,i64 0,i64 0,.sl (List.map jx [])])]) BJ cR (by decide) rfl AA (.cons (le.agg ⟨le.rfl,le.rfl,le.rfl,le.rfl,le.zc,uM⟩) .nil) rfl AA AA BB (Bl (bs b λf j b=>KA ([Kf.mk a.params a.result (Ee.mk 0 0 [])]) cR AA P1 j (AK AA (CF tX AA (AR i (AE AA (AM 3 AA (AD (xi (Sh.w (k+1),f) b (CH (L:=[(1,Ax),(2,HI),(3,VZ),(4,NV k)]) (st':=[VQ p0.decls p0.AF,nj,ro 0 55 5 Kn f,⟨0,40,2,[[DH p0.decls,ow 2 0 f]]⟩]) (.raw AA AA (.raw AA AA (.pure BB (.raw AA AA .nil)))) (.same AA))))))))))))
 ·exact Af (A b (Da (L:=[(2,Ax),(3,E4)]) (st':=[nj,ro 0 55 5 Kn d,⟨0,40,2,[[DH p0.decls,ow 1 0 d]]⟩]) (st1:=[nj,ro 0 55 5 Kn d,⟨0,40,2,[[DH p0.decls,ow 2 0 d]]⟩]) [1,2,3] (.w (.p (.w .nil))) (.same AA)))
theorem CD {p0 p1 p2:Int}{r:Bool}(h0:Bq p0 p1 p2=some r):BH 174 [i64 p0,i64 p1,i64 p2] [] (.bool r) []:=by
 unfold Bq at h0;refine Bb Tryz.func174 AA (AS AA (AB λg d=>bs h0 λe b h0=>?_));have f:∀{c},JJ e c ⟨15,AJ [(6,.bool c)],[]⟩ g:=by
  rintro _ ⟨⟩ s h;try dsimp only at h0
  refine d _ (AH h ?_);obtain rfl:=Sh.Av h0;exact rt [(6,.bool e)]
 refine AE AA (AM 4 AA ?_);rcases Sh.Aa b with ⟨a,b⟩|⟨a,b⟩
 ·exact Aj a AA (Aj a AA (Aj a AA (zt a AA (AK AA (AD (f b Ag))))))
 ·exact zs a AA (zs a AA (zs a AA (zf a AA (AK AA (AD (f b Ag))))))
theorem QE {N:Nat}{p0:(List AP)}{p1:(List Int)}{r:Bool}(h0:Js N p0 p1=some r):BH 175 [DH p0,ls eI p1] [] (.bool r) []:=by
 unfold Js at h0;refine Bb Tryz.func175 AA (AS AA (AB λo h=>AS AA ?_));obtain⟨i,a,h0⟩:=Sh.BG h0;have p:JJ i (.inr ()) ⟨20,AJ [],[]⟩ o:=by
  rintro⟨⟩ s q;refine h _ (AH q (AS AA ?_));cases h0;exact rt [(4,.bool true)]
 refine AI (LN (Gv p0 p1) (λj=>⟨20,AJ [(0,ls Ai p0),(1,ls eI p1),(5,i64 j)],[]⟩) N 0 a Ag ?_);intro n j a;rw[Gv]at a;refine AB λB k=>Ab λC l=>AM 2 AA (Bd AA (AK AA (AR l ?_)));refine An a ?_ ?_<;>intro D a
 ·refine AG (k _ (AB λt b=>AI (Ab λu c=>AM 2 AA (bs a λx d a=>DI Ay d AA (AM 2 AA (Bd AA (bs a λe f a=>CR (hb 174) (CD f) rfl (AK AA (AR c ?_)))))))));refine An a ?_ ?_<;>intro g a
  ·have y:e=false:=by simpa using g
   refine AS AA ?_;cases a;cases h0;exact rt [(4,.bool false)]
  ·have z:e=true:=by simpa using g
   exact AG (b _ (AE AA (AM 3 AA (AD (xi (Sh.w (j+1)) a Ag)))))
 ·exact Af (p a Ag)
theorem VS {N:Nat}{p0:(List AP)}{p1:Int}{r:Bool}(h0:KY N p0 p1=some r):BH 232 (Xe p0 p1) [] (.bool r) []:=by
 unfold KY at h0;refine Bb Tryz.func232 AA (AS AA (Ab λK2 Y=>AM 2 AA (bs h0 λk Z h0=>DI EZ Z AA (AK AA (Cm 0 Hb AA (CF JU AA (AR Y (AB λK4 b0=>Ab λK5 b1=>AM 2 AA (Bd AA (AK AA (AR b1 ?_)))))))))));refine An h0 ?_ ?_<;>intro b6 h0
 ·refine AB λK7 b2=>AB λK8 b3=>bs h0 λC a h0=>?_;have t:∀{t9},JJ C t9 ⟨100,AJ [(0,DH p0),(5,Ax),(29,.bool t9)],[YU k]⟩ K8:=by
   rintro _ ⟨⟩ s i;refine b3 _ (AH i ?_);refine An h0 ?_ ?_<;>intro c6 h0
   ·refine AS AA ?_;cases h0;exact rd [(4,.bool false)]
   ·refine AG (b2 _ (AB λb4 E=>AS AA ?_));obtain⟨u,a,h0⟩:=Sh.BG h0;have b5:JJ u (.inr ()) ⟨100,AJ [],[]⟩ b4:=by
     rintro⟨⟩ s i;refine E _ (AH i (AS AA ?_));cases h0;exact rt [(4,.bool true)]
    refine AI (LN (F8 N k p0) (λl=>⟨100,AJ [(0,ls Ai p0),(5,.ptr 0 0 0 0),(6,i64 l)],[⟨0,104,3,[Ai k]⟩]⟩) N 0 a Ag ?_);intro n l a;rw[F8]at a;refine AB λc7 G=>Ab λc8 H=>AM 3 AA (Bd AA (AK AA (AR H ?_)));refine An a ?_ ?_<;>intro c9 a
    ·refine AG (G _ (AB λd1 I=>AI (AB λb7 J=>bs a λK c a=>?_)));have L:∀{x},JJ K x ⟨100,AJ [(0,DH p0),(5,Ax),(6,i64 l),(55,.bool x)],[YU k]⟩ b7:=by
      rintro _ ⟨⟩ s i;refine J _ (AH i ?_);refine An a ?_ ?_<;>intro d2 a
      ·refine AS AA ?_;cases a;cases h0;exact rd [(4,.bool false)]
      ·exact AG (I _ (AE AA (AM 3 AA (AD (xi (Sh.w (l+1)) a Ag)))))
     refine AE AA (AM 3 AA (bs c λb8 q c=>DI Jl q AA (AM 2 AA (Bd AA (AM 2 AA ?_)))));rcases Sh.Aa c with ⟨b,c⟩|⟨b,c⟩
     ·refine zs b AA ?_;iterate 8 refine zs b rfl ?_
      exact zt b AA (AD (L c Ag))
     ·refine Aj b AA ?_;iterate 3 refine Aj b rfl ?_
      exact CP (.Bj (By b8) 0) b (Hl Jl AA q) (Aj b AA (Aj b AA (bs c λb9 M c=>Iy b (QE M) rfl (Aj b AA (zf b AA (AD (L c Ag)))))))
    ·exact Af (b5 a (BT _ AA))
  refine AE AA (AM 2 AA (Bd AA (AM 2 AA ?_)));rcases Sh.Aa a with ⟨e,a⟩|⟨e,a⟩
  ·refine zs e AA (zs e AA (zs e AA (zt e AA (AK AA ?_))));iterate 3 refine zs rfl rfl ?_
   exact zt AA AA (AD (t a Ag))
  ·refine Aj e AA (Aj e AA (Aj e AA (zf e AA (AK AA ?_))));rcases Sh.Aa a with ⟨f,a⟩|⟨f,a⟩
   ·exact zs f AA (zs f AA (zs f AA (zt f AA (AD (t a Ag)))))
   ·exact Aj f AA (Aj f AA (Aj f AA (zf f AA (AD (t a Ag)))))
 ·refine AG (b0 _ (AB λc0 O=>AS AA ?_));obtain⟨y,a,h0⟩:=Sh.BG h0;have c1:JJ y (.inr ()) ⟨100,AJ [(0,DH p0),(5,Ax)],[YU k]⟩ c0:=by
   rintro⟨⟩ s i;refine O _ (AH i (AB λc2 P=>bs h0 λQ a h0=>?_));have R:∀{o},JJ Q o ⟨100,AJ [(4,.bool o)],[]⟩ c2:=by
    rintro _ ⟨⟩ s i;try dsimp only at h0
    refine P _ (AH i ?_);obtain rfl:=Sh.Av h0;exact rt [(4,.bool Q)]
   refine AE AA (AM 3 AA (Bd AA (bs a λd3 S a=>CR (hb 174) (CD S) rfl (AK AA ?_))));rcases Sh.Aa a with ⟨d,a⟩|⟨d,a⟩
   ·exact Aj d AA (Aj d AA (Aj d AA (CP (Dc p0) d (Ch WG AA) (bs a λc4 T a=>Iy d (CD T) rfl (zt d AA (AK AA (AD (R a (BT _ AA)))))))))
   ·refine zs d AA ?_;iterate 4 refine zs d rfl ?_
    exact zf d AA (AK AA (AD (R a (BT _ AA))))
  refine AI (LN (GA k p0 p1) (λp=>⟨100,AJ [(0,ls Ai p0),(1,i64 p1),(5,.ptr 0 0 0 0),(7,i64 p)],[⟨0,104,3,[Ai k]⟩]⟩) N 0 a Ag ?_);intro n p a;rw[GA]at a;refine AB λd4 U=>AS AA ?_;refine An a ?_ ?_<;>intro d5 a
  ·refine AG (U _ (AB λd6 V=>AI (AB λc5 W=>bs a λX c a=>?_)));have z:∀{A},JJ X A ⟨100,AJ [(0,DH p0),(1,i64 p1),(5,Ax),(7,i64 p),(87,.bool A)],[YU k]⟩ c5:=by
    rintro _ ⟨⟩ s i;refine W _ (AH i ?_);refine An a ?_ ?_<;>intro d7 a
    ·refine AS AA ?_;cases a;cases h0;exact rd [(4,.bool false)]
    ·exact AG (V _ (AE AA (AM 3 AA (AD (xi (Sh.w (p+1)) a Ag)))))
   refine Cu (by kernel_rfl) (by kernel_rfl) (by rfl) ?_;iterate 2 refine yq tb rfl ?_
   refine bs c λB j c=>Lw EZ j AA ?_;iterate 2 refine yq tb rfl ?_
   refine yl tb AA AA ?_;iterate 2 refine yq tb rfl ?_
   rcases Sh.Aa c with ⟨g,c⟩|⟨g,c⟩
   ·refine yg tb g AA (yg tb g AA (LC (v:=(ax B)) (Is AA AA g) rfl (Hl EZ AA j) ?_));iterate 5 refine yg tb g rfl ?_
    refine yt g AA (yq tb AA ?_);rcases Sh.Aa c with ⟨h,c⟩|⟨h,c⟩
    ·refine yg tb h AA (yg tb h AA (LC (v:=(ax B)) (Is AA AA h) rfl (Hl EZ AA j) ?_));iterate 5 refine yg tb h rfl ?_
     exact yt h AA (Bl (z c Ag))
    ·refine ys h AA ?_;iterate 7 refine ys h rfl ?_
     exact yf h AA (Bl (z c Ag))
   ·refine ys g AA ?_;iterate 7 refine ys g rfl ?_
    refine yf g AA (yq tb AA ?_);iterate 8 refine ys rfl rfl ?_
    exact yf AA AA (Bl (z c Ag))
  ·exact Af (c1 a Ag)
theorem UK {N:Nat}{p0:(List AP)}{r:Bool}(h0:Ju N p0=some r):BH 173 [DH p0] [] (.bool r) []:=by
 unfold Ju at h0;refine Bb Tryz.func173 AA (AS AA (AB λD j=>Ab λE k=>AK AA (Bd AA (AK AA (AR k ?_)))));refine An h0 ?_ ?_<;>intro F h0
 ·refine AS AA ?_;cases h0;exact rt [(2,.bool false)]
 ·refine AG (j _ (AB λq l=>AS AA ?_));obtain⟨b,a,h0⟩:=Sh.BG h0;have m:JJ b (.inr ()) ⟨17,AJ [],[]⟩ q:=by
   rintro⟨⟩ s t;refine l _ (AH t (AS AA ?_));cases h0;exact rt [(2,.bool true)]
  refine AI (LN (FZ N p0) (λo=>⟨17,AJ [(0,ls Ai p0),(3,i64 o)],[]⟩) N 0 a Ag ?_);intro n o a;rw[FZ]at a;refine AB λu c=>Ab λx d=>AM 2 AA (Bd AA (AK AA (AR d ?_)));refine An a ?_ ?_<;>intro y a
  ·refine AG (c _ (AB λz e=>AI (Ab λA f=>AM 2 AA (bs a λg h a=>CR (hb 232) (VS h) rfl (AK AA (AR f ?_))))));refine An a ?_ ?_<;>intro i a
   ·have B:g=false:=by simpa using i
    refine AS AA ?_;cases a;cases h0;exact rt [(2,.bool false)]
   ·have C:g=true:=by simpa using i
    exact AG (e _ (AE AA (AM 3 AA (AD (xi (Sh.w (o+1)) a Ag)))))
  ·exact Af (m a Ag)
theorem VX {N:Nat}{p0:Ej}{r:Bool}(h0:KM N p0=some r):BH 108 [.agg [DH p0.decls,ls Kn p0.funcs]] [] (.bool r) []:=by
 unfold KM at h0;refine Bb Tryz.func108 AA (Ab λK1 I=>CY 0 AA (AK AA (AR I (AB λK2 J=>AB λX K=>bs h0 λU a h0=>?_))));have V:∀{L},JJ U L ⟨64,AJ [(1,Ax),(15,.bool L)],[qv p0.decls p0.funcs]⟩ X:=by
  rintro _ ⟨⟩ s j;refine K _ (AH j ?_);refine An h0 ?_ ?_<;>intro b6 h0
  ·refine AS AA ?_;cases h0;exact rd [(2,.bool false)]
  ·refine AG (J _ (AB λY O=>AS AA ?_));obtain⟨k,a,h0⟩:=Sh.BG h0;have P:JJ k (.inr ()) ⟨64,AJ [(1,Ax)],[qv p0.decls p0.funcs]⟩ Y:=by
    rintro⟨⟩ s j;refine O _ (AH j (AB λQ p=>bs h0 λq a h0=>?_));have t:∀{g},JJ q g ⟨64,AJ [(2,.bool g)],[]⟩ Q:=by
     rintro _ ⟨⟩ s j;try dsimp only at h0
     refine p _ (AH j ?_);obtain rfl:=Sh.Av h0;exact rt [(2,.bool q)]
    refine AE AA (AM 2 AA (bs a λu i a=>DI cR i AA (AM 2 AA (Bd AA (AM 2 AA ?_)))));rcases Sh.Aa a with ⟨d,a⟩|⟨d,a⟩
    ·refine Aj d AA (Aj d AA (CP (.Bj (Kn u) 0) d (Hl cR AA i) ?_));iterate 3 refine Aj d rfl ?_
     exact zt d AA (AK AA (AD (t a (BT _ AA))))
    ·refine zs d AA ?_;iterate 5 refine zs d rfl ?_
     exact zf d AA (AK AA (AD (t a (BT _ AA))))
   refine AI (LN (E7 N p0) (λh=>⟨64,AJ [(1,.ptr 0 0 0 0),(3,i64 h)],[qv p0.decls p0.funcs]⟩) N 0 a Ag ?_);intro n h a;rw[E7]at a;refine AB λZ x=>Ab λb0 y=>AM 3 AA (Bd AA (AK AA (AR y ?_)));refine An a ?_ ?_<;>intro b1 a
   ·refine AG (x _ (AB λb2 z=>AI (Ab λb3 A=>AM 3 AA (bs a λb4 B a=>DI cR B AA (AK AA (Cm 1 rK AA (CF tD AA (AR A (AB λR C=>bs a λD f a=>?_)))))))));have l:∀{o},JJ D o ⟨64,AJ [(1,Ax),(3,i64 h),(48,.bool o)],[qv p0.decls p0.funcs]⟩ R:=by
     rintro _ ⟨⟩ s j;refine C _ (AH j ?_);refine An a ?_ ?_<;>intro b5 a
     ·refine AS AA ?_;cases a;cases h0;exact rd [(2,.bool false)]
     ·exact AG (z _ (AE AA (AM 3 AA (AD (xi (Sh.w (h+1)) a Ag)))))
    refine AE AA (AM 2 AA (Bd AA (AM 2 AA ?_)));rcases Sh.Aa f with ⟨e,f⟩|⟨e,f⟩
    ·refine zs e AA ?_;iterate 5 refine zs e rfl ?_
     refine zt e AA (AK AA ?_);iterate 7 refine zs rfl rfl ?_
     exact zt AA AA (AD (l f (Bf [0] (.w .nil) (.same AA))))
    ·refine Aj e AA ?_;iterate 3 refine Aj e rfl ?_
     refine bs f λb7 E f=>Iy e (QE E) rfl (Aj e AA (zf e AA (AK AA ?_)));rcases Sh.Aa f with ⟨b,f⟩|⟨b,f⟩
     ·refine zs b AA ?_;iterate 6 refine zs b rfl ?_
      exact zt b AA (AD (l f (Bf [0] (.w .nil) (.same AA))))
     ·refine Aj b AA ?_;iterate 3 refine Aj b rfl ?_
      exact CP (Dc p0.decls) b (Ch WG AA) (bs f λS F f=>Iy b (CD F) rfl (Aj b AA (zf b AA (AD (l f (Bf [0] (.w .nil) (.same AA)))))))
   ·exact Af (P a Ag)
 refine AE AA (AM 2 AA (bs a λb8 G a=>CR (hb 173) (UK G) rfl (AM 2 AA ?_)));rcases Sh.Aa a with ⟨c,a⟩|⟨c,a⟩
 ·refine zs c AA ?_;iterate 4 refine zs c rfl ?_
  exact zt c AA (AD (V a Ag))
 ·exact Aj c AA (Aj c AA (CP (i64 (Sh.len p0.funcs)) c (Ch tE AA) (bs a λT H a=>Iy c (CD H) rfl (Aj c AA (zf c AA (AD (V a Ag)))))))
theorem Ut {N:Nat}{p0:(List Int)}{p1:(List Int)}{r:Bool}(h0:KH N p0 p1=some r):BH 193 [ls eI p0,ls eI p1] [] (.bool r) []:=by
 unfold KH at h0;refine Bb Tryz.func193 AA (AS AA (AB λF u=>AS AA ?_));obtain⟨x,e,h0⟩:=Sh.BG h0;have G:JJ x (.inr ()) ⟨47,AJ [],[]⟩ F:=by
  rintro⟨⟩ s y;refine u _ (AH y (AS AA ?_));cases h0;exact rt [(4,.bool true)]
 refine AI (LN (GF p0 p1) (λt=>⟨47,AJ [(0,ls eI p0),(1,ls eI p1),(5,i64 t)],[]⟩) N 0 e Ag ?_);intro n t e;rw[GF]at e;refine AB λK z=>Ab λL A=>AM 2 AA (Bd AA (AK AA (AR A ?_)));refine An e ?_ ?_<;>intro M e
 ·refine AG (z _ (AB λI k=>AI (AB λB l=>bs e λm d e=>?_)));have g:∀{i},JJ m i ⟨47,AJ [(0,ls eI p0),(1,ls eI p1),(5,i64 t),(46,.bool i)],[]⟩ B:=by
   rintro _ ⟨⟩ s y;refine l _ (AH y ?_);refine An e ?_ ?_<;>intro J e
   ·refine AS AA ?_;cases e;cases h0;exact rt [(4,.bool false)]
   ·exact AG (k _ (AE AA (AM 3 AA (AD (xi (Sh.w (t+1)) e Ag)))))
  refine Cu (by kernel_rfl) (by kernel_rfl) (by rfl) ?_;iterate 2 refine yq tb rfl ?_
  refine bs d λh f d=>Lw Ay f AA ?_;iterate 2 refine yq tb rfl ?_
  refine yl tb AA AA (yq tb AA (bs d λC o d=>Og (CD o) ?_));iterate 2 refine yq tb rfl ?_
  rcases Sh.Aa d with ⟨a,d⟩|⟨a,d⟩
  ·refine ys a AA ?_;iterate 7 refine ys a rfl ?_
   refine yt a AA (yq tb AA ?_);iterate 3 refine ys rfl rfl ?_
   iterate 10 refine yn rfl ?_
   exact ys AA AA (yt AA AA (Bl (g d Ag)))
  ·refine yg tb a AA ?_;iterate 2 refine yg tb a rfl ?_
   refine LC (v:=(LR h)) (Is AA AA a) rfl (Hl Ay AA f) (yg tb a AA (bs d λD p d=>LC (v:=(LR D)) (Is AA AA a) rfl (Hl Ay AA p) ?_));iterate 2 refine yg tb a rfl ?_
   refine yf a AA (yq tb AA ?_);rcases Sh.Aa d with ⟨b,d⟩|⟨b,d⟩
   ·refine ys b AA ?_;iterate 2 refine ys b rfl ?_
    iterate 10 refine yn rfl ?_
    exact ys b AA (yt b AA (Bl (g d Ag)))
   ·refine yg tb b AA ?_;iterate 2 refine yg tb b rfl ?_
    rcases Sh.Aa d with ⟨c,d⟩|⟨c,d⟩
    ·refine yg tb c AA (yg tb c AA (LC (v:=(LR h)) (Is AA AA c) rfl (Hl Ay AA f) ?_));iterate 4 refine yg tb c rfl ?_
     refine bs d λj q d=>LC (v:=(LR j)) (Is AA AA c) rfl (Hl Ay AA q) ?_;iterate 2 refine yg tb c rfl ?_
     exact LC (v:=(.bool (decide (h<=j)))) (Is AA AA b) rfl (E6 AA c AA) (yf b AA (Bl (g d Ag)))
    ·refine ys c AA ?_;iterate 9 refine ys c rfl ?_
     exact LC (v:=(.bool false)) (Is AA AA b) rfl (Eg AA c AA) (yf b AA (Bl (g d Ag)))
 ·exact Af (G e Ag)
theorem QL {N:Nat}{p0:AL}{r:Bool}(h0:G8 N p0=some r):BH 126 [Gz p0] [] (.bool r) []:=by
 unfold G8 at h0;refine Bb Tryz.func126 AA (Ab λS t=>CY 0 AA (AK AA (AR t (AB λT u=>AB λG x=>bs h0 λD a h0=>?_))));have E:∀{y},JJ D y ⟨35,AJ [(1,Ax),(13,.bool y)],[VQ p0.decls p0.AF]⟩ G:=by
  rintro _ ⟨⟩ s z;refine x _ (AH z ?_);refine An h0 ?_ ?_<;>intro U h0
  ·refine AS AA ?_;cases h0;exact rd [(2,.bool false)]
  ·refine AG (u _ (AB λI A=>AS AA ?_));obtain⟨d,a,h0⟩:=Sh.BG h0;have B:JJ d (.inr ()) ⟨35,AJ [],[]⟩ I:=by
    rintro⟨⟩ s z;refine A _ (AH z (AS AA ?_));cases h0;exact rt [(2,.bool true)]
   refine AI (LN (Dt N p0) (λe=>⟨35,AJ [(1,.ptr 0 0 0 0),(3,i64 e)],[VQ p0.decls p0.AF]⟩) N 0 a Ag ?_);intro n e a;rw[Dt]at a;refine AB λJ g=>Ab λK h=>AM 3 AA (Bd AA (AK AA (AR h ?_)));refine An a ?_ ?_<;>intro L a
   ·refine AG (g _ (AB λM i=>AI (AB λO j=>Cu (by kernel_rfl) (by kernel_rfl) (by rfl) ?_)));iterate 3 refine yq tb rfl ?_
    refine bs a λP c a=>Lw Hg c AA ?_;iterate 5 refine yq tb rfl ?_
    refine Lw Hg c AA ?_;iterate 2 refine yq tb rfl ?_
    refine bs a λf k a=>Og (Ut k) (yq tb AA (Bl (j _ ?_)));refine An a ?_ ?_<;>intro l a
    ·have Q:f=false:=by simpa using l
     refine AS AA ?_;cases a;cases h0;exact rd [(2,.bool false)]
    ·have R:f=true:=by simpa using l
     exact AG (i _ (AE AA (AM 3 AA (AD (xi (Sh.w (e+1)) a Ag)))))
   ·exact Af (B a (BT _ AA))
 refine AE AA (AM 2 AA (Bd AA (AM 2 AA ?_)));rcases Sh.Aa a with ⟨b,a⟩|⟨b,a⟩
 ·refine zs b AA ?_;iterate 3 refine zs b rfl ?_
  exact zt b AA (AD (E a Ag))
 ·exact Aj b AA (bs a λo p a=>zd (v':=(.agg [DH o.decls,ls Kn o.funcs])) b (hb 192) (YO p) rfl AA AA AA (bs a λC q a=>Iy b (VX q) rfl (Aj b AA (zf b AA (AD (E a Ag))))))
theorem TG {N:Nat}{AAA:Block->Int->Option (Int)}(hrec_spec_stepsLeft :∀{p0:Block} {p1:Int} {r:Int},AAA p0 p1=some r->BH 129 (Wn p0 p1) [] (i64 r) []){p0:Block}{p1 r:Int}(h0:JL N AAA p0 p1=some r):BH 129 (Wn p0 p1) [] (i64 r) []:=by
 unfold JL at h0;refine Bb Tryz.func129 AA (Ab λY B=>CY 0 AA (AK AA (AR B (AB λJ C=>AS AA ?_))));obtain⟨D,f,h0⟩:=Sh.BG h0;have K:∀{b},JJ D (.inr b) ⟨43,AJ [(1,i64 b)],[]⟩ J:=by
  rintro b ⟨⟩ s E;try dsimp only at h0
  refine C _ (AH E (AS AA ?_));obtain rfl:=Sh.Av h0;exact rt [(4,i64 b)]
 refine AI (Fh (EJ N p0 AAA) (λc j=>⟨43,AJ [(1,i64 c),(2,.ptr 0 0 0 0),(5,i64 j)],[ZJ p0.steps p0.result]⟩) N p1 0 f Ag ?_);intro n c j f;rw[EJ]at f;refine AB λZ F=>Ab λM l=>AM 3 AA (Bd AA (AK AA (AR l ?_)));refine An f ?_ ?_<;>intro O f
 ·refine AG (F _ (AB λG o=>AI (AB λP p=>AS AA ?_)));refine An f ?_ ?_<;>intro Q f
  ·refine AS AA ?_;cases f;cases h0;exact rd [(4,i64 (-1))]
  ·refine AG (p _ ?_);iterate 2 refine AS rfl ?_
   obtain⟨h,d,f⟩:=Sh.BG f;have H:∀{a},JJ h (.inr a) ⟨43,AJ [(1,i64 a),(2,Ax),(5,i64 j)],[ZJ p0.steps p0.result]⟩ G:=by
    rintro a ⟨⟩ s E;exact o _ (AH E (AE AA (AM 3 AA (AD (xi (a,Sh.w (j+1)) f Ag)))))
   refine AI (Fh (EI j p0 AAA) (λe i=>⟨43,AJ [(1,i64 e),(2,.ptr 0 0 0 0),(5,i64 j),(6,i64 i)],[ZJ p0.steps p0.result]⟩) N (Sh.w (c-1)) 0 d Ag ?_);intro n e i d;rw[EI]at d;refine AB λR q=>Ab λS t=>AM 4 AA (bs d λu g d=>zz (H4 u) (E1 Cb AA AA g (CE _) rfl) rfl (AM 2 AA (Bd AA (AK AA (AR t ?_)))));refine An d ?_ ?_<;>intro T d
   ·refine AG (q _ (AB λU x=>AI (Ab λV y=>AM 3 AA (zz (H4 u) (E1 Cb AA AA g (CE _) rfl) rfl (AM 3 AA (bs d λW z d=>DI Kq z AA (AM 2 AA (bs d λI A d=>CR (hb 129) (hrec_spec_stepsLeft A) rfl (AK AA (AR y (AS AA ?_)))))))))));refine An d ?_ ?_<;>intro X d
    ·refine AS AA ?_;cases d;cases f;cases h0;exact rd [(4,i64 (-1))]
    ·exact AG (x _ (AE AA (AM 3 AA (AD (xi (I,Sh.w (i+1)) d Ag)))))
   ·exact Af (H d Ag)
 ·exact Af (K f (BT _ AA))
theorem Tc {N:Nat}:∀(n:Nat),∀{p0:Block} {p1:Int} {r:Int},EF N n p0 p1=some r->BH 129 (Wn p0 p1) [] (i64 r) []:=by
 intro n
 induction n with
 | zero=>intro p0 p1 r a;cases a
 | succ n ih=>
  intro p0 p1 r a;rw[EF]at a;exact TG (λh=>ih h) a
theorem Uv {N:Nat}:∀{p0:Block} {p1:Int} {r:Int},MQ N p0 p1=some r->BH 129 (Wn p0 p1) [] (i64 r) []:=by
 intro p0 p1 r a;exact Tc N a
theorem Q6 {N:Nat}{p0:Block}{r:Int}(h0:IG N p0=some r):BH 70 [DN p0] [] (i64 r) []:=by
 unfold IG at h0;refine Bb Tryz.func70 AA (Ab λf a=>CY 0 AA (AK AA (AR a (Ab λg b=>AK AA (bs h0 λe c h0=>CR (hb 129) (Uv c) rfl (AK AA (AR b (AB λh d=>AS AA ?_))))))));refine An h0 ?_ ?_<;>intro i h0
 ·refine AS AA ?_;cases h0;exact rd [(2,i64 (-1))]
 ·refine AG (d _ (AS AA ?_));cases h0;exact rd [(2,i64 (Sh.w (600-e)))]
theorem EG {p0:(List Int)}{r:(List Int)}(h0:DB p0=some r):BH 113 [ls eI p0] [] (ow 0 0 r) [As r]:=by
 unfold DB at h0;refine Bb Tryz.func113 AA (AS AA (Ab λd a=>D9 0 ([]:List Int) eI Ay AA (AK AA (bs h0 λc b h0=>KA p0 Ay AA P1 b (AK AA (AR a ?_))))));obtain rfl:=Sh.Av h0;exact BP (xr (CH (L:=[(2,ow 0 0 c)]) (st':=[As c]) (.pure BB .nil) (.same AA)))
theorem X5 {p0:Int}{r:Bool}(h0:LW p0=some r):BH 242 [i64 p0] [] (.bool r) []:=by
 unfold LW at h0;refine Bb Tryz.func242 AA (AS AA (AB λj h=>bs h0 λi a h0=>?_));have f:∀{g},JJ i g ⟨21,AJ [(2,.bool g)],[]⟩ j:=by
  rintro _ ⟨⟩ s k;try dsimp only at h0
  refine h _ (AH k ?_);obtain rfl:=Sh.Av h0;exact rt [(2,.bool i)]
 refine AE AA (AM 3 AA ?_);rcases Sh.Aa a with ⟨b,a⟩|⟨b,a⟩
 ·exact zs b AA (zs b AA (zt b AA (AK AA (zs AA AA (zs AA AA (zt AA AA (AK AA (zs AA AA (zs AA AA (zt AA AA (AK AA (zs AA AA (zs AA AA (zt AA AA (AK AA (AD (f a Ag)))))))))))))))))
 ·refine Aj b AA (Aj b AA (zf b AA (AK AA ?_)));rcases Sh.Aa a with ⟨c,a⟩|⟨c,a⟩
  ·exact zs c AA (zs c AA (zt c AA (AK AA (zs AA AA (zs AA AA (zt AA AA (AK AA (zs AA AA (zs AA AA (zt AA AA (AK AA (AD (f a Ag)))))))))))))
  ·refine Aj c AA (Aj c AA (zf c AA (AK AA ?_)));rcases Sh.Aa a with ⟨d,a⟩|⟨d,a⟩
   ·exact zs d AA (zs d AA (zt d AA (AK AA (zs AA AA (zs AA AA (zt AA AA (AK AA (AD (f a Ag)))))))))
   ·refine Aj d AA (Aj d AA (zf d AA (AK AA ?_)));rcases Sh.Aa a with ⟨e,a⟩|⟨e,a⟩
    ·exact zs e AA (zs e AA (zt e AA (AK AA (AD (f a Ag)))))
    ·exact Aj e AA (Aj e AA (zf e AA (AK AA (AD (f a Ag)))))
theorem Ph {p0:(List Int)}{p1:Step}{r:Bool}(h0:Bp p0 p1=some r):BH 243 [ls eI p0,Hu p1] [] (.bool r) []:=by
 unfold Bp at h0;refine Bb Tryz.func243 AA (Ab λq h=>CY 0 AA (AK AA (AR h (AB λt i=>AS AA ?_))));refine An h0 ?_ ?_<;>intro u h0
 ·refine AS AA ?_;cases h0;exact rd [(4,.bool true)]
 ·refine AG (i _ (AB λn j=>bs h0 λl b h0=>?_));have k:∀{g},JJ l g ⟨27,AJ [(4,.bool g)],[]⟩ n:=by
   rintro _ ⟨⟩ s o;try dsimp only at h0
   refine j _ (AH o ?_);obtain rfl:=Sh.Av h0;exact rt [(4,.bool l)]
  refine AE AA (AM 4 AA ?_);rcases Sh.Aa b with ⟨c,b⟩|⟨c,b⟩
  ·refine Aj c AA (Aj c AA (Aj c AA (CP (Dc p0) c (Ch Hq AA) (bs b λp d b=>Iy c (CD d) rfl (zt c AA (AK AA ?_))))));rcases Sh.Aa b with ⟨a,b⟩|⟨a,b⟩
   ·refine Aj a AA ?_;iterate 3 refine Aj a rfl ?_
    exact bs b λe f b=>CP (LR e) a (Hl Ay AA f) (Aj a AA (Aj a AA (zt a AA (AK AA (AD (k b (BT _ AA)))))))
   ·refine zs a AA ?_;iterate 6 refine zs a rfl ?_
    exact zf a AA (AK AA (AD (k b (BT _ AA))))
  ·refine zs c AA ?_;iterate 4 refine zs c rfl ?_
   refine zf c AA (AK AA ?_);iterate 7 refine zs rfl rfl ?_
   exact zf AA AA (AK AA (AD (k b (BT _ AA))))
theorem HX {N:Nat}{p0:(List Int)}{p1:(List Int)}{p2:(List Int)}{r:Bool}(h0:CG N p0 p1 p2=some r):BH 244 [ls eI p0,ls eI p1,ls eI p2] [] (.bool r) []:=by
 unfold CG at h0;refine Bb Tryz.func244 AA (AS AA (AB λP x=>Ab λQ y=>AK AA (Bd AA (AK AA (Bd AA (AK AA (AR y ?_)))))));refine An h0 ?_ ?_<;>intro F h0
 ·have R:decide ((Sh.len p1)=(Sh.len p2))=false:=by simpa using F
  refine AS AA ?_;cases h0;exact rt [(6,.bool false)]
 ·have S:decide ((Sh.len p1)=(Sh.len p2))=true:=by simpa using F
  refine AG (x _ (AB λH z=>AS AA ?_));obtain⟨f,b,h0⟩:=Sh.BG h0;have A:JJ f (.inr ()) ⟨42,AJ [],[]⟩ H:=by
   rintro⟨⟩ s B;refine z _ (AH B (AS AA ?_));cases h0;exact rt [(6,.bool true)]
  refine AI (LN (Ih p0 p1 p2) (λd=>⟨42,AJ [(0,ls eI p0),(1,ls eI p1),(2,ls eI p2),(7,i64 d)],[]⟩) N 0 b Ag ?_);intro n d b;rw[Ih]at b;refine AB λJ h=>Ab λK i=>AM 2 AA (Bd AA (AK AA (AR i ?_)));refine An b ?_ ?_<;>intro L b
  ·refine AG (h _ (AB λM j=>AI (AB λC k=>bs b λl c b=>?_)));have m:∀{g},JJ l g ⟨42,AJ [(0,ls eI p0),(1,ls eI p1),(2,ls eI p2),(7,i64 d),(41,.bool g)],[]⟩ C:=by
    rintro _ ⟨⟩ s B;refine k _ (AH B ?_);refine An b ?_ ?_<;>intro O b
    ·refine AS AA ?_;cases b;cases h0;exact rt [(6,.bool false)]
    ·exact AG (j _ (AE AA (AM 3 AA (AD (xi (Sh.w (d+1)) b Ag)))))
   refine Cu (by kernel_rfl) (by kernel_rfl) (by rfl) ?_;iterate 2 refine yq tb rfl ?_
   refine bs c λD e c=>Lw Ay e AA ?_;iterate 2 refine yq tb rfl ?_
   refine yl tb AA AA (yq tb AA (bs c λE o c=>Og (CD o) ?_));iterate 2 refine yq tb rfl ?_
   rcases Sh.Aa c with ⟨a,c⟩|⟨a,c⟩
   ·refine ys a AA ?_;iterate 11 refine ys a rfl ?_
    exact yt a AA (Bl (m c Ag))
   ·refine yg tb a AA ?_;iterate 2 refine yg tb a rfl ?_
    refine LC (v:=(LR D)) (Is AA AA a) rfl (Hl Ay AA e) (yg tb a AA (bs c λp q c=>LC (v:=(LR p)) (Is AA AA a) rfl (Hl Ay AA q) ?_));iterate 3 refine yg tb a rfl ?_
    refine bs c λt u c=>LC (v:=(LR t)) (Is AA AA a) rfl (Hl Ay AA u) ?_;iterate 2 refine yg tb a rfl ?_
    exact yf a AA (Bl (m c Ag))
  ·exact Af (A b Ag)
theorem NM {N:Nat}{p0:(List AP)}{p1 r:Int}(h0:IW N p0 p1=some r):BH 233 (Xe p0 p1) [] (i64 r) []:=by
 unfold IW at h0;refine Bb Tryz.func233 AA ?_;iterate 2 refine AS rfl ?_
 refine AB λj e=>AS AA (bs h0 λf a h0=>?_);have k:∀{n7},JJ f n7 ⟨21,AJ [(5,i64 n7)],[]⟩ j:=by
  rintro _ ⟨⟩ s l;try dsimp only at h0
  refine e _ (AH l (AS AA ?_));obtain rfl:=Sh.Av h0;exact rt [(4,i64 f)]
 refine AI (Fh (Fl p0 p1) (λn5 g=>⟨21,AJ [(0,ls Ai p0),(1,i64 p1),(5,i64 n5),(6,i64 g)],[]⟩) N 0 0 a Ag ?_);intro n n5 g a;rw[Fl]at a;refine AB λm b=>AS AA ?_;refine An a ?_ ?_<;>intro o a
 ·exact AG (b _ (AB λp c=>AI (AE AA (AM 3 AA (bs a λh d a=>DI EZ d AA (AM 2 AA (Bd AA (AM 2 AA (AR c (AE AA (AM 3 AA (AD (xi (Sh.w (n5+(Sh.len h.cons)),Sh.w (g+1)) a Ag)))))))))))))
 ·exact Af (k a Ag)
theorem Nk {N:Nat}{p0:(List AP)}{p1 r:Int}(h0:Dp N p0 p1=some r):BH 178 (Xe p0 p1) [] (i64 r) []:=by
 unfold Dp at h0;refine Bb Tryz.func178 AA (AS AA (AB λo i=>AS AA ?_));obtain⟨j,a,h0⟩:=Sh.BG h0;have p:JJ j (.inr ()) ⟨30,AJ [],[]⟩ o:=by
  rintro⟨⟩ s q;refine i _ (AH q (AS AA ?_));cases h0;exact rt [(4,i64 (-1))]
 refine AI (LN (Ei N p0 p1) (λh=>⟨30,AJ [(0,ls Ai p0),(1,i64 p1),(5,i64 h)],[]⟩) N 0 a Ag ?_);intro n h a;rw[Ei]at a;refine AB λD k=>Ab λE l=>AM 2 AA (Bd AA (AK AA (AR l ?_)));refine An a ?_ ?_<;>intro F a
 ·refine AG (k _ (AB λt b=>AI (Ab λu c=>AM 2 AA (bs a λx d a=>CR (hb 233) (NM d) rfl (AK AA (AR c (Ab λy e=>AM 5 AA (bs a λz f a=>DI EZ f AA (AM 2 AA (Bd AA (AM 2 AA (bs a λA g a=>CR (hb 174) (CD g) rfl (AR e ?_)))))))))))));refine An a ?_ ?_<;>intro B a
  ·refine AS AA ?_;cases a;cases h0;exact rt [(4,NV h)]
  ·exact AG (b _ (AE AA (AM 3 AA (AD (xi (Sh.w (h+1)) a Ag)))))
 ·exact Af (p a Ag)
theorem Ma {N:Nat}{p0:(List AP)}{p1:Int}{r:(List Int)}(h0:CK N p0 p1=some r):BH 180 (Xe p0 p1) [] (ls eI r) []:=by
 unfold CK at h0;refine Bb Tryz.func180 AA (AS AA (Ab λk c=>AM 2 AA (bs h0 λn d h0=>CR (hb 178) (Nk d) rfl (AK AA (AR c (AB λo e=>AS AA ?_))))));refine An h0 ?_ ?_<;>intro p h0
 ·refine Ab λq f=>D9 0 ([]:List Int) eI Ay AA (AK AA (AR f ?_));cases h0;exact BP (Exists.intro ⟨27,AJ [(4,SY)],[]⟩ (And.intro (by refine Wk.trans (Wk.Db (L:=[(4,SY)]) (st':=iy) (id:=0) rfl yu BB ⟨.Db AA,uM⟩ AA) ?_;exact Bf [] .nil (.same AA)) (And.intro AA AA)))
 ·refine AG (e _ (AB λs g=>Cu (by kernel_rfl) (by kernel_rfl) (by rfl) ?_));iterate 3 refine yq tb rfl ?_
  refine bs h0 λt h h0=>Lw EZ h AA ?_;iterate 6 refine yq tb rfl ?_
  refine bs h0 λi a h0=>Og (NM a) (yq tb AA (bs h0 λj b h0=>Lw Jl b AA ?_));iterate 3 refine yq tb rfl ?_
  refine Bl (g _ ?_);cases h0;exact rt [(4,ls eI j.fields)]
theorem SE {N:Nat}{p0:(List AP)}{p1:Int}{r:(List Int)}(h0:LY N p0 p1=some r):BH 234 (Xe p0 p1) [] (ow 0 0 r) [As r]:=by
 unfold LY at h0;refine Bb Tryz.func234 AA (AS AA (Ab λK t=>D9 0 ([]:List Int) eI Ay AA (AK AA (AR t (AB λM u=>Ab λO x=>AM 2 AA (Bd AA (bs h0 λB y h0=>CR (hb 174) (CD y) rfl (AK AA (AR x ?_)))))))));refine An h0 ?_ ?_<;>intro C h0
 ·have P:B=false:=by simpa using C
  refine AS AA ?_;cases h0;exact rt [(4,fe)]
 ·have Q:B=true:=by simpa using C
  refine AG (u _ (AB λz h=>AS AA (bs h0 λe a h0=>?_)));have A:∀{c},JJ e c ⟨35,AJ [(5,ow 0 0 c)],[As c]⟩ z:=by
   rintro _ ⟨⟩ s E;try dsimp only at h0
   refine h _ (AH E (AS AA ?_));obtain rfl:=Sh.Av h0;exact rt [(4,ow 0 0 e)]
  refine AI (Fh (G1 N p0 p1) (λb d=>⟨35,AJ [(0,ls Ai p0),(1,i64 p1),(5,ow 0 0 d),(6,i64 b)],[ro 0 3 1 eI d]⟩) N 0 [] a Ag ?_);intro n b d a;rw[G1]at a;refine AB λF i=>Ab λG j=>AM 4 AA (bs a λH k a=>DI EZ k AA (AM 2 AA (Bd AA (AK AA (AR j ?_)))));refine An a ?_ ?_<;>intro I a
  ·refine AG (i _ (AB λJ o=>AI (AE AA (AM 4 AA (bs a λf p a=>CR (hb 233) (NM p) rfl (AM 2 AA (D9 1 [Sh.w (f+b)] eI Ay AA (bs a λg q a=>KA [Sh.w (f+b)] Ay AA (GY AA AA) q (AK AA (AR o (AE AA (AM 3 AA ?_))))))))))));exact AD (xi (Sh.w (b+1),g) a (by refine Wk.trans (CH (L:=[(0,DH p0),(1,i64 p1),(5,ow 0 0 g),(6,NV b)]) (st':=[As g,ro 0 3 1 eI [Sh.w (f+b)]]) (.pure BB (.pure BB .nil)) (.same AA)) ?_;exact Bf [0] (.p .nil) (.same AA)))
  ·exact Af (A a Ag)
theorem SB {p0:(List Int)}{p1:(List Int)}{r:(List Int)}(h0:IC p0 p1=some r):BH 162 [ls eI p0,ls eI p1] [] (ow 0 0 r) [As r]:=by
 unfold IC at h0;refine Bb Tryz.func162 AA (AS AA (Ab λf a=>AK AA (bs h0 λe b h0=>Dx (ow 0 0 e) (EG b) ⟨(Ar λ_=>AA),uM⟩ (AK AA (bs h0 λd c h0=>KA p1 Ay AA P1 c (AK AA (AR a ?_)))))));obtain rfl:=Sh.Av h0;exact BP (xr (CH (L:=[(4,ow 0 0 d)]) (st':=[As d]) (.pure BB .nil) (.same AA)))
theorem P0 {N:Nat}{zX:AL->(List Int)->Block->Option (Int)}(hrec_spec_blockType :∀{p0:AL} {p1:(List Int)} {p2:Block} {r:Int},zX p0 p1 p2=some r->BH 127 [Gz p0,ls eI p1,DN p2] [] (i64 r) []){p0:AL}{p1:(List Int)}{p2:Step}{r:Int}(h0:Ha N zX p0 p1 p2=some r):BH 245 [Gz p0,ls eI p1,Hu p2] [] (i64 r) []:=by
 unfold Ha at h0;refine Bb Tryz.func245 AA (Ab λK1 S=>CY 0 AA (CY 1 AA (AK AA (AR S (Ab λK2 T=>AM 4 AA (bs h0 λh U h0=>Dx (ow 2 0 h) (SE U) ⟨(Ar λ_=>AA),uM⟩ (AK AA (AR T (Ab λK4 V=>AK AA (zz (Dc h) (Ec Hq AA AA AA) rfl (AK AA (AR V (AB λK5 W=>bs h0 λo7 b h0=>?_)))))))))))));have M7:∀{a},JJ o7 a ⟨71,AJ (Od p1 [(7,ow 2 0 h),(8,i64 a)]),Uz p0 p2 [As h]⟩ K5:=by
  rintro _ ⟨⟩ s l;refine W _ (AH l (AB λK8 X=>AB λK9 Y=>bs h0 λz b h0=>?_));have A:∀{q},JJ z q ⟨71,AJ (Od p1 [(7,ow 2 0 h),(8,i64 o7),(31,.bool q)]),Uz p0 p2 [As h]⟩ K9:=by
   rintro _ ⟨⟩ s l;refine Y _ (AH l ?_);refine An h0 ?_ ?_<;>intro b5 h0
   ·refine AS AA ?_;cases h0;exact rd [(6,i64 (-1))]
   ·refine AG (X _ (AS AA (AB λZ B=>AS AA ?_)));obtain⟨t,b,h0⟩:=Sh.BG h0;have b0:∀{o},JJ t (.inr o) ⟨71,AJ [(9,i64 o)],[]⟩ Z:=by
     rintro o ⟨⟩ s l;try dsimp only at h0
     refine B _ (AH l (AS AA ?_));obtain rfl:=Sh.Av h0;exact rt [(6,i64 o)]
    refine AI (Fh (Gq N o7 p0 p1 p2 h zX) (λi j=>⟨71,AJ [(1,ls eI p1),(3,.ptr 0 0 0 0),(5,.ptr 1 0 0 0),(7,ow 2 0 h),(8,i64 o7),(9,i64 i),(10,i64 j)],[VQ p0.decls p0.AF,dT p2.op p2.num p2.BF p2.args p2.kids,ro 0 3 1 eI h]⟩) N 0 0 b Ag ?_);intro n i j b;rw[Gq]at b;refine AB λb6 C=>AS AA ?_;refine An b ?_ ?_<;>intro b7 b
    ·refine AG (C _ (AB λb8 D=>AI (AS AA (AB λb1 E=>bs b λF e b=>?_))));have G:∀{d},JJ F d ⟨71,AJ (Od p1 [(7,ow 2 0 h),(8,i64 o7),(9,i64 i),(10,i64 j),(11,HQ d)]),Uz p0 p2 [As h]⟩ b1:=by
      rintro _ ⟨⟩ s l;refine E _ (AH l (AB λb9 H=>Cu (by kernel_rfl) (by kernel_rfl) (by rfl) ?_));iterate 5 refine yq tb rfl ?_
      refine bs b λc0 I b=>Lw Kq I AA (yq tb AA (bs b λk J b=>Og (hrec_spec_blockType J) (yq tb AA (Bl (H _ (AB λc1 K=>AB λb2 M=>bs b λO e b=>?_))))));have u:∀{x},JJ O x ⟨71,AJ (Od p1 [(7,ow 2 0 h),(8,i64 o7),(10,i64 j),(12,i64 k),(68,.bool x)]),Uz p0 p2 [As h]⟩ b2:=by
       rintro _ ⟨⟩ s l;refine M _ (AH l ?_);refine An b ?_ ?_<;>intro c2 b
       ·refine AS AA ?_;cases b;cases h0;exact rd [(6,i64 (-1))]
       ·exact AG (K _ (AE AA (AM 2 AA (AR D (AE AA (AM 3 AA (AD (xi (k,Sh.w (j+1)) b Ag))))))))
      refine AE AA (AM 3 AA ?_);rcases Sh.Aa e with ⟨c,e⟩|⟨c,e⟩
      ·refine zs c AA (zs c AA (zs c AA ?_));iterate 3 refine zn rfl ?_
       exact zs c AA (zt c AA (AD (u e Ag)))
      ·refine Aj c AA (Aj c AA (Aj c AA ?_));rcases Sh.Aa e with ⟨g,e⟩|⟨g,e⟩
       ·exact Aj g AA (Aj g AA (Aj g AA (CP (.bool (!decide (k=i))) c (E6 AA g AA) (zf c AA (AD (u e Ag))))))
       ·exact zs g AA (zs g AA (zs g AA (CP (.bool false) c (Eg AA g AA) (zf c AA (AD (u e Ag))))))
     refine AS AA ?_;refine An e ?_ ?_<;>intro c3 e
     ·refine D5 9 (by kernel_rfl) (by kernel_rfl) (by rfl) ?_;iterate 5 refine yq tb rfl ?_
      refine bs e λb3 p e=>yz (.ptr 2 0 (Int.toNat j) 0) (Ls Ay AA p) rfl (yz (i64 b3) (De JR AA AA (Ef p) rfl) rfl (bs e λb4 P e=>Og (Ma P) (bs e λy Q e=>?_)));refine Og (BW.wk (SB Q) (by refine Wk.trans (Wk.Db (L:=[(0,ls eI y)]) (st':=iy) (id:=0) rfl yu BB ⟨.Db AA,uM⟩ AA) ?_;exact Bf [] .nil (.same AA))) ?_;exact Bl (AK AA (AD (G e Ag)))
     ·exact AG (G e Ag)
    ·exact Af (b0 b (BT _ AA))
  refine AE AA (AM 3 AA ?_);rcases Sh.Aa b with ⟨f,b⟩|⟨f,b⟩
  ·refine zs f AA ?_;iterate 4 refine zs f rfl ?_
   exact zt f AA (AD (A b Ag))
  ·exact Aj f AA (Aj f AA (CP (bu p2) f (Ch aQ AA) (Aj f AA (Aj f AA (zf f AA (AD (A b Ag)))))))
 refine AS AA ?_;refine An b ?_ ?_<;>intro c4 b
 ·exact AE AA (AK AA (AD (M7 b Ag)))
 ·exact AG (M7 b Ag)
theorem W9 {N:Nat}{p0:(List AP)}{p1 p2 r:Int}(h0:Kc N p0 p1 p2=some r):BH 235 [DH p0,i64 p1,i64 p2] [] (i64 r) []:=by
 unfold Kc at h0;refine Bb Tryz.func235 AA (AS AA (AB λy m=>AS AA ?_));obtain⟨o,c,h0⟩:=Sh.BG h0;have z:JJ o (.inr ()) ⟨41,AJ [],[]⟩ y:=by
  rintro⟨⟩ s p;refine m _ (AH p (AS AA ?_));cases h0;exact rt [(6,i64 (-1))]
 refine AI (LN (GV p0 p1 p2) (λi=>⟨41,AJ [(0,ls Ai p0),(1,i64 p1),(2,i64 p2),(7,i64 i)],[]⟩) N 0 c Ag ?_);intro n i c;rw[GV]at c;refine AB λD q=>Ab λE t=>AM 2 AA (Bd AA (AK AA (AR t ?_)));refine An c ?_ ?_<;>intro F c
 ·refine AG (q _ (AB λB j=>AI (AB λu k=>bs c λl d c=>?_)));have f:∀{g},JJ l g ⟨41,AJ [(0,DH p0),(1,i64 p1),(2,i64 p2),(7,i64 i),(38,.bool g)],[]⟩ u:=by
   rintro _ ⟨⟩ s p;refine k _ (AH p ?_);refine An c ?_ ?_<;>intro C c
   ·refine AS AA ?_;cases c;cases h0;exact rt [(6,NV i)]
   ·exact AG (j _ (AE AA (AM 3 AA (AD (xi (Sh.w (i+1)) c Ag)))))
  refine AE AA (AM 2 AA (bs d λh e d=>DI EZ e AA (AM 2 AA (Bd AA (AM 2 AA ?_)))));rcases Sh.Aa d with ⟨a,d⟩|⟨a,d⟩
  ·refine Aj a AA (Aj a AA (CP (ax h) a (Hl EZ AA e) ?_));iterate 4 refine Aj a rfl ?_
   refine zt a AA (AK AA ?_);rcases Sh.Aa d with ⟨b,d⟩|⟨b,d⟩
   ·refine Aj b AA (Aj b AA (CP (ax h) b (Hl EZ AA e) ?_));iterate 4 refine Aj b rfl ?_
    exact zt b AA (AD (f d Ag))
   ·refine zs b AA ?_;iterate 6 refine zs b rfl ?_
    exact zf b AA (AD (f d Ag))
  ·refine zs a AA ?_;iterate 6 refine zs a rfl ?_
   refine zf a AA (AK AA ?_);iterate 7 refine zs rfl rfl ?_
   exact zf AA AA (AD (f d Ag))
 ·exact Af (z c Ag)
theorem Sq {N:Nat}{p0:AL}{p1:(List Int)}{p2:Step}{r:Int}(h0:Fo N p0 p1 p2=some r):BH 246 [Gz p0,ls eI p1,Hu p2] [] (i64 r) []:=by
 unfold Fo at h0;refine Bb Tryz.func246 AA (Ab λK1 F=>CY 0 AA (CY 1 AA (AK AA (AR F (AB λK2 G=>Ab λK3 H=>AM 4 AA (Bd AA (AK AA (bs h0 λL I h0=>CR (hb 174) (CD I) rfl (AK AA (AR H ?_))))))))));refine An h0 ?_ ?_<;>intro M h0
 ·have b6:L=false:=by simpa using M
  refine AS AA ?_;cases h0;exact rd [(6,i64 (-1))]
 ·have b8:L=true:=by simpa using M
  refine AG (G _ (Ab λK9 J=>AM 4 AA (bs h0 λb g h0=>DI Hg g AA (AK AA (Cm 2 Q2 AA (CF Q9 AA (AR J (Ab λO h=>AM 2 AA (Bd AA (AK AA (AR h (AB λP k=>AS AA ?_))))))))))));refine An h0 ?_ ?_<;>intro Q h0
  ·refine AB λR l=>Ab λS n=>AM 5 AA (bs h0 λo p h0=>CR (hb 244) (HX p) rfl (AK AA (AR n ?_)));refine An h0 ?_ ?_<;>intro q h0
   ·have T:o=false:=by simpa using q
    refine AS AA ?_;cases h0;exact rd [(6,i64 (-1))]
   ·have U:o=true:=by simpa using q
    refine AG (l _ (AS AA ?_));cases h0;exact rd [(6,i64 b.result)]
  ·refine AG (k _ (AB λV t=>AB λK u=>bs h0 λx d h0=>?_));have e:∀{f},JJ x f ⟨69,AJ [(3,Ax),(7,HI),(8,Dc b.params),(57,.bool f)],[VQ p0.decls p0.AF,tw b.params b.Aq b.result b.body.steps b.body.result]⟩ K:=by
    rintro _ ⟨⟩ s W;refine u _ (AH W ?_);refine An h0 ?_ ?_<;>intro X h0
    ·refine AS AA ?_;obtain rfl:=Sh.Av h0;exact rd [(6,i64 (-1))]
    ·refine AG (t _ (AB λY y=>Cu (by kernel_rfl) (by kernel_rfl) (by rfl) ?_));iterate 6 refine yq tb rfl ?_
     refine bs h0 λZ z h0=>Lw Ay z AA ?_;iterate 3 refine yq tb rfl ?_
     refine bs h0 λA B h0=>Og (W9 B) (yq tb AA (Bl (y _ ?_)));obtain rfl:=Sh.Av h0;exact rd [(6,i64 A)]
   refine D5 19 (by kernel_rfl) (by kernel_rfl) (by rfl) ?_;iterate 3 refine yq tb rfl ?_
   rcases Sh.Aa d with ⟨c,d⟩|⟨c,d⟩
   ·refine ys c AA ?_;iterate 3 refine ys c rfl ?_
    refine yt c AA (yq tb AA ?_);iterate 10 refine ys rfl rfl ?_
    exact Bl (zt AA AA (AD (e d (Bf [0,2] (.w (.w .nil)) (.same AA)))))
   ·refine yg tb c AA (yg tb c AA (LC (v:=(Dc b.Aq)) (Is AA AA c) rfl (Ch Hq AA) (yg tb c AA (yf c AA (yq tb AA ?_)))));rcases Sh.Aa d with ⟨a,d⟩|⟨a,d⟩
    ·refine ys a AA ?_;iterate 9 refine ys a rfl ?_
     exact Bl (zt a AA (AD (e d (Bf [0,2] (.w (.w .nil)) (.same AA)))))
    ·refine yg tb a AA ?_;iterate 6 refine yg tb a rfl ?_
     exact bs d λb0 C d=>oU (i:=0) (j:=Sh.w ((Sh.len b.params)-1)) (Is AA AA a) Ay AA AA AA DA C (bs d λD E d=>N7 (v:=(.bool D)) (Is AA AA a) (hb 244) (HX E) rfl AA AA (yg tb a AA (Bl (zf a AA (AD (e d (Bf [0,2] (.w (.w .nil)) (.same AA))))))))
theorem RP {p0:(List AP)}{p1:Int}{r:Bool}(h0:JW p0 p1=some r):BH 183 (Xe p0 p1) [] (.bool r) []:=by
 unfold JW at h0;refine Bb Tryz.func183 AA (AS AA (AB λj d=>bs h0 λh b h0=>?_));have i:∀{c},JJ h c ⟨19,AJ [(4,.bool c)],[]⟩ j:=by
  rintro _ ⟨⟩ s k;try dsimp only at h0
  refine d _ (AH k ?_);obtain rfl:=Sh.Av h0;exact rt [(4,.bool h)]
 refine AE AA (AM 2 AA (Bd AA (bs b λm e b=>CR (hb 174) (CD e) rfl (AK AA ?_))));rcases Sh.Aa b with ⟨a,b⟩|⟨a,b⟩
 ·exact Aj a AA (Aj a AA (Aj a AA (bs b λf g b=>CP (ax f) a (Hl EZ AA g) (Aj a AA (Aj a AA (CP (fT f) a (Ch Qa AA) (Aj a AA (zt a AA (AK AA (AD (i b Ag)))))))))))
 ·refine zs a AA ?_;iterate 7 refine zs a rfl ?_
  exact zf a AA (AK AA (AD (i b Ag)))
theorem Sf {p0:AL}{p1:(List Int)}{p2:Step}{r:Int}(h0:HF p0 p1 p2=some r):BH 247 [Gz p0,ls eI p1,Hu p2] [] (i64 r) []:=by
 unfold HF at h0;refine Bb Tryz.func247 AA (Ab λL u=>CY 0 AA (CY 1 AA (AK AA (AR u (AB λM w=>AB λG x=>bs h0 λF a h0=>?_)))));have y:∀{z},JJ F z ⟨52,AJ (Od p1 [(31,.bool z)]),Uz p0 p2 []⟩ G:=by
  rintro _ ⟨⟩ s A;refine x _ (AH A ?_);refine An h0 ?_ ?_<;>intro N h0
  ·refine AS AA ?_;cases h0;exact rd [(6,i64 (-1))]
  ·refine AG (w _ (AB λO B=>AB λI C=>bs h0 λi a h0=>?_));have g:∀{h},JJ i h ⟨52,AJ [(51,.bool h)],[]⟩ I:=by
    rintro _ ⟨⟩ s A;refine C _ (AH A ?_);refine An h0 ?_ ?_<;>intro J h0
    ·refine AS AA ?_;cases h0;exact rt [(6,i64 (-1))]
    ·refine AG (B _ (AS AA ?_));cases h0;exact rt [(6,i64 0)]
   refine Cu (by kernel_rfl) (by kernel_rfl) (by rfl) ?_;iterate 4 refine yq tb rfl ?_
   rcases Sh.Aa a with ⟨e,a⟩|⟨e,a⟩
   ·refine yg tb e AA ?_;iterate 2 refine yg tb e rfl ?_
    refine yt e AA (yq tb AA ?_);rcases Sh.Aa a with ⟨d,a⟩|⟨d,a⟩
    ·refine yg tb d AA ?_;iterate 4 refine yg tb d rfl ?_
     exact bs a λD j a=>LC (v:=(LR D)) (Is AA AA d) rfl (Hl Ay AA j) (yg tb d AA (bs a λE k a=>LC (v:=(LR E)) (Is AA AA d) rfl (Hl Ay AA k) (yg tb d AA (bs a λl n a=>N7 (v:=(.bool l)) (Is AA AA d) (hb 183) (RP n) rfl AA AA (yt d AA (Bl (g a (BT _ AA))))))))
    ·refine ys d AA ?_;iterate 9 refine ys d rfl ?_
     exact yf d AA (Bl (g a (BT _ AA)))
   ·refine ys e AA ?_;iterate 2 refine ys e rfl ?_
    refine yf e AA (yq tb AA ?_);iterate 10 refine ys rfl rfl ?_
    exact yf AA AA (Bl (g a (BT _ AA)))
 refine AE AA (AM 2 AA (Bd AA (AM 2 AA ?_)));rcases Sh.Aa a with ⟨b,a⟩|⟨b,a⟩
 ·refine zs b AA ?_;iterate 8 refine zs b rfl ?_
  refine zt b AA (AK AA ?_);iterate 8 refine zs rfl rfl ?_
  exact zt AA AA (AD (y a Ag))
 ·refine Aj b AA (Aj b AA (bs a λo f a=>CP (LR o) b (Hl Ay AA f) (Aj b AA (Aj b AA (CP (Dc p1) b (Ch Hq AA) (Aj b AA (bs a λK p a=>Iy b (CD p) rfl (Aj b AA (zf b AA (AK AA ?_))))))))));rcases Sh.Aa a with ⟨c,a⟩|⟨c,a⟩
  ·refine zs c AA ?_;iterate 7 refine zs c rfl ?_
   exact zt c AA (AD (y a Ag))
  ·exact Aj c AA (Aj c AA (Aj c AA (CP (LR o) c (Hl Ay AA f) (Aj c AA (bs a λq t a=>CP (LR q) c (Hl Ay AA t) (Aj c AA (Aj c AA (zf c AA (AD (y a Ag))))))))))
theorem P8 {N:Nat}{zX:AL->(List Int)->Block->Option (Int)}(hrec_spec_blockType :∀{p0:AL} {p1:(List Int)} {p2:Block} {r:Int},zX p0 p1 p2=some r->BH 127 [Gz p0,ls eI p1,DN p2] [] (i64 r) []){p0:AL}{p1:(List Int)}{p2:Step}{r:Int}(h0:FP N zX p0 p1 p2=some r):BH 194 [Gz p0,ls eI p1,Hu p2] [] (i64 r) []:=by
 unfold FP at h0;refine Bb Tryz.func194 AA (Ab λK1 k4=>CY 0 AA (CY 1 AA (AK AA (AR k4 (AB λK2 k5=>AB λK3 k6=>bs h0 λo5 a h0=>?_)))));have I:∀{t4},JJ o5 t4 ⟨183,AJ (Od p1 [(38,.bool t4)]),Uz p0 p2 []⟩ K3:=by
  rintro _ ⟨⟩ s E;refine k6 _ (AH E ?_);refine An h0 ?_ ?_<;>intro b6 h0
  ·refine AS AA ?_;cases h0;exact rd [(6,i64 (-1))]
  ·refine AG (k5 _ (AB λK8 k7=>?_));obtain⟨o9,a,h0⟩:=Sh.BG h0;have J:JJ o9 (.inr ()) ⟨183,AJ [],[]⟩ K8:=by
    rintro⟨⟩ s E;refine k7 _ (AH E (AS AA ?_));cases h0;exact rt [(6,i64 (-1))]
   refine AS AA (AI (AS AA ?_));refine An a ?_ ?_<;>intro q2 a
   ·refine AB λk8 Z=>bs a λb0 b a=>?_;have b1:∀{P},JJ b0 P ⟨183,AJ [(51,.bool P)],[]⟩ k8:=by
     rintro _ ⟨⟩ s E;refine Z _ (AH E ?_);refine An a ?_ ?_<;>intro q3 a
     ·refine AS AA ?_;cases a;cases h0;exact rt [(6,i64 0)]
     ·exact AG (J a Ag)
    refine AE AA (AM 2 AA (Bd AA (AM 2 AA ?_)));rcases Sh.Aa b with ⟨B,b⟩|⟨B,b⟩
    ·exact Aj B AA (Aj B AA (bs b λk9 b2 b=>Iy B (CD b2) rfl (zt B AA (AD (b1 b (BT _ AA))))))
    ·exact zs B AA (zs B AA (zs B AA (zf B AA (AD (b1 b (BT _ AA))))))
   ·refine AB λl0 b3=>bs a λb4 b a=>?_;have K:∀{Q},JJ b4 Q ⟨183,AJ (Od p1 [(40,i64 p2.op),(52,.bool Q)]),Uz p0 p2 []⟩ l0:=by
     rintro _ ⟨⟩ s E;refine b3 _ (AH E ?_);refine An a ?_ ?_<;>intro q4 a
     ·refine Ab λq5 b5=>AM 3 AA (D9 2 [(0:Int),0] eI Ay AA (JT [(57,ls eI p1),(59,ls eI p2.args),(60,ls eI [(0:Int),0])] (Uz p0 p2 [⟨1,3,1,[]⟩]) 2 AA ⟨.rfl,.rfl,.Db AA,uM⟩ DA AA (bs a λq6 b7 a=>CR (hb 244) (HX b7) rfl (AR b5 ?_))));refine An a ?_ ?_<;>intro q7 a
      ·refine AS AA ?_;cases a;cases h0;exact rd [(6,i64 0)]
      ·exact AG (J a (BT _ AA))
     ·refine AS AA ?_;refine An a ?_ ?_<;>intro q8 a
      ·refine Ab λq9 b8=>AM 3 AA (D9 2 [(0:Int)] eI Ay AA (JT [(64,ls eI p1),(66,ls eI p2.args),(67,ls eI [(0:Int)])] (Uz p0 p2 [⟨1,3,1,[]⟩]) 2 AA ⟨.rfl,.rfl,.Db AA,uM⟩ DA AA (bs a λt0 b9 a=>CR (hb 244) (HX b9) rfl (AR b8 ?_))));refine An a ?_ ?_<;>intro t1 a
       ·refine AS AA ?_;cases a;cases h0;exact rd [(6,i64 0)]
       ·exact AG (J a (BT _ AA))
      ·refine AS AA ?_;refine An a ?_ ?_<;>intro t2 a
       ·refine AB λl1 c0=>bs a λc1 b a=>?_;have c2:∀{R},JJ c1 R ⟨183,AJ [(3,Ax),(5,HI),(87,.bool R)],Uz p0 p2 []⟩ l1:=by
         rintro _ ⟨⟩ s E;refine c0 _ (AH E ?_);refine An a ?_ ?_<;>intro t3 a
         ·refine Ab λt5 c3=>AM 4 AA (bs a λl2 c4 a=>CR (hb 178) (Nk c4) rfl (AK AA (AR c3 ?_)));cases a;cases h0;exact rd [(6,i64 l2)]
         ·exact AG (J a (BT _ AA))
        refine D5 16 (by kernel_rfl) (by kernel_rfl) (by rfl) ?_;iterate 4 refine yq tb rfl ?_
        refine bs b λl3 c5 b=>Og (Nk c5) ?_;iterate 2 refine yq tb rfl ?_
        rcases Sh.Aa b with ⟨C,b⟩|⟨C,b⟩
        ·refine yg tb C AA ?_;iterate 6 refine yg tb C rfl ?_
         exact bs b λl4 c6 b=>N7 (v:=(ls eI l4)) (Is AA AA C) (hb 180) (Ma c6) rfl AA AA (bs b λc7 c8 b=>N7 (v:=(.bool c7)) (Is AA AA C) (hb 244) (HX c8) rfl AA AA (Bl (zt C AA (AD (c2 b Ag)))))
        ·refine ys C AA ?_;iterate 8 refine ys C rfl ?_
         exact Bl (zf C AA (AD (c2 b Ag)))
       ·refine AS AA ?_;refine An a ?_ ?_<;>intro t6 a
        ·refine Ab λt7 c9=>AM 3 AA (D9 2 [(0:Int)] eI Ay AA (JT (Od p1 [(95,ls eI p1),(97,ls eI p2.args),(98,ls eI [(0:Int)])]) (Uz p0 p2 [⟨1,3,1,[]⟩]) 2 AA ⟨.rfl,.rfl,.rfl,.rfl,.rfl,.Db AA,uM⟩ DA AA (bs a λt8 d1 a=>CR (hb 244) (HX d1) rfl (AR c9 ?_))));refine An a ?_ ?_<;>intro t9 a
         ·refine Ab λv0 d2=>AM 3 AA (bs a λl5 d3 a=>CR (hb 245) (P0 hrec_spec_blockType d3) rfl (AK AA (AR d2 ?_)));cases a;cases h0;exact rd [(6,i64 l5)]
         ·exact AG (J a (BT _ AA))
        ·refine AS AA ?_;refine An a ?_ ?_<;>intro v1 a
         ·refine Ab λv2 d4=>AM 5 AA (D9 2 [p2.num] eI Ay AA (JT (Od p1 [(106,ls eI p1),(108,ls eI p2.args),(111,ls eI [p2.num])]) (Uz p0 p2 [⟨1,3,1,[]⟩]) 2 AA ⟨.rfl,.rfl,.rfl,.rfl,.rfl,.Db AA,uM⟩ DA AA (bs a λv3 d5 a=>CR (hb 244) (HX d5) rfl (AR d4 ?_))));refine An a ?_ ?_<;>intro v4 a
          ·refine Ab λv5 d6=>AM 3 AA (bs a λl6 d7 a=>CR (hb 245) (P0 hrec_spec_blockType d7) rfl (AK AA (AR d6 ?_)));cases a;cases h0;exact rd [(6,i64 l6)]
          ·exact AG (J a (BT _ AA))
         ·refine AB λl7 d8=>bs a λd9 b a=>?_;have g0:∀{S},JJ d9 S ⟨183,AJ (Od p1 [(40,i64 p2.op),(117,.bool S)]),Uz p0 p2 []⟩ l7:=by
           rintro _ ⟨⟩ s E;refine d8 _ (AH E ?_);refine An a ?_ ?_<;>intro v6 a
           ·refine Ab λv7 g1=>AM 3 AA (bs a λl8 g2 a=>CR (hb 246) (Sq g2) rfl (AK AA (AR g1 ?_)));cases a;cases h0;exact rd [(6,i64 l8)]
           ·refine AS AA ?_;refine An a ?_ ?_<;>intro v8 a
            ·refine AB λl9 g3=>bs a λg4 b a=>?_;have T:∀{U},JJ g4 U ⟨183,AJ (Od p1 [(151,.bool U)]),Uz p0 p2 []⟩ l9:=by
              rintro _ ⟨⟩ s E;refine g3 _ (AH E ?_);refine An a ?_ ?_<;>intro v9 a
              ·refine AB λw0 g5=>?_;refine OW (by kernel_rfl) ?_;refine bs a λm0 g6 a=>bs a λG g7 a=>bs a λD F a=>Qn λA77 f=>?_;have k:A77 0 (bm 14 16383) ⟨183,AJ [(1,ls eI p1),(5,Ax),(7,HI)],[dT p2.op p2.num p2.BF p2.args p2.kids,YU D]⟩:=(f _ _ _).2 (by
                refine PS AA (by kernel_rfl) (g5 _ (AB λw1 g8=>D5 7 (by kernel_rfl) (by kernel_rfl) (by rfl) ?_));iterate 3 refine yq tb rfl ?_
                refine bs a λw2 g9 a=>oU (i:=1) (j:=Sh.len p2.args) BJ Ay AA AA AA DA g9 ?_;iterate 2 refine yq tb rfl ?_
                refine kK (l:=[D.from_]) (enc:=eI) BJ Ay (by decide) rfl AA AA AA AA BB (Bl (bs a λh3 H a=>CR (hb 244) (HX H) rfl (AR g8 ?_)));refine An a ?_ ?_<;>intro w a
                ·refine AS AA ?_;cases a;cases h0;exact rd [(6,i64 D.to)]
                ·exact AG (J a (by refine Wk.trans (Bf (L:=[]) (st':=[]) [] .nil uM) ?_;exact DY [] uM)))
               have e:A77 1 (bm 14 8191) ⟨183,AJ [(1,ls eI p1),(5,Ax),(7,HI),(163,WX D)],[dT p2.op p2.num p2.BF p2.args p2.kids,ru]⟩:=(f _ _ _).2 (by
                refine xa [13] ⟨?_,uM⟩
                ·refine xo 13 ?_;exact CF JU AA (xd f k))
               have g:A77 2 (bm 14 4095) ⟨183,AJ [(1,ls eI p1),(5,Ax),(163,WX D)],[dT p2.op p2.num p2.BF p2.args p2.kids]⟩:=(f _ _ _).2 (by
                refine xa [12] ⟨?_,uM⟩
                ·refine xo 12 ?_;exact Cm 1 Hb AA (xd f e))
               have h:A77 4 (bm 14 4607) ⟨183,AJ [(1,ls eI p1),(5,Ax),(7,HI),(153,DH p0.decls),(160,i64 G)],[dT p2.op p2.num p2.BF p2.args p2.kids,ru]⟩:=(f _ _ _).2 (by
                refine xa [9] ⟨?_,uM⟩
                ·refine xo 9 ?_;refine AK AA (AD ⟨AA,?_⟩);refine aX 10 (ax D) rfl (Hl EZ AA F) ?_;refine S9 tb 11 AA AA ?_;exact xt f e)
               have y:A77 5 (bm 14 511) ⟨183,AJ [(1,ls eI p1),(5,Ax),(153,DH p0.decls),(160,i64 G)],[dT p2.op p2.num p2.BF p2.args p2.kids]⟩:=(f _ _ _).2 (by
                refine xa [9,12] ⟨?_,?_,uM⟩
                ·refine xo 9 ?_;refine AK AA (AD ⟨AA,?_⟩);refine aX 10 (ax D) rfl (Hl EZ AA F) ?_;refine S9 tb 11 AA AA ?_;exact xt f g
                ·refine xo 12 ?_;exact Cm 1 Hb AA (xd f h))
               have z:A77 5 (bm 14 4605) ⟨183,AJ [(1,ls eI p1),(5,Ax),(7,HI),(152,E4),(160,i64 G)],[dT p2.op p2.num p2.BF p2.args p2.kids,ru,VQ p0.decls p0.AF]⟩:=(f _ _ _).2 (by
                refine xa [1,9] ⟨?_,?_,uM⟩
                ·refine xo 1 ?_;exact AK AA (aJ f h (by exact Bf [0,1] (.w (.w .nil)) (.same AA)))
                ·refine xo 9 (AK AA (AD ⟨AA,qX tb 1 AA AA (aX 10 (ax D) rfl (Hl EZ AA F) (S9 tb 11 AA AA ?_))⟩));exact xw f e (by exact Bf [0,1] (.w (.w .nil)) (.same AA)))
               have A:A77 6 (bm 14 509) ⟨183,AJ [(1,ls eI p1),(5,Ax),(152,HI),(160,i64 G)],[dT p2.op p2.num p2.BF p2.args p2.kids,VQ p0.decls p0.AF]⟩:=(f _ _ _).2 (by
                refine xa [1,9,12] ⟨?_,?_,?_,uM⟩
                ·refine xo 1 ?_;exact AK AA (aJ f y (by exact Bf [0] (.w .nil) (.same AA)))
                ·refine xo 9 (AK AA (AD ⟨AA,qX tb 1 AA AA (aX 10 (ax D) rfl (Hl EZ AA F) (S9 tb 11 AA AA ?_))⟩));exact xw f g (by exact Bf [0] (.w .nil) (.same AA))
                ·refine xo 12 ?_;exact Cm 2 Hb AA (aJ f z (by exact Bf [0,2,1] (.w (.w (.w .nil))) (.same AA))))
               refine (f _ _ _).2 (qX tb 0 AA AA (qX tb 2 AA AA (qX tb 3 AA AA (qX tb 4 AA AA (aX 5 (LR m0) rfl (Hl Ay AA g6) (qX tb 6 AA AA (aX 7 (LR G) rfl (Hl Ay AA g7) (S9 tb 8 AA AA ?_))))))));exact xw f A (by exact Bf [1,0] (.w (.w .nil)) (.same AA))
              ·exact AG (J a (BT _ AA))
             refine Cu (by kernel_rfl) (by kernel_rfl) (by rfl) ?_;iterate 2 refine yq tb rfl ?_
             refine yl tb AA AA ?_;iterate 2 refine yq tb rfl ?_
             rcases Sh.Aa b with ⟨x,b⟩|⟨x,b⟩
             ·refine yg tb x AA (yg tb x AA (bs b λh4 O b=>LC (v:=(LR h4)) (Is AA AA x) rfl (Hl Ay AA O) ?_));iterate 2 refine yg tb x rfl ?_
              refine LC (v:=(Dc p1)) (Is AA AA x) rfl (Ch Hq AA) (yg tb x AA (bs b λh3 H b=>N7 (v:=(.bool h3)) (Is AA AA x) (hb 174) (CD H) rfl AA AA (yt x AA (yq tb AA ?_))));rcases Sh.Aa b with ⟨w,b⟩|⟨w,b⟩
              ·refine yg tb w AA ?_;iterate 4 refine yg tb w rfl ?_
               exact LC (v:=(LR h4)) (Is AA AA w) rfl (Hl Ay AA O) (yg tb w AA (bs b λm1 h5 b=>LC (v:=(LR m1)) (Is AA AA w) rfl (Hl Ay AA h5) (yg tb w AA (bs b λh6 h7 b=>N7 (v:=(.bool h6)) (Is AA AA w) (hb 183) (RP h7) rfl AA AA (yt w AA (Bl (T b Ag)))))))
              ·refine ys w AA ?_;iterate 9 refine ys w rfl ?_
               exact yf w AA (Bl (T b Ag))
             ·refine ys x AA ?_;iterate 7 refine ys x rfl ?_
              refine yf x AA (yq tb AA ?_);iterate 10 refine ys rfl rfl ?_
              exact yf AA AA (Bl (T b Ag))
            ·refine AB λm2 h8=>bs a λh9 b a=>?_;have M:∀{V},JJ h9 V ⟨183,AJ (Od p1 [(174,.bool V)]),Uz p0 p2 []⟩ m2:=by
              rintro _ ⟨⟩ s E;refine h8 _ (AH E ?_);refine An a ?_ ?_<;>intro w3 a
              ·refine Ab λw4 k0=>AM 3 AA (bs a λm3 k1 a=>CR (hb 247) (Sf k1) rfl (AK AA (AR k0 ?_)));cases a;cases h0;exact rd [(6,i64 m3)]
              ·exact AG (J a (BT _ AA))
             refine AS AA ?_;refine An b ?_ ?_<;>intro m4 b
             ·exact AG (M b (DY (Od p1 [(174,.bool true)]) ⟨.rfl,.rfl,.rfl,.of (vI AV.bool m4),uM⟩))
             ·refine AS AA ?_;refine An b ?_ ?_<;>intro m5 b
              ·exact AG (M b (DY (Od p1 [(174,.bool true)]) ⟨.rfl,.rfl,.rfl,.of (vI AV.bool m5),uM⟩))
              ·refine AS AA ?_;refine An b ?_ ?_<;>intro m6 b
               ·exact AG (M b (DY (Od p1 [(174,.bool true)]) ⟨.rfl,.rfl,.rfl,.of (vI AV.bool m6),uM⟩))
               ·exact AE AA (AM 2 AA (AD (M b Ag)))
          refine AS AA ?_;refine An b ?_ ?_<;>intro m7 b
          ·exact AG (g0 b (DY (Od p1 [(40,i64 p2.op),(117,.bool true)]) ⟨.rfl,.rfl,.rfl,.rfl,.of (vI AV.bool m7),uM⟩))
          ·exact AE AA (AM 2 AA (AD (g0 b Ag)))
    refine AS AA ?_;refine An b ?_ ?_<;>intro m8 b
    ·exact AG (K b (DY (Od p1 [(40,i64 p2.op),(52,.bool true)]) ⟨.rfl,.rfl,.rfl,.rfl,.of (vI AV.bool m8),uM⟩))
    ·refine AS AA ?_;refine An b ?_ ?_<;>intro k2 b
     ·exact AG (K b (DY (Od p1 [(40,i64 p2.op),(52,.bool true)]) ⟨.rfl,.rfl,.rfl,.rfl,.of (vI AV.bool k2),uM⟩))
     ·refine AS AA ?_;refine An b ?_ ?_<;>intro k3 b
      ·exact AG (K b (DY (Od p1 [(40,i64 p2.op),(52,.bool true)]) ⟨.rfl,.rfl,.rfl,.rfl,.of (vI AV.bool k3),uM⟩))
      ·exact AE AA (AM 2 AA (AD (K b Ag)))
 refine AE AA (AM 4 AA ?_);rcases Sh.Aa a with ⟨n,a⟩|⟨n,a⟩
 ·refine Aj n AA (Aj n AA (bs a λm9 W a=>Iy n (X5 W) rfl (Aj n AA (zt n AA (AK AA ?_)))));rcases Sh.Aa a with ⟨o,a⟩|⟨o,a⟩
  ·refine zs o AA ?_;iterate 3 refine zs o rfl ?_
   refine zt o AA (AK AA ?_);iterate 5 refine zs rfl rfl ?_
   iterate 3 refine zn rfl ?_
   refine zs AA AA (zs AA AA ?_);iterate 3 refine zn rfl ?_
   exact zs AA AA (zt AA AA (AD (I a Ag)))
  ·refine Aj o AA (Aj o AA (bs a λq0 X a=>Iy o (Ph X) rfl (Aj o AA (zf o AA (AK AA ?_)))));rcases Sh.Aa a with ⟨c,a⟩|⟨c,a⟩
   ·refine zs c AA ?_;iterate 4 refine zs c rfl ?_
    iterate 3 refine zn rfl ?_
    refine zs c AA (zs c AA ?_);iterate 3 refine zn rfl ?_
    exact zs c AA (zt c AA (AD (I a Ag)))
   ·refine Aj c AA (Aj c AA (CP (bu p2) c (Ch aQ AA) (Aj c AA (Aj c AA ?_))));rcases Sh.Aa a with ⟨p,a⟩|⟨p,a⟩
    ·refine Aj p AA (Aj p AA (Aj p AA (CP (.bool (!decide (p2.op=7))) c (E6 AA p AA) (Aj c AA ?_))));rcases Sh.Aa a with ⟨q,a⟩|⟨q,a⟩
     ·exact Aj q AA (Aj q AA (Aj q AA (CP (.bool (!decide (p2.op=8))) c (E6 AA q AA) (zf c AA (AD (I a Ag))))))
     ·exact zs q AA (zs q AA (zs q AA (CP (.bool false) c (Eg AA q AA) (zf c AA (AD (I a Ag))))))
    ·refine zs p AA (zs p AA (zs p AA (CP (.bool false) c (Eg AA p AA) (Aj c AA ?_))));iterate 3 refine zs rfl rfl ?_
     exact CP (.bool false) c (Eg AA AA AA) (zf c AA (AD (I a Ag)))
 ·refine zs n AA ?_;iterate 3 refine zs n rfl ?_
  refine zf n AA (AK AA (Aj AA AA (Aj AA AA (bs a λq1 Y a=>Iy AA (Ph Y) rfl (Aj AA AA (zf AA AA (AK AA ?_)))))));rcases Sh.Aa a with ⟨d,a⟩|⟨d,a⟩
  ·refine zs d AA ?_;iterate 4 refine zs d rfl ?_
   iterate 3 refine zn rfl ?_
   refine zs d AA (zs d AA ?_);iterate 3 refine zn rfl ?_
   exact zs d AA (zt d AA (AD (I a Ag)))
  ·refine Aj d AA (Aj d AA (CP (bu p2) d (Ch aQ AA) (Aj d AA (Aj d AA ?_))));rcases Sh.Aa a with ⟨t,a⟩|⟨t,a⟩
   ·refine Aj t AA (Aj t AA (Aj t AA (CP (.bool (!decide (p2.op=7))) d (E6 AA t AA) (Aj d AA ?_))));rcases Sh.Aa a with ⟨u,a⟩|⟨u,a⟩
    ·exact Aj u AA (Aj u AA (Aj u AA (CP (.bool (!decide (p2.op=8))) d (E6 AA u AA) (zf d AA (AD (I a Ag))))))
    ·exact zs u AA (zs u AA (zs u AA (CP (.bool false) d (Eg AA u AA) (zf d AA (AD (I a Ag))))))
   ·refine zs t AA (zs t AA (zs t AA (CP (.bool false) d (Eg AA t AA) (Aj d AA ?_))));iterate 3 refine zs rfl rfl ?_
    exact CP (.bool false) d (Eg AA AA AA) (zf d AA (AD (I a Ag)))
theorem XS {p0:Int}{r:Bool}(h0:JP p0=some r):BH 195 [i64 p0] [] (.bool r) []:=by
 unfold JP at h0;refine Bb Tryz.func195 AA (AS AA (Ab λd a=>AK AA (bs h0 λc b h0=>CR (hb 174) (CD b) rfl (AK AA (AR a ?_)))));obtain rfl:=Sh.Av h0;exact rt [(2,.bool c)]
theorem S4 {N:Nat}{zX:AL->(List Int)->Block->Option (Int)}(hrec_spec_blockType :∀{p0:AL} {p1:(List Int)} {p2:Block} {r:Int},zX p0 p1 p2=some r->BH 127 [Gz p0,ls eI p1,DN p2] [] (i64 r) []){p0:AL}{p1:(List Int)}{p2:Block}{r:Int}(h0:Dm N zX p0 p1 p2=some r):BH 127 [Gz p0,ls eI p1,DN p2] [] (i64 r) []:=by
 unfold Dm at h0;refine Bb Tryz.func127 AA (Ab λK1 K=>CY 0 AA (CY 1 AA (AK AA (AR K (Ab λK2 M=>AK AA (bs h0 λT O h0=>Dx (ow 2 0 T) (EG O) ⟨(Ar λ_=>AA),uM⟩ (AK AA (AR M (AB λV P=>AS AA ?_)))))))));obtain⟨Q,b,h0⟩:=Sh.BG h0;have W:∀{h},JJ Q (.inr h) ⟨52,AJ [(5,Ax),(7,ow 1 0 h)],[ZJ p2.steps p2.result,As h]⟩ V:=by
  rintro h ⟨⟩ s R;refine P _ (AH R (AB λY i=>Ab λZ j=>AM 3 AA (zz (Dc h) (Ec Hq AA AA AA) rfl (AK AA (bs h0 λk o h0=>CR (hb 174) (CD o) rfl (AK AA (AR j ?_)))))));refine An h0 ?_ ?_<;>intro p h0
  ·have b0:k=false:=by simpa using p
   refine AS AA ?_;obtain rfl:=Sh.Av h0;exact rd [(6,i64 (-1))]
  ·have b1:k=true:=by simpa using p
   refine AG (i _ (Ab λb2 q=>AM 3 AA (bs h0 λt e h0=>zz (iZ p2.result) (Ls Ay AA e) rfl (zz (i64 t) (De JR AA AA (Ef e) rfl) rfl (AK AA (AR q ?_))))));obtain rfl:=Sh.Av h0;exact rd [(6,i64 t)]
 refine AI (Fh (Bh N p0 p2 zX) (λu x=>⟨52,AJ [(3,.ptr 0 0 0 0),(5,.ptr 1 0 0 0),(7,ow 2 0 x),(8,i64 u)],[VQ p0.decls p0.AF,ZJ p2.steps p2.result,ro 0 3 1 eI x]⟩) N 0 T b Ag ?_);intro n u x b;rw[Bh]at b;refine AB λb3 y=>Ab λb4 z=>AM 3 AA (Bd AA (AK AA (AR z ?_)));refine An b ?_ ?_<;>intro b5 b
 ·refine AG (y _ (AB λS A=>?_));obtain⟨B,a,b⟩:=Sh.BG b;have C:∀{c},JJ B (.inr c) ⟨52,AJ [(3,Ax),(5,HI),(7,ow 2 0 c),(8,i64 u)],[VQ p0.decls p0.AF,ZJ p2.steps p2.result,As c]⟩ S:=by
   rintro c ⟨⟩ s R;exact A _ (AH R (AE AA (AM 3 AA (AD (xi (Sh.w (u+1),c) b Ag)))))
  refine AI (AB λb6 D=>Cu (by kernel_rfl) (by kernel_rfl) (by rfl) ?_);iterate 5 refine yq tb rfl ?_
  refine bs a λE f a=>yz (H4 E) (E1 Cb AA AA f (CE _) rfl) rfl (yq tb AA (bs a λd F a=>Zf (v':=(i64 d)) BJ (hb 194) (P8 hrec_spec_blockType F) rfl (.val AA (.own AA AA (λ_=>AA) (.val AA .nil))) rfl AA (yq tb AA (Bl (D _ (AB λb7 G=>AS AA ?_))))));refine An a ?_ ?_<;>intro b8 a
  ·refine AS AA ?_;cases a;cases b;cases h0;exact rd [(6,i64 (-1))]
  ·refine AG (G _ (Ab λb9 H=>AM 3 AA (zz (H4 E) (E1 Cb AA AA f (CE _) rfl) rfl (AM 2 AA (bs a λc0 I a=>CR (hb 195) (XS I) rfl (AR H ?_))))));refine An a ?_ ?_<;>intro c1 a
   ·refine AE AA (AM 2 AA (D9 3 [d] eI Ay AA (bs a λg J a=>KA [d] Ay AA (GY AA AA) J (AK AA ?_))));exact AD (C a (by refine Wk.trans (CH (L:=[(3,Ax),(5,HI),(7,ow 2 0 g),(8,i64 u)]) (st':=[VQ p0.decls p0.AF,ZJ p2.steps p2.result,As g,Ml d]) (.raw AA AA (.raw AA AA (.pure BB (.pure BB .nil)))) (.same AA)) ?_;exact Bf [0,1,2] (.w (.w (.p .nil))) (.same AA)))
   ·exact AG (C a Ag)
 ·exact Af (W b (Bf [1,2] (.w (.p .nil)) (.same AA)))
theorem TP {N:Nat}:∀(n:Nat),∀{p0:AL} {p1:(List Int)} {p2:Block} {r:Int},Dn N n p0 p1 p2=some r->BH 127 [Gz p0,ls eI p1,DN p2] [] (i64 r) []:=by
 intro n
 induction n with
 | zero=>intro p0 p1 p2 r a;cases a
 | succ n ih=>
  intro p0 p1 p2 r a;rw[Dn]at a;exact S4 (λh=>ih h) a
theorem Po {N:Nat}:∀{p0:AL} {p1:(List Int)} {p2:Block} {r:Int},Br N p0 p1 p2=some r->BH 127 [Gz p0,ls eI p1,DN p2] [] (i64 r) []:=by
 intro p0 p1 p2 r a;exact TP N a
theorem Sp {N:Nat}{p0:AL}{r:Bool}(h0:Fs N p0=some r):BH 68 [Gz p0] [] (.bool r) []:=by
 unfold Fs at h0;refine Bb Tryz.func68 AA (Ab λT x=>CY 0 AA (AK AA (AR x (AB λU y=>Ab λV z=>AK AA (bs h0 λH A h0=>CR (hb 126) (QL A) rfl (AK AA (AR z ?_)))))));refine An h0 ?_ ?_<;>intro I h0
 ·have W:H=false:=by simpa using I
  refine AS AA ?_;cases h0;exact rd [(2,.bool false)]
 ·have X:H=true:=by simpa using I
  refine AG (y _ (AB λK B=>AS AA ?_));obtain⟨e,b,h0⟩:=Sh.BG h0;have C:JJ e (.inr ()) ⟨35,AJ [],[]⟩ K:=by
   rintro⟨⟩ s D;refine B _ (AH D (AS AA ?_));cases h0;exact rt [(2,.bool true)]
  refine AI (LN (DF N p0) (λc=>⟨35,AJ [(1,.ptr 0 0 0 0),(3,i64 c)],[VQ p0.decls p0.AF]⟩) N 0 b Ag ?_);intro n c b;rw[DF]at b;refine AB λM g=>Ab λO h=>AM 3 AA (Bd AA (AK AA (AR h ?_)));refine An b ?_ ?_<;>intro P b
  ·refine AG (g _ (AB λQ i=>AI (Ab λR j=>AM 3 AA (bs b λE k b=>DI Hg k AA (AK AA (Cm 1 Q2 AA (CF Q9 AA (AR j (AB λF l=>bs b λo d b=>?_)))))))));have p:∀{f},JJ o f ⟨35,AJ [(1,Ax),(3,i64 c),(34,.bool f)],[VQ p0.decls p0.AF]⟩ F:=by
    rintro _ ⟨⟩ s D;refine l _ (AH D ?_);refine An b ?_ ?_<;>intro S b
    ·refine AS AA ?_;cases b;cases h0;exact rd [(2,.bool false)]
    ·exact AG (i _ (AE AA (AM 3 AA (AD (xi (Sh.w (c+1)) b Ag)))))
   refine Cu (by kernel_rfl) (by kernel_rfl) (by rfl) ?_;iterate 2 refine yq tb rfl ?_
   refine bs d λG q d=>Og (Q6 q) ?_;iterate 2 refine yq tb rfl ?_
   rcases Sh.Aa d with ⟨a,d⟩|⟨a,d⟩
   ·refine ys a AA ?_;iterate 8 refine ys a rfl ?_
    exact yt a AA (Bl (p d (Bf [0] (.w .nil) (.same AA))))
   ·refine yg tb a AA ?_;iterate 4 refine yg tb a rfl ?_
    refine bs d λt u d=>N7 (v:=(i64 t)) (Is AA AA a) (hb 127) (Po u) rfl AA AA ?_;iterate 3 refine yg tb a rfl ?_
    exact yf a AA (Bl (p d (Bf [0] (.w .nil) (.same AA))))
  ·exact Af (C b (BT _ AA))
theorem On {p0:Int}{r:Bool}(h0:IM p0=some r):BH 128 [i64 p0] [] (.bool r) []:=by
 unfold IM at h0;refine Bb Tryz.func128 AA (AS AA (Ab λd a=>AK AA (bs h0 λc b h0=>CR (hb 174) (CD b) rfl (AK AA (AR a ?_)))));obtain rfl:=Sh.Av h0;exact rt [(2,.bool c)]
theorem SZ {N:Nat}{zw:Block->Option (Bool)}(hrec_spec_plainSteps :∀{p0:Block} {r:Bool},zw p0=some r->BH 69 [DN p0] [] (.bool r) []){p0:Block}{r:Bool}(h0:KC N zw p0=some r):BH 69 [DN p0] [] (.bool r) []:=by
 unfold KC at h0;refine Bb Tryz.func69 AA (Ab λK1 H=>CY 0 AA (AK AA (AR H (AB λR I=>AS AA ?_))));obtain⟨J,b,h0⟩:=Sh.BG h0;have S:JJ J (.inr ()) ⟨50,AJ [],[]⟩ R:=by
  rintro⟨⟩ s k;refine I _ (AH k (AS AA ?_));cases h0;exact rt [(2,.bool true)]
 refine AI (LN (Eu N p0 zw) (λf=>⟨50,AJ [(1,.ptr 0 0 0 0),(3,i64 f)],[ZJ p0.steps p0.result]⟩) N 0 b Ag ?_);intro n f b;rw[Eu]at b;refine AB λK7 K=>Ab λK8 L=>AM 3 AA (Bd AA (AK AA (AR L ?_)));refine An b ?_ ?_<;>intro b9 b
 ·refine AG (K _ (AB λM o=>AI (AB λT p=>AB λO q=>bs b λt a b=>?_)));have u:∀{g},JJ t g ⟨50,AJ [(1,Ax),(3,i64 f),(27,.bool g)],[ZJ p0.steps p0.result]⟩ O:=by
   rintro _ ⟨⟩ s k;refine q _ (AH k ?_);refine An b ?_ ?_<;>intro U b
   ·refine AS AA ?_;cases b;cases h0;exact rd [(2,.bool false)]
   ·refine AG (p _ (AS AA ?_));obtain⟨h,a,b⟩:=Sh.BG b;have P:JJ h (.inr ()) ⟨50,AJ [(1,Ax),(3,i64 f)],[ZJ p0.steps p0.result]⟩ M:=by
     rintro⟨⟩ s k;exact o _ (AH k (AE AA (AM 3 AA (AD (xi (Sh.w (f+1)) b Ag)))))
    refine AI (LN (Dz f p0 zw) (λi=>⟨50,AJ [(1,.ptr 0 0 0 0),(3,i64 f),(4,i64 i)],[ZJ p0.steps p0.result]⟩) N 0 a Ag ?_);intro n i a;rw[Dz]at a;refine AB λV x=>Ab λW y=>AM 4 AA (bs a λz d a=>zz (H4 z) (E1 Cb AA AA d (CE _) rfl) rfl (AM 2 AA (Bd AA (AK AA (AR y ?_)))));refine An a ?_ ?_<;>intro X a
    ·refine AG (x _ (AB λY A=>AI (Ab λZ B=>AM 3 AA (zz (H4 z) (E1 Cb AA AA d (CE _) rfl) rfl (AM 3 AA (bs a λb0 C a=>DI Kq C AA (AK AA (bs a λD E a=>CR (hb 69) (hrec_spec_plainSteps E) rfl (AK AA (AR B ?_))))))))));refine An a ?_ ?_<;>intro F a
     ·have b1:D=false:=by simpa using F
      refine AS AA ?_;cases a;cases b;cases h0;exact rd [(2,.bool false)]
     ·have b2:D=true:=by simpa using F
      exact AG (A _ (AE AA (AM 3 AA (AD (xi (Sh.w (i+1)) a Ag)))))
    ·exact Af (P a Ag)
  refine AE AA (AM 3 AA (bs a λj e a=>zz (H4 j) (E1 Cb AA AA e (CE _) rfl) rfl (AM 2 AA (bs a λb3 G a=>CR (hb 128) (On G) rfl (AK AA ?_)))));rcases Sh.Aa a with ⟨c,a⟩|⟨c,a⟩
  ·refine zs c AA ?_;iterate 6 refine zs c rfl ?_
   exact zt c AA (AD (u a Ag))
  ·refine Aj c AA (Aj c AA (Aj c AA (CP (H4 j) c (E1 Cb AA AA e (CE _) rfl) ?_)));iterate 3 refine Aj c rfl ?_
   exact zf c AA (AD (u a Ag))
 ·exact Af (S b (BT _ AA))
theorem Sl {N:Nat}:∀(n:Nat),∀{p0:Block} {r:Bool},GG N n p0=some r->BH 69 [DN p0] [] (.bool r) []:=by
 intro n
 induction n with
 | zero=>intro p0 r a;cases a
 | succ n ih=>
  intro p0 r a;rw[GG]at a;exact SZ (λh=>ih h) a
theorem UP {N:Nat}:∀{p0:Block} {r:Bool},LU N p0=some r->BH 69 [DN p0] [] (.bool r) []:=by
 intro p0 r a;exact Sl N a
theorem XH {N:Nat}{p0:AL}{r:Bool}(h0:JX N p0=some r):BH 27 [Gz p0] [] (.bool r) []:=by
 unfold JX at h0;refine Bb Tryz.func27 AA (Ab λK l=>CY 0 AA (AK AA (AR l (AB λL o=>Ab λM p=>AK AA (bs h0 λx q h0=>CR (hb 68) (Sp q) rfl (AK AA (AR p ?_)))))));refine An h0 ?_ ?_<;>intro y h0
 ·have O:x=false:=by simpa using y
  refine AS AA ?_;cases h0;exact rd [(2,.bool false)]
 ·have P:x=true:=by simpa using y
  refine AG (o _ (AB λA t=>AS AA ?_));obtain⟨b,a,h0⟩:=Sh.BG h0;have u:JJ b (.inr ()) ⟨22,AJ [],[]⟩ A:=by
   rintro⟨⟩ s B;refine t _ (AH B (AS AA ?_));cases h0;exact rt [(2,.bool true)]
  refine AI (LN (HP N p0) (λc=>⟨22,AJ [(1,.ptr 0 0 0 0),(3,i64 c)],[VQ p0.decls p0.AF]⟩) N 0 a Ag ?_);intro n c a;rw[HP]at a;refine AB λC d=>Ab λD e=>AM 3 AA (Bd AA (AK AA (AR e ?_)));refine An a ?_ ?_<;>intro E a
  ·refine AG (d _ (AB λF f=>AI (Ab λG g=>AM 3 AA (bs a λH h a=>DI Hg h AA (AM 2 AA (bs a λi j a=>CR (hb 69) (UP j) rfl (AK AA (AR g ?_))))))));refine An a ?_ ?_<;>intro k a
   ·have I:i=false:=by simpa using k
    refine AS AA ?_;cases a;cases h0;exact rd [(2,.bool false)]
   ·have J:i=true:=by simpa using k
    exact AG (f _ (AE AA (AM 3 AA (AD (xi (Sh.w (c+1)) a Ag)))))
  ·exact Af (u a (BT _ AA))
theorem VF {N:Nat}{p0:(List AP)}{r:(List AP)}(h0:KX N p0=some r):BH 71 [DH p0] [] (ow 0 0 r) [jF r]:=by
 unfold KX at h0;refine Bb Tryz.func71 AA (AS AA (Ab λK2 K=>D9 0 ([]:List AP) Ai EZ AA (AK AA (AR K (AB λT M=>AS AA (bs h0 λO c h0=>?_))))));have U:∀{t},JJ O t ⟨55,AJ [(3,ow 0 0 t)],[jF t]⟩ T:=by
  rintro _ ⟨⟩ s P;try dsimp only at h0
  refine M _ (AH P (AS AA ?_));obtain rfl:=Sh.Av h0;exact rt [(2,ow 0 0 O)]
 refine AI (Fh (GI N p0) (λi d=>⟨55,AJ [(0,ls Ai p0),(3,ow 0 0 d),(4,i64 i)],[ro 0 104 3 Ai d]⟩) N 0 [] c Ag ?_);intro n i d c;rw[GI]at c;refine AB λW y=>Ab λX z=>AM 2 AA (Bd AA (AK AA (AR z ?_)));refine An c ?_ ?_<;>intro Y c
 ·refine AG (y _ (AB λZ A=>AI (Ab λb0 B=>D9 1 ([]:List Bw) By Jl AA (AK AA (AR B (AB λQ C=>AS AA (bs c λo a c=>?_)))))));have R:∀{b},JJ o b ⟨55,AJ [(0,DH p0),(3,ow 0 0 d),(4,i64 i),(5,ow 1 0 b)],[jF d,ro 0 106 1 By b]⟩ Q:=by
   rintro _ ⟨⟩ s P;refine C _ (AH P (AH (Wk.Db (L:=[(0,DH p0),(3,ow 0 0 d),(4,i64 i),(5,ls By o)]) (st':=[jF d,⟨1,106,1,[]⟩]) (id:=1) rfl yp BB ⟨.rfl,.rfl,.rfl,.Db AA,uM⟩ AA) (D5 14 (by kernel_rfl) (by kernel_rfl) (by rfl) ?_)));iterate 3 refine yq tb rfl ?_
   refine bs c λe j c=>Lw EZ j AA ?_;iterate 4 refine yq tb rfl ?_
   refine Lw EZ j AA ?_;iterate 3 refine yq tb rfl ?_
   refine yz (.agg [i64 e.from_,i64 e.to,ls By o]) (Gs nk oM Hb AA AA) rfl (kK (l:=[AP.mk e.from_ e.to o]) (enc:=Ai) BJ EZ (by decide) rfl AA AA AA AA BB (Bl (bs c λp D c=>KA [AP.mk e.from_ e.to o] EZ AA P1 D (AK AA (AR A (AE AA (AM 3 AA ?_)))))));exact AD (xi (Sh.w (i+1),p) c (by refine Wk.trans (CH (L:=[(0,DH p0),(3,ow 0 0 p),(4,NV i)]) (st':=[jF p,⟨0,106,1,[]⟩]) (.pure BB (.pure nN .nil)) (.same AA)) ?_;exact Bf [0] (.p .nil) (.same AA)))
  refine AI (Fh (FF i p0) (λh f=>⟨55,AJ [(0,ls Ai p0),(3,ow 0 0 d),(4,i64 i),(5,ow 1 0 f),(6,i64 h)],[ro 0 104 3 Ai d,ro 0 106 1 By f]⟩) N 0 [] a Ag ?_);intro n h f a;rw[FF]at a;refine AB λb1 E=>Ab λb2 F=>AM 3 AA (bs a λb3 k a=>DI EZ k AA (AM 2 AA (Bd AA (AK AA (AR F ?_)))));refine An a ?_ ?_<;>intro b4 a
  ·refine AG (E _ (AB λb5 G=>AI (AE AA (AM 3 AA (DI EZ k AA (AM 3 AA (bs a λb6 H a=>DI Jl H AA (AM 2 AA (bs a λg I a=>Dx (ow 2 0 g) (EG I) ⟨(Ar λ_=>AA),uM⟩ (zz (.agg [ow 2 0 g]) (Gs nI nZ QK AA AA) rfl (JT [(0,DH p0),(3,ow 0 0 d),(4,i64 i),(6,i64 h),(25,ow 1 0 f),(36,.agg [ls eI g])] [jF d,ro 0 106 1 By f,⟨1,3,1,[]⟩] 2 AA ⟨.rfl,.rfl,.rfl,.rfl,.rfl,.agg ⟨.Km AA,uM⟩,uM⟩ DA AA (D9 3 [Bw.mk g] By Jl AA (bs a λq J a=>KA [Bw.mk g] Jl AA (GY AA AA) J (AK AA (AR G (AE AA (AM 3 AA ?_)))))))))))))))));exact AD (xi (Sh.w (h+1),q) a (by refine Wk.trans (CH (L:=[(0,DH p0),(3,ow 0 0 d),(4,i64 i),(5,ow 1 0 q),(6,NV h)]) (st':=[jF d,ro 0 106 1 By q,⟨0,3,1,[]⟩,ro 0 106 1 By [Bw.mk g]]) (.pure BB (.pure BB (.pure nN (.pure BB .nil)))) (.same AA)) ?_;exact Bf [0,1] (.p (.p .nil)) (.same AA)))
  ·exact Af (R a Ag)
 ·exact Af (U c Ag)
theorem MJ {N:Nat}{p0:(List Int)}{p1:Int}{r:(List Int)}(h0:JH N p0 p1=some r):BH 249 (Yd p0 p1) [] (ow 0 0 r) [As r]:=by
 unfold JH at h0;refine Bb Tryz.func249 AA (AS AA (Ab λK2 b1=>D9 0 ([]:List Int) eI Ay AA (AK AA (AR b1 (AS AA (AB λK4 b2=>AS AA (bs h0 λt b h0=>?_)))))));have b3:∀c g,t=(c,g)->∀s,Wk 0 s ⟨49,AJ [(1,i64 p1),(5,ow 0 0 g),(6,.bool c)],[As g]⟩->K4 s:=by
  rintro c g rfl s k;refine b2 _ (AH k (AB λb4 B=>bs h0 λC b h0=>?_));have D:∀{h},JJ C h ⟨49,AJ [(5,ow 0 0 h)],[As h]⟩ b4:=by
   rintro _ ⟨⟩ s k;try dsimp only at h0
   refine B _ (AH k (AS AA ?_));obtain rfl:=Sh.Av h0;exact rt [(4,ow 0 0 C)]
  refine AS AA ?_;refine An b ?_ ?_<;>intro E b
  ·have b8:c=false:=by simpa using E
   refine AE AA (AM 2 AA (D9 1 [p1] eI Ay AA (bs b λu F b=>KA [p1] Ay AA (GY AA AA) F (AK AA ?_))));exact AD (D b (by refine Wk.trans (CH (L:=[(5,ow 0 0 u)]) (st':=[As u,Ml p1]) (.pure BB (.pure BB .nil)) (.same AA)) ?_;exact Bf [0] (.p .nil) (.same AA)))
  ·have b9:c=true:=by simpa using E
   exact AG (D b Ag)
 refine AI (Vl (D6 p0 p1) (λd p q=>⟨49,AJ [(0,ls eI p0),(1,i64 p1),(5,ow 0 0 q),(6,.bool d),(7,i64 p)],[ro 0 3 1 eI q]⟩) N false 0 [] b Ag ?_);intro n d p q b;rw[D6]at b;refine AB λc0 G=>Ab λc1 H=>AM 2 AA (Bd AA (AK AA (AR H ?_)));refine An b ?_ ?_<;>intro c2 b
 ·refine AG (G _ (AB λc3 I=>AI (AB λb5 J=>bs b λK i b=>?_)));have M:∀a o,K=(a,o)->∀s,Wk 0 s ⟨49,AJ (db p0 p1 o [(6,.bool a),(7,i64 p)]),[As o]⟩->b5 s:=by
   rintro a o rfl s k;refine J _ (AH k (AE AA (AM 3 AA (bs b λx O b=>DI Ay O AA (AK AA (D9 1 [x] eI Ay AA (bs b λy P b=>KA [x] Ay AA (GY AA AA) P (AK AA (AR I (AE AA (AM 3 AA ?_)))))))))));exact AD (xi (a,Sh.w (p+1),y) b (by refine Wk.trans (CH (L:=(db p0 p1 y [(6,.bool a),(7,NV p)])) (st':=[As y,Ml x]) (.pure BB (.pure BB .nil)) (.same AA)) ?_;exact Bf [0] (.p .nil) (.same AA)))
  refine AB λb6 Q=>bs i λR f i=>?_;have S:∀{z},JJ R z ⟨49,AJ (db p0 p1 q [(6,.bool d),(7,i64 p),(24,.bool z)]),[As q]⟩ b6:=by
   rintro _ ⟨⟩ s k;refine Q _ (AH k ?_);refine An i ?_ ?_<;>intro c4 i
   ·refine AB λb7 T=>bs i λU f i=>?_;have V:∀{j},JJ U j ⟨49,AJ (db p0 p1 j [(7,i64 p)]),[As j]⟩ b7:=by
     rintro _ ⟨⟩ s k;exact T _ (AH k (AE AA (AK AA (AD (M true U (Bm i) _ Ag)))))
    refine Ab λc5 W=>AM 2 AA (bs f λc6 X f=>DI Ay X AA (AM 3 AA (AR W ?_)));refine An f ?_ ?_<;>intro c7 f
    ·refine AE AA (AM 2 AA (D9 1 [p1] eI Ay AA (bs f λA Y f=>KA [p1] Ay AA (GY AA AA) Y (AK AA ?_))));exact AD (V f (by refine Wk.trans (CH (L:=(db p0 p1 A [(7,i64 p)])) (st':=[As A,Ml p1]) (.pure BB (.pure BB .nil)) (.same AA)) ?_;exact Bf [0] (.p .nil) (.same AA)))
    ·exact AG (V f Ag)
   ·exact AG (M d q (Bm i) _ Ag)
  refine AE AA (AM 3 AA ?_);rcases Sh.Aa f with ⟨e,f⟩|⟨e,f⟩
  ·refine Aj e AA (Aj e AA (bs f λZ b0 f=>CP (LR Z) e (Hl Ay AA b0) ?_));iterate 3 refine Aj e rfl ?_
   exact zt e AA (AD (S f Ag))
  ·refine zs e AA ?_;iterate 5 refine zs e rfl ?_
   exact zf e AA (AD (S f Ag))
 ·exact Af (b3 d q (Bm b) _ Ag)
end
end Go.Proofs.YtccficmcdkcpnaaGreat
