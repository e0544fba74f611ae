import Derived.Test.YtihdgoiebmfapaaGreatAbsZQ
import Derived.Test.YtihdgoiebmfapaaGreatCFWalk
import Derived.Test.YtihdgoiebmfapaaGreatLAWalk
set_option linter.all false
namespace Go.Proofs.YtihdgoiebmfapaaGreat
noncomputable section
open Go Go.Abs RC
attribute [local irreducible] Go.Abs.D6
set_option maxRecDepth 100000
theorem Je:([11,12,13,14,15,21,22,25,26,27,29,31,32,33,34,35,36,37,43,44,47,48,53,54,55,56,57,58,59,60,61,62,63,64,65,66,67,68,70,72,74,76,77,78,79,80,81,82,83,84,85,86,87,88,89,90,91,92,93,94,95,96,97,98,99,100,101,102,103,104,105,106,109,110,111,112,113,114,115,116,117,118,119,120,121,122,123,126,127,128,129,130,131,132,133,134,135,136,137,138,139,140,141,142,143,144,145,146,147].all λn=>Dl Tryz.prog n)=true:=by kernel_rfl
theorem hb (n:Nat)(h:[11,12,13,14,15,21,22,25,26,27,29,31,32,33,34,35,36,37,43,44,47,48,53,54,55,56,57,58,59,60,61,62,63,64,65,66,67,68,70,72,74,76,77,78,79,80,81,82,83,84,85,86,87,88,89,90,91,92,93,94,95,96,97,98,99,100,101,102,103,104,105,106,109,110,111,112,113,114,115,116,117,118,119,120,121,122,123,126,127,128,129,130,131,132,133,134,135,136,137,138,139,140,141,142,143,144,145,146,147].contains n=true:=by decide):Dl Tryz.prog n=true:=jq.1 Je n (List.contains_iff_mem.1 h)
abbrev Cx (z0:List Int)(z1:Int):Go.Abs.Row:=⟨0,72,2,[[ls E4 z0,i64 z1]]⟩
abbrev Jx:Go.Abs.Row:=⟨0,35,3,[[i64 0,i64 0,.zc]]⟩
abbrev Fg (z0 z1:Int)(z2:List AE):Go.Abs.Row:=⟨0,35,3,[[i64 z0,i64 z1,ls Au z2]]⟩
abbrev Pg:Go.Abs.Row:=⟨0,26,2,[[.zc,.zc]]⟩
abbrev iD (z0:List AM):Go.Abs.Row:=⟨0,26,2,[[ls Aj z0,.zc]]⟩
abbrev DW (z0:List Int)(z1:Int):Go.Abs.Row:=⟨0,72,2,[[ls E4 z0,i64 z1]]⟩
abbrev Ld:Go.Abs.Row:=⟨0,26,2,[[.zc,.zc]]⟩
abbrev iJ (z0 z1:Int)(z2:List AE):Go.Abs.Row:=⟨0,35,3,[[i64 z0,i64 z1,ls Au z2]]⟩
abbrev QD (z0:Int):Go.Abs.Row:=⟨0,3,1,[[i64 z0]]⟩
abbrev cO (z0:List AM)(z1:List Ac):Go.Abs.Row:=⟨0,26,2,[[ls Aj z0,ls BS z1]]⟩
abbrev cB:Go.Abs.Row:=⟨0,80,3,[[i64 0,i64 0,.zc]]⟩
abbrev aP:Go.Abs.Row:=⟨0,99,2,[[.zc,.zc]]⟩
abbrev FA:Go.Abs.Row:=⟨0,35,3,[[i64 0,i64 0,.zc]]⟩
abbrev G0 (z0:List AM)(z1:List Ac):Go.Abs.Row:=⟨0,26,2,[[ls Aj z0,ls BS z1]]⟩
abbrev PX (z0 z1:Int)(z2:List AE):Go.Abs.Row:=⟨0,35,3,[[i64 z0,i64 z1,ls Au z2]]⟩
abbrev T8:Go.Abs.Row:=⟨0,26,2,[[.zc,.zc]]⟩
abbrev Cs (z0:List AM)(z1:List Ac):Go.Abs.Row:=⟨0,26,2,[[ls Aj z0,ls BS z1]]⟩
abbrev Om (z0 z1:Int)(z2:List AE):Go.Abs.Row:=⟨0,35,3,[[i64 z0,i64 z1,ls Au z2]]⟩
abbrev Gx:Go.Abs.Row:=⟨0,26,2,[[.zc,.zc]]⟩
abbrev dX:Go.Abs.Row:=⟨0,35,3,[[i64 0,i64 0,.zc]]⟩
abbrev FI (z0:AE):=([i64 z0.op,i64 z0.num,ls Au z0.kids]:List AV)
abbrev PF (z0:Ac):=([ls eI z0.params,i64 z0.result,i64 z0.body.op,i64 z0.body.num,ls Au z0.body.kids]:List AV)
abbrev Zd (z0:_){α1:Type}(z1:List α1):=(⟨0,26,2,[[ls Aj z0,ow 1 0 z1]]⟩:Row)
abbrev Mb (z0:_):=((ro 0 37 5 BS z0):Row)
abbrev BJ:=((.ptr 0 0 0 0):AV)
abbrev DR (z0 z1 z2:_):=((.agg [i64 z0,i64 z1,ls Au z2]):AV)
abbrev DL (z0:AE):=((ro 0 35 3 (BP 35) z0.kids):Row)
abbrev CY:=((.ptr 2 0 0 0):AV)
abbrev CS:=((.ptr 1 0 0 0):AV)
abbrev CB:=(⟨1,35,3,[]⟩:Row)
abbrev ba (z0:AP):=([ls Aj z0.decls,ls BS z0.funcs]:List AV)
abbrev LK (z0:AE):=([i64 z0.op,i64 z0.num,ow 2 0 z0.kids]:List AV)
abbrev HN:=((.ptr 3 0 0 0):AV)
abbrev Bl (z0:_):=((ro 0 3 1 eI z0):Row)
abbrev Bc (z0:_):=((.agg (FI z0)):AV)
abbrev HM (z0:_){α1:Type}(z1:List α1):=((.agg [ls Aj z0,ow 1 0 z1]):AV)
abbrev Xa (z0 z1:_)(z2:Ac):=(⟨0,37,5,hole z0 (DK 3 35) z1 [ow 5 0 z2.params,i64 z2.result,i64 z2.body.op,i64 z2.body.num,ow 6 0 z2.body.kids]⟩:Row)
abbrev LW (z0:_):=(⟨0,99,2,[GB z0]⟩:Row)
abbrev Da (z0:_):=((.Bh (FI z0) 0):AV)
abbrev Mh (z0:AE):=([i64 z0.op,i64 z0.num,ow 4 0 z0.kids]:List AV)
abbrev GW (z0:_):=((ro 0 35 3 Au z0):Row)
abbrev Ct (z0:_):=((ls Aj z0):AV)
abbrev HZ (z0:_):=((ro 0 35 3 (BP 35) z0):Row)
abbrev Oh (z0 z1:_):=((.Bh [i64 0,i64 0,ls CC [z0,z1]] 0):AV)
abbrev Qs:=([.sl (List.map Aj []),.sl (List.map BS [])]:List AV)
abbrev Mf (z0:_):=((ro 0 37 5 (DK 3 35) z0):Row)
abbrev G8 {α0:Type}(z0:List α0):=((i64 (Sh.len z0)):AV)
abbrev NO:=(⟨1,80,3,[]⟩:Row)
abbrev Vn (z0:AE):=([i64 z0.op,i64 z0.num,ow 3 0 z0.kids]:List AV)
abbrev H4:=(⟨0,35,3,[]⟩:Row)
abbrev IP (z0:_):=((ro 0 80 3 Aj z0):Row)
abbrev QO (z0:_):=((ro 0 80 3 (BZ 82 3) z0):Row)
abbrev O4 (z0 z1:_){α2:Type}(z2:List α2):=(⟨0,35,3,[[i64 z0,i64 z1,ow 0 0 z2]]⟩:Row)
abbrev GV (z0:_):=((ls Au z0):AV)
abbrev YH (z0:Ac):=((.agg [i64 z0.body.op,i64 z0.body.num,ls Au z0.body.kids]):AV)
abbrev ep {α0:Type}(z0:List α0){α1:Type}(z1:List α1):=(⟨0,26,2,[[ow 2 0 z0,ow 3 0 z1]]⟩:Row)
abbrev Jy (z0:_):=((.agg (GB z0)):AV)
abbrev LR (z0:_):=((.ptr 1 0 (Int.toNat z0) 0):AV)
abbrev bt (z0:Ac):=([ow 6 0 z0.params,i64 z0.result,i64 z0.body.op,i64 z0.body.num,ow 5 0 z0.body.kids]:List AV)
abbrev Lq:=(⟨1,82,1,[]⟩:Row)
abbrev Rg (z0:AE):=([i64 z0.op,i64 z0.num,ow 0 0 z0.kids]:List AV)
abbrev T2 (z0 z1:_){α2:Type}(z2:List α2):=(⟨0,35,3,[[i64 z0,i64 z1,ow 1 0 z2]]⟩:Row)
abbrev TP (z0:AE):=([i64 z0.op,i64 z0.num,ow 1 0 z0.kids]:List AV)
abbrev P7 (z0:Ac):=((ro 0 35 3 (BP 35) z0.body.kids):Row)
abbrev T7 (z0:AE)(z1:_){α2:Type}(z2:List α2):=(⟨0,35,3,[[i64 z0.op,i64 z1,ow 1 0 z2]]⟩:Row)
abbrev Ft (z0:_):=((.agg (PF z0)):AV)
abbrev cu (z0:AE):=([i64 z0.op,i64 z0.num,.dv 35 3 (List.map (BP 35) z0.kids)]:List AV)
abbrev V0 (z0:AE):=([i64 z0.op,i64 z0.num,ow 5 0 z0.kids]:List AV)
abbrev KA (z0:_):=((i64 (Sh.w (z0+1))):AV)
abbrev LL (z0 z1 z2:_):=([i64 z0,i64 z1,GV z2]:List AV)
abbrev Mg (z0 z1 z2 z3 z4 z5:_):=((ro 0 37 5 BS [z0,z1,z2,z3,z4,z5]):Row)
abbrev RF:=((.sl (List.map Au [])):AV)
abbrev cf (z0:Ac):=((.agg [i64 z0.body.op,i64 z0.body.num,ow 6 0 z0.body.kids]):AV)
abbrev UF:=((.sl (List.map CC [])):AV)
abbrev JN (z0:_):=((.agg (CC z0)):AV)
abbrev Q6:=((.sl (List.map eI [])):AV)
abbrev LV:=((.ptr 4 0 0 0):AV)
abbrev H7 (z0:_):=((.agg (ba z0)):AV)
abbrev X2:=([.sl (List.map Aj []),.zc]:List AV)
abbrev Ty (z0:_):=((.ptr 4 0 (Int.toNat z0) 0):AV)
abbrev dC (z0:Ac):=((.agg [i64 z0.body.op,i64 z0.body.num,ow 5 0 z0.body.kids]):AV)
abbrev Ou (z0 z1:_):=([Ct z0,ls BS z1]:List AV)
abbrev WD (z0 z1:_):=((.Dp [.agg (Aj z0),.bool z1]):AV)
abbrev YJ (z0:AE):=((i64 (Sh.len z0.kids)):AV)
abbrev dI (z0 z1:_):=([CB,FA,DL z0,⟨0,35,3,hole z1 (BP 35) 0 (LK z0)⟩]:List Row)
abbrev V4 (z0:_){α1:Type}(z1:List α1)(z2 z3 z4:_):=([BJ,HM z0 z1,ls eI z2,i64 z3,i64 z4]:List AV)
abbrev Zf (z0:AP):=((ls BS z0.funcs):AV)
abbrev Q5 (z0:_):=((ro 0 35 3 Au [z0]):Row)
abbrev Vd (z0:_):=(⟨0,80,3,[Aj z0]⟩:Row)
abbrev S9:=([⟨1,3,1,[]⟩]:List Row)
abbrev Zx (z0 z1:_):=(⟨0,35,3,hole z0 (BP 35) 0 (Vn z1)⟩:Row)
abbrev cQ:=((.own 0 0 (List.length ([]:List Int))):AV)
set_option maxHeartbeats 4000000
def tb:KZ Tryz.prog where
 t:=[(22,false,1),(23,false,1),(24,false,1),(26,true,2),(3,false,1),(32,false,1),(33,false,1),(35,true,3),(37,true,5),(5,false,1),(78,false,1),(80,true,3),(82,true,1),(93,false,1),(95,true,3),(99,true,2)]
 f:=[(26,0,0),(26,1,1),(35,0,0),(35,1,1),(35,2,2),(37,0,0),(37,1,1),(37,2,2),(72,0,0),(72,1,1),(80,0,0),(80,1,1),(80,2,2),(82,0,0),(95,0,0),(95,1,1),(95,2,2),(99,0,0),(99,1,1)]
 v:=[]
 b:=[4]
 s:=[119,22,23,24,32,33,78,93]
 ht:=by kernel_rfl
 hf:=by kernel_rfl
 hv:=by kernel_rfl
 hb:=by kernel_rfl
 hs:=by kernel_rfl
abbrev CV (z0:List Int)(z1:Int):Go.Abs.Row:=⟨0,72,2,[[ls E4 z0,i64 z1]]⟩
abbrev Iz:Go.Abs.Row:=⟨0,35,3,[[i64 0,i64 0,.zc]]⟩
abbrev I0 (z0 z1:Int)(z2:List AE):Go.Abs.Row:=⟨0,35,3,[[i64 z0,i64 z1,ls Au z2]]⟩
abbrev WC (z0:List AM)(z1:List Ac):Go.Abs.Row:=⟨0,26,2,[[ls Aj z0,ls BS z1]]⟩
abbrev Ci (r:List (Go.Abs.Row)):=⟨1,3,1,[]⟩::⟨1,3,1,[]⟩::r
abbrev NS (r:List (Go.Abs.Row)):=⟨0,3,1,[]⟩::⟨0,3,1,[]⟩::⟨0,3,1,[]⟩::r
abbrev GH (z0:List Int)(z1:Int)(z2 z3:_)(r:List (Go.Abs.Row)):=(Cx z0 z1)::(Mb z2)::(Zd z3 z2)::Jx::r
abbrev QE (z0 z1 z2:_)(r:List (Nat×AV)):=(0,BJ)::(2,ls eI z0)::(3,i64 z1)::(4,i64 z2)::(6,CY)::(10,HN)::r
abbrev Gb (z0:List Int)(z1:Int)(z2 z3:_)(r:List (Go.Abs.Row)):=(CV z0 z1)::(Mb z2)::(Zd z3 z2)::Iz::r
abbrev OL (z0 z1:_)(r:List (Nat×AV)):=(0,BJ)::(2,i64 z0)::(3,i64 z1)::(5,CY)::(8,HN)::r
abbrev TF (z0:AP)(z1:_)(r:List (Nat×AV)):=(1,.fn 35 [BJ])::(2,.Bh (ba z0) 0)::(4,CS)::(6,CY)::(7,i64 z1)::r
abbrev MR (z0:_)(r:List (Nat×AV)):=(0,BJ)::(2,i64 z0)::(4,CY)::(6,HN)::r
abbrev YD (z0 z1:_)(z2:AE)(z3:_)(r:List (Nat×AV)):=(1,i64 z0)::(2,i64 z1)::(3,BJ)::(6,CY)::(27,ls Au z2.kids)::(28,YJ z2)::(29,i64 z3)::r
abbrev QH (z0 z1:_)(r:List (Nat×AV)):=(1,ls eI z0)::(3,ls (eS eI) z1)::(4,BJ)::r
abbrev QA (z0 z1:_)(r:List (Nat×AV)):=(13,GV z0)::(14,G8 z0)::(15,i64 z1)::r
abbrev cS (z0:_)(z1:AE)(r:List (Nat×AV)):=(1,ls eI z0)::(3,BJ)::(5,CS)::(7,.bool (decide (z1.num=0)))::(15,i64 z1.op)::r
abbrev Tt (z0 z1:_)(r:List (Nat×AV)):=(0,Ct z0)::(2,i64 z1)::(3,.fn 35 [CS])::r
abbrev CR (z0:List Int)(z1:Int)(z2:_)(r:List (Go.Abs.Row)):=(CV z0 z1)::(Mb z2)::r
abbrev OI (r:List (Nat×AV)):=(0,BJ)::(2,CS)::(3,HN)::r
abbrev WE (z0:AE)(r:List (Nat×AV)):=(4,CS)::(65,i64 z0.op)::(67,i64 z0.num)::r
abbrev Nm (z0 z1:_)(r:List (Nat×AV)):=(2,i64 z0)::(3,ls eI z1)::r
abbrev TD (z0:AP)(r:List (Nat×AV)):=(2,BJ)::(3,CS)::(11,Zf z0)::r
abbrev SX (z0 z1:_)(r:List (Go.Abs.Row)):=T8::(ep z0 z1)::(QO z0)::(Mf z1)::r
abbrev QQ {α0:Type}(z0:List α0)(z1:_)(r:List (Nat×AV)):=(13,G8 z0)::(14,i64 z1)::r
abbrev JW (z0 z1:_)(r:List (Go.Abs.Row)):=(Mb z0)::(Zd z1 z0)::r
abbrev aE (z0:_){α1:Type}(z1:List α1)(z2:_)(r:List (Nat×AV)):=(1,i64 z0)::(2,BJ)::(5,ow 1 0 z1)::(6,i64 z2)::r
abbrev bh (z0:_)(r:List (Nat×AV)):=(13,i64 z0)::(16,.ptr 2 0 0 1)::(18,i64 z0)::r
abbrev ee (z0:List Int)(z1:Int)(z2 z3:_)(r:List (Go.Abs.Row)):=(DW z0 z1)::(ro 1 37 5 BS z2)::⟨0,26,2,[[Ct z3,ow 1 1 z2]]⟩::r
abbrev eU {α0:Type}(z0:List α0)(z1 z2:_)(r:List (Nat×AV)):=(3,ow 1 0 z0)::(63,ow 1 0 z0)::(64,i64 z1)::(66,i64 z2)::r
abbrev iC (r:List (Go.Abs.Row)):=(ro 0 80 3 (BZ 82 3) ([]:List AM))::(ro 0 37 5 (DK 3 35) ([]:List Ac))::r
abbrev Y6 (z0 z1:_)(z2:AE)(r:List (Go.Abs.Row)):=(Bl z0)::(LW z1)::(PX z2.op z2.num z2.kids)::r
abbrev Z7 (z0 z1:_)(z2:AE)(z3:List AM)(z4:List Ac)(r:List (Go.Abs.Row)):=⟨0,35,3,hole z0 (BP 35) z1 (LK z2)⟩::(G0 z3 z4)::r
abbrev E9 (z0:List Int)(z1:Int)(z2:_)(r:List (Go.Abs.Row)):=(Cx z0 z1)::(Mb z2)::r
abbrev P6 (z0:List Int)(z1:Int)(z2:List AM)(r:List (Go.Abs.Row)):=(Cx z0 z1)::Pg::NO::(iD z2)::r
abbrev gY (z0 z1 z2 z3 z4:_)(r:List (Nat×AV)):=(0,BJ)::(3,Oh z0 z1)::(4,Oh z2 z3)::(23,.agg [i64 0,i64 0,ls CC [z4]])::(24,.agg [i64 1,i64 0,UF])::r
abbrev cN (z0:_)(r:List (Nat×AV)):=(2,i64 z0)::(3,BJ)::(4,CS)::(6,CY)::r
abbrev XU (z0:AE)(r:List (Go.Abs.Row)):=(Om z0.op z0.num z0.kids)::dX::r
abbrev YI (z0:List Int)(z1:Int)(z2:_)(r:List (Go.Abs.Row)):=(DW z0 z1)::(IP z2)::⟨1,3,1,[]⟩::r
abbrev fu (z0:_)(z1:Ac)(r:List (Nat×AV)):=(0,BJ)::(3,CY)::(4,HN)::(5,i64 z0)::(6,.Bh (PF z1) 0)::r
abbrev dt (z0 z1:_)(r:List (Go.Abs.Row)):=(Mb z0)::⟨0,26,2,[[Ct z1,ow 2 0 z0]]⟩::r
abbrev ZC (z0:AE)(r:List (Nat×AV)):=(6,CS)::(82,ow 2 0 z0.kids)::r
abbrev Yc (r:List (Go.Abs.Row)):=Lq::NO::⟨1,3,1,[]⟩::r
abbrev gX (z0:_)(z1:AE)(z2 z3:_)(r:List (Go.Abs.Row)):=CB::⟨0,35,3,hole z0 (BP 35) 0 (cu z1)⟩::(T2 z2 z3 z0)::FA::CB::⟨0,35,3,[Mh z1]⟩::r
abbrev cX (z0:AE){α1:Type}(z1:List α1)(r:List (Nat×AV)):=(66,.Bh (FI z0) 1)::(70,ow 2 0 z1)::r
abbrev dS (z0:_){α1:Type}(z1:List α1)(r:List (Nat×AV)):=(13,i64 z0)::(17,ow 4 0 z1)::(18,i64 z0)::r
abbrev Se (r:List (Nat×AV)):=(4,CY)::(6,HN)::r
abbrev ct (z0 z1:_)(r:List (Nat×AV)):=(1,i64 z0)::(2,i64 z1)::(3,BJ)::(6,CS)::r
abbrev cR (z0:AE)(r:List (Go.Abs.Row)):=(DL z0)::⟨0,35,3,[LK z0]⟩::r
abbrev OE (z0:List Int)(z1:Int)(z2:_)(r:List (Go.Abs.Row)):=(Cx z0 z1)::Jx::(GW z2)::r
abbrev gx (z0:_)(r:List (Nat×AV)):=(25,.ptr 4 0 (Int.toNat z0) 2)::(31,Ty z0)::(34,.fn 35 [BJ])::r
abbrev gr (z0:AP)(r:List (Go.Abs.Row)):=(ro 0 80 3 (BZ 82 3) z0.decls)::(ro 0 37 5 (DK 3 35) z0.funcs)::r
abbrev Yv (r:List (Go.Abs.Row)):=Ld::⟨1,37,5,[]⟩::r
abbrev eD {α0:Type}(z0:List α0){α1:Type}(z1:List α1)(z2:_)(r:List (Nat×AV)):=(11,ow 4 0 z0)::(12,ow 5 0 z1)::(13,i64 z2)::r
abbrev cI (z0:_)(z1:AE)(r:List (Go.Abs.Row)):=(LW z0)::(iJ z1.op z1.num z1.kids)::r
abbrev fL {α0:Type}(z0:List α0)(z1:_)(r:List (Nat×AV)):=(3,ow 1 0 z0)::(27,ow 1 0 z0)::(28,i64 z1)::r
theorem Oa:IW Tryz.prog 35=true:=by kernel_rfl
theorem Tb:IW Tryz.prog 37=true:=by kernel_rfl
theorem ig:IW Tryz.prog 72=true:=by kernel_rfl
theorem Lj:IW Tryz.prog 80=true:=by kernel_rfl
theorem eX:IW Tryz.prog 82=true:=by kernel_rfl
theorem Oe:Js Tryz.prog 35=some [(0,1),(1,1),(2,1)]:=by kernel_rfl
theorem Tc:Js Tryz.prog 37=some [(0,1),(1,1),(2,3)]:=by kernel_rfl
theorem ie:Js Tryz.prog 72=some [(0,1),(1,1)]:=by kernel_rfl
theorem Lf:Js Tryz.prog 80=some [(0,1),(1,1),(2,1)]:=by kernel_rfl
theorem dH:Js Tryz.prog 82=some [(0,1)]:=by kernel_rfl
theorem aD:Zr Tryz.prog 5 3=some .i64:=by kernel_rfl
theorem bJ:D2 Tryz.prog 22=some ⟨5,1,1,[.int .u8 0]⟩:=by kernel_rfl
theorem DH:D2 Tryz.prog 23=some ⟨80,3,40,[.int .i64 0,.int .i64 0,.sl []]⟩:=by kernel_rfl
theorem Cu:D2 Tryz.prog 24=some ⟨37,5,72,[.sl [],.int .i64 0,.int .i64 0,.int .i64 0,.sl []]⟩:=by kernel_rfl
theorem BQ:D2 Tryz.prog 32=some ⟨3,1,8,[.int .i64 0]⟩:=by kernel_rfl
theorem BU:D2 Tryz.prog 33=some ⟨35,3,40,[.int .i64 0,.int .i64 0,.sl []]⟩:=by kernel_rfl
theorem Iw:D2 Tryz.prog 78=some ⟨82,1,24,[.sl []]⟩:=by kernel_rfl
theorem UZ:Hd Tryz.prog 26 0=some 0:=by kernel_rfl
theorem KP:Hd Tryz.prog 26 1=some 1:=by kernel_rfl
theorem RN:Hd Tryz.prog 37 0=some 0:=by kernel_rfl
theorem fZ:Hd Tryz.prog 80 0=some 0:=by kernel_rfl
theorem jA:DT Tryz.prog 22=true:=by kernel_rfl
theorem Fp:DT Tryz.prog 32=true:=by kernel_rfl
theorem Pa:DT Tryz.prog 78=true:=by kernel_rfl
theorem YX:D7 Tryz.prog 23=some (false,1):=by kernel_rfl
theorem Oc:D7 Tryz.prog 24=some (false,1):=by kernel_rfl
theorem D8:D7 Tryz.prog 26=some (true,2):=by kernel_rfl
theorem HV:D7 Tryz.prog 3=some (false,1):=by kernel_rfl
theorem JZ:D7 Tryz.prog 32=some (false,1):=by kernel_rfl
theorem BE:D7 Tryz.prog 35=some (true,3):=by kernel_rfl
theorem LA:D7 Tryz.prog 37=some (true,5):=by kernel_rfl
theorem JY:D7 Tryz.prog 80=some (true,3):=by kernel_rfl
theorem OZ:D7 Tryz.prog 82=some (true,1):=by kernel_rfl
theorem DF:ID Tryz.prog 35=some [.int .i64 0,.int .i64 0,.zc]:=by kernel_rfl
theorem Lg:ID Tryz.prog 37=some [.zc,.int .i64 0,.int .i64 0,.int .i64 0,.zc]:=by kernel_rfl
theorem ik:ID Tryz.prog 72=some [.zc,.int .i64 0]:=by kernel_rfl
theorem Gm:ID Tryz.prog 80=some [.int .i64 0,.int .i64 0,.zc]:=by kernel_rfl
theorem QV:ID Tryz.prog 82=some [.zc]:=by kernel_rfl
theorem Q2 {p0:(List Int)}{r:(List Int)×Int}(h0:IU p0=some r):Ab Tryz.prog 26 [ls E4 p0] [] (λv st=>v=BJ/\st=[CV r.1 r.2]):=by
 unfold IU at h0;refine ai Tryz.func26 AA AA AA AA (zr tb AA AA (AG λk c=>bs h0 λg b h0=>?_));have h:∀(a:(List Int)),g=a->∀s,Wk 0 s ⟨11,Aa [(0,ls E4 a)],[]⟩->k s:=by
  intro a o s l;subst g;try dsimp only at h0
  refine c _ (AK l (sr AA λp d=>zq tb AA (zz (.agg [ls E4 a,i64 0]) (C8 ig ie ik AA AA) rfl (Bf (m:=0) AI AA AA AA AA AA (zq tb AA (dn d AA ?_))))));obtain rfl:=Sh.AB h0;exact rt [(2,BJ)]
 refine sr AA λq e=>zq tb AA (zl tb AA AA (zq tb AA (dn e AA ?_)));refine ci b AA ?_ ?_<;>clear b<;>intro t b
 ·exact AH AA (zq tb AA (bs b λn f b=>RR (i:=0) (j:=2000) AI bJ AA AA AA (λ_=>AA) f (zq tb AA (AF (h n (Sh.AB b).symm _ (AJ AA))))))
 ·exact AL (h p0 (Sh.AB b).symm _ (AJ AA))
theorem Dx {p0:(List Int)}{r:Db}(h0:FE p0=some r):Ab Tryz.prog 117 [ls eI p0] [] (λv st=>v=(JN r)/\st=[]):=by
 unfold FE at h0;refine Cj AA (ai Tryz.func117 AA AA AA AA (sr AA λc a=>Av (m:=0) AI QV AA AA (dn a AA (sr AA λd b=>zq tb AA (zz (.agg [ls eI p0]) (C8 eX dH QV AA AA) rfl (Am AI OZ AA AA AA AA AA AA nq rfl (dn b AA ?_)))))));obtain rfl:=Sh.AB h0;exact Aq (Exists.intro _ (And.intro (Wk.refl _ _) (Ar (x:=.tmp 2) (off:=0) (cs:=[ls eI p0]) (vs:=[ls eI p0]) OZ AA AA AA nq rfl _ AA)))
theorem Ay {oR:(List Int)}{oV p1:Int}{r:Int×Int}(h0:Az oR oV p1=some r):Ab Tryz.prog 83 [BJ,i64 p1] [CV oR oV] (λv st=>v=(i64 r.1)/\st=[CV oR r.2]):=by
 unfold Az at h0;refine ai Tryz.func83 AA AA AA AA (zr tb AA AA (sr AA λR z=>zm tb 8 AA (Am AI HV AA AA AA AA AA AA oB rfl (dn z AA (AG λS A=>AG λI B=>bs h0 λG e h0=>?_)))));have H:∀(C:Bool),G=C->∀s,Wk 1 s ⟨99,Aa [(0,BJ),(1,i64 p1),(24,.bool C)],[⟨0,72,2,[[ls E4 oR,KA oV]]⟩]⟩->I s:=by
  intro C T s J;subst G;try dsimp only at h0
  refine B _ (AK J ?_);refine ci h0 AA ?_ ?_<;>clear h0<;>intro U h0
  ·refine zr tb AA AA ?_;obtain rfl:=Sh.AB h0;exact rt [(4,i64 0)]
  ·refine AL (A _ (zr tb AA AA (AG λK f=>sr AA λL g=>zm tb 5 AA (zl tb AA AA (zq tb AA (dn g AA ?_))))));refine ci h0 AA ?_ ?_<;>clear h0<;>intro M h0
   ·refine sr AA λN h=>zm tb 5 AA (bs h0 λD i h0=>zx bJ i AA AA AA (zq tb AA (zz (i64 (Sh.wk .i64 D)) (Zz aD AA) rfl (zq tb AA (bs h0 λj k h0=>zz (i64 j) (R3 AA AA k) rfl (zq tb AA (dn h AA ?_)))))));obtain rfl:=Sh.AB h0;exact rt [(4,i64 j)]
   ·refine AL (f _ (AG λO l=>Cd (by kernel_rfl) (by kernel_rfl) (by rfl) ?_));iterate 9 refine yq tb rfl ?_
    refine yl tb AA AA (bs h0 λE m h0=>yz (i64 E) (R3 AA AA m) rfl (bs h0 λb n h0=>yx bJ n AA AA AA (yq tb AA (yz (i64 (Sh.wk .i64 b)) (Zz aD AA) rfl ?_))));iterate 12 refine yq tb rfl ?_
    refine yl tb AA AA (bs h0 λF o h0=>yz (i64 F) (R3 AA AA o) rfl (bs h0 λc p h0=>yx bJ p AA AA AA (yq tb AA (yz (i64 (Sh.wk .i64 c)) (Zz aD AA) rfl ?_))));iterate 10 refine yq tb rfl ?_
    refine yl tb AA AA (bs h0 λd q h0=>yz (i64 d) (Up AA AA q) rfl ?_);iterate 3 refine yq tb rfl ?_
    refine Aw (l _ (sr AA λP t=>zm tb 2 AA (zz (i64 (Sh.w (Int.tdiv (Sh.w ((Sh.w ((Sh.w ((Sh.w ((Sh.wk .i64 b)*131))+(Sh.w ((Sh.wk .i64 c)*1117))))+(Sh.w ((Sh.w ((Sh.w (oV+1))-1))*29))))+(Sh.w (d*53)))) 64))) (UL AA AA (by decide)) rfl (zz (i64 (Sh.xor (Sh.w ((Sh.w ((Sh.w ((Sh.w ((Sh.wk .i64 b)*131))+(Sh.w ((Sh.wk .i64 c)*1117))))+(Sh.w ((Sh.w ((Sh.w (oV+1))-1))*29))))+(Sh.w (d*53)))) (Sh.w (Int.tdiv (Sh.w ((Sh.w ((Sh.w ((Sh.w ((Sh.wk .i64 b)*131))+(Sh.w ((Sh.wk .i64 c)*1117))))+(Sh.w ((Sh.w ((Sh.w (oV+1))-1))*29))))+(Sh.w (d*53)))) 64)))) (fM AA AA) rfl (zq tb AA (dn t AA (sr AA λQ u=>zm tb 2 AA (bs h0 λx y h0=>zz (i64 x) (R3 AA AA y) rfl (zq tb AA (dn u AA ?_))))))))));obtain rfl:=Sh.AB h0;exact rt [(4,i64 x)]
 refine AH AA (zm tb 3 AA ?_);rcases Sh.Ak e with ⟨a,e⟩|⟨a,e⟩
 ·refine zs a AA ?_;iterate 5 refine zs a rfl ?_
  exact zt a AA (AF (H true (Sh.AB e).symm _ (AJ AA)))
 ·refine zg tb a AA ?_;iterate 3 refine zg tb a rfl ?_
  exact Ba (v:=(G8 oR)) (CW AA AA a) rfl (Ch jA AA) (zg tb a AA (zf a AA (AF (H (decide ((Sh.len oR)=0)) (Sh.AB e).symm _ (AJ AA)))))
theorem MB {oR:(List Int)}{oV:Int}{r:(List AM)×Int}(h0:HE oR oV=some r):Ab Tryz.prog 87 [BJ] [CV oR oV] (λv st=>v=(ow 1 0 r.1)/\st=[CV oR r.2,IP r.1]):=by
 unfold HE at h0;refine ai Tryz.func87 AA AA AA AA (zr tb AA AA (sr AA λT F=>BF (m:=1) (l:=([]:List Int)) (enc:=eI) AI BQ (by decide) rfl AA AA AA AA AA (AR (Wk.BL (L:=[(0,BJ),(8,Q6)]) (st':=[CV oR oV,⟨1,3,1,[]⟩]) (id:=1) rfl oI (AD λ_=>AA) ⟨.rfl,.BL AA,jf⟩ AA) (bs h0 λe G h0=>zc (v':=(JN e)) (hb 117) (Dx G) rfl AA AA (BF (m:=2) (l:=[(0:Int),1]) (enc:=eI) AI BQ (by decide) rfl AA AA AA AA AA (AR (Wk.BL (L:=[(0,BJ),(9,JN e),(10,ls eI [(0:Int),1])]) (st':=((CV oR oV)::Ci [])) (id:=2) rfl nr (AD λ_=>AA) ⟨.rfl,.rfl,.BL AA,jf⟩ AA) (bs h0 λf H h0=>zc (v':=(JN f)) (hb 117) (Dx H) rfl AA AA (BF (m:=3) (l:=[e,f]) (enc:=CC) AI Iw (by decide) rfl AA AA AA AA AA (zz (.agg [i64 0,i64 0,ow 3 0 [e,f]]) (C8 Lj Lf Gm AA AA) rfl (Av (m:=4) AI Gm AA AA (AR (Wk.BL (L:=[(0,BJ),(3,LV),(13,.agg [i64 0,i64 0,ls CC [e,f]])]) (st':=((CV oR oV)::Ci [Lq,⟨0,80,3,[[i64 0,i64 0,.zc]]⟩])) (id:=3) rfl oC (AD λ_=>AA) ⟨.rfl,.rfl,.agg ⟨.rfl,.rfl,.HR AA,jf⟩,jf⟩ AA) (Am AI JY AA AA AA AA AA AA nj rfl (AR (Wk.BL (L:=[(0,BJ),(3,Oh e f)]) (st':=((CV oR oV)::Ci [Lq,NO])) (id:=4) rfl nt (EO AA) (.same AA) rfl) (dn F AA (sr AA λU I=>BF (m:=5) (l:=([]:List Int)) (enc:=eI) AI BQ (by decide) rfl AA AA AA AA AA (AR (Wk.BL (L:=[(0,BJ),(3,Oh e f),(14,Q6)]) (st':=((CV oR oV)::Ci (Yc []))) (id:=5) rfl oD (AD λ_=>AA) ⟨.rfl,.rfl,.BL AA,jf⟩ AA) (bs h0 λg J h0=>zc (v':=(JN g)) (hb 117) (Dx J) rfl AA AA (BF (m:=6) (l:=[(3:Int),0,3]) (enc:=eI) AI BQ (by decide) rfl AA AA AA AA AA (AR (Wk.BL (L:=[(0,BJ),(3,Oh e f),(15,JN g),(16,ls eI [(3:Int),0,3])]) (st':=((CV oR oV)::Ci (Lq::NO::Ci []))) (id:=6) rfl oH (AD λ_=>AA) ⟨.rfl,.rfl,.rfl,.BL AA,jf⟩ AA) (bs h0 λh K h0=>zc (v':=(JN h)) (hb 117) (Dx K) rfl AA AA (BF (m:=7) (l:=[g,h]) (enc:=CC) AI Iw (by decide) rfl AA AA AA AA AA (zz (.agg [i64 0,i64 0,ow 7 0 [g,h]]) (C8 Lj Lf Gm AA AA) rfl (Av (m:=8) AI Gm AA AA (AR (Wk.BL (L:=[(0,BJ),(3,Oh e f),(4,.ptr 8 0 0 0),(19,.agg [i64 0,i64 0,ls CC [g,h]])]) (st':=((CV oR oV)::Ci (Lq::NO::Ci [Lq,⟨0,80,3,[[i64 0,i64 0,.zc]]⟩]))) (id:=7) rfl oL (AD λ_=>AA) ⟨.rfl,.rfl,.rfl,.agg ⟨.rfl,.rfl,.HR AA,jf⟩,jf⟩ AA) (Am AI JY AA AA AA AA AA AA nj rfl (AR (Wk.BL (L:=[(0,BJ),(3,Oh e f),(4,Oh g h)]) (st':=((CV oR oV)::Ci (Lq::NO::Ci [Lq,NO]))) (id:=8) rfl (show 1<=8 by decide) (EO AA) (.same AA) rfl) (dn I AA (sr AA λV M=>BF (m:=9) (l:=[(1:Int),3]) (enc:=eI) AI BQ (by decide) rfl AA AA AA AA AA (AR (Wk.BL (L:=[(0,BJ),(3,Oh e f),(4,Oh g h),(20,ls eI [(1:Int),3])]) (st':=((CV oR oV)::Ci (Lq::NO::Ci (Yc [])))) (id:=9) rfl (show 1<=9 by decide) (AD λ_=>AA) ⟨.rfl,.rfl,.rfl,.BL AA,jf⟩ AA) (bs h0 λi N h0=>zc (v':=(JN i)) (hb 117) (Dx N) rfl AA AA (BF (m:=10) (l:=[i]) (enc:=CC) AI Iw (by decide) rfl AA AA AA AA AA (zz (.agg [i64 0,i64 0,ow 10 0 [i]]) (C8 Lj Lf Gm AA AA) rfl (zz (.agg [i64 1,i64 0,.zc]) (C8 Lj Lf Gm AA AA) rfl (BF (m:=11) (l:=[(1:Int),1,0]) (enc:=eI) AI BQ (by decide) rfl AA AA AA AA AA (AR (Wk.BL (L:=[(0,BJ),(3,Oh e f),(4,Oh g h),(23,.agg [i64 0,i64 0,ow 10 0 [i]]),(24,.agg [i64 1,i64 0,.zc]),(25,ls eI [(1:Int),1,0])]) (st':=((CV oR oV)::Ci (Lq::NO::Ci (Yc [ro 0 82 1 CC [i],⟨1,3,1,[]⟩])))) (id:=11) rfl (show 1<=11 by decide) (AD λ_=>AA) ⟨.rfl,.rfl,.rfl,.agg ⟨.rfl,.rfl,.rfl,jf⟩,.rfl,.BL AA,jf⟩ AA) (bs h0 λa t h0=>zc (v':=(JN a)) (hb 117) (Dx t) rfl AA AA (BF (m:=12) (l:=[(0:Int)]) (enc:=eI) AI BQ (by decide) rfl AA AA AA AA AA (AR (Wk.BL (L:=[(0,BJ),(3,Oh e f),(4,Oh g h),(23,.agg [i64 0,i64 0,ow 10 0 [i]]),(24,.agg [i64 1,i64 0,.zc]),(26,JN a),(27,ls eI [(0:Int)])]) (st':=((CV oR oV)::Ci (Lq::NO::Ci (Yc ((ro 0 82 1 CC [i])::Ci []))))) (id:=12) rfl (show 1<=12 by decide) (AD λ_=>AA) ⟨.rfl,.rfl,.rfl,.agg ⟨.rfl,.rfl,.rfl,jf⟩,.rfl,.rfl,.BL AA,jf⟩ AA) (bs h0 λb u h0=>zc (v':=(JN b)) (hb 117) (Dx u) rfl AA AA (BF (m:=13) (l:=[(3:Int)]) (enc:=eI) AI BQ (by decide) rfl AA AA AA AA AA (AR (Wk.BL (L:=[(0,BJ),(3,Oh e f),(4,Oh g h),(23,.agg [i64 0,i64 0,ow 10 0 [i]]),(24,.agg [i64 1,i64 0,.zc]),(26,JN a),(28,JN b),(29,ls eI [(3:Int)])]) (st':=((CV oR oV)::Ci (Lq::NO::Ci (Yc ((ro 0 82 1 CC [i])::Ci [⟨1,3,1,[]⟩]))))) (id:=13) rfl (show 1<=13 by decide) (AD λ_=>AA) ⟨.rfl,.rfl,.rfl,.agg ⟨.rfl,.rfl,.rfl,jf⟩,.rfl,.rfl,.rfl,.BL AA,jf⟩ AA) (bs h0 λd w h0=>zc (v':=(JN d)) (hb 117) (Dx w) rfl AA AA (BF (m:=14) (l:=[a,b,d]) (enc:=CC) AI Iw (by decide) rfl AA AA AA AA AA (zz (.agg [i64 0,i64 0,ow 14 0 [a,b,d]]) (C8 Lj Lf Gm AA AA) rfl (zz (.agg [i64 0,i64 1,.zc]) (C8 Lj Lf Gm AA AA) rfl (AR (Wk.BL (L:=[(0,BJ),(3,Oh e f),(4,Oh g h),(23,.agg [i64 0,i64 0,ls CC [i]]),(24,.agg [i64 1,i64 0,.zc]),(32,.agg [i64 0,i64 0,ow 14 0 [a,b,d]]),(33,.agg [i64 0,i64 1,.zc])]) (st':=((CV oR oV)::Ci (Lq::NO::Ci (Yc (Lq::Ci [⟨1,3,1,[]⟩,ro 0 82 1 CC [a,b,d]]))))) (id:=10) rfl (show 1<=10 by decide) (AD λ_=>AA) ⟨.rfl,.rfl,.rfl,.agg ⟨.rfl,.rfl,.HR AA,jf⟩,.rfl,.agg ⟨.rfl,.rfl,.rfl,jf⟩,.rfl,jf⟩ AA) (AR (Ag (L:=(gY e f g h i [(32,.agg [i64 0,i64 0,ow 14 0 [a,b,d]]),(33,.agg [i64 0,i64 1,.zc])])) ⟨.rfl,.rfl,.rfl,.rfl,.agg ⟨.rfl,.rfl,.zc,jf⟩,.rfl,.rfl,jf⟩) (AR (Wk.BL (L:=(gY e f g h i [(32,.agg [i64 0,i64 0,ls CC [a,b,d]]),(33,.agg [i64 0,i64 1,.zc])])) (st':=((CV oR oV)::Ci (Lq::NO::Ci (Yc (Lq::Ci [⟨1,3,1,[]⟩,Lq]))))) (id:=14) rfl (show 1<=14 by decide) (AD λ_=>AA) ⟨.rfl,.rfl,.rfl,.rfl,.rfl,.agg ⟨.rfl,.rfl,.HR AA,jf⟩,.rfl,jf⟩ AA) (AR (Ag (L:=(gY e f g h i [(32,.agg [i64 0,i64 0,ls CC [a,b,d]]),(33,.agg [i64 0,i64 1,UF])])) ⟨.rfl,.rfl,.rfl,.rfl,.rfl,.rfl,.agg ⟨.rfl,.rfl,.zc,jf⟩,jf⟩) (BF (m:=15) (l:=([AM.mk 0 0 [i],AM.mk 1 0 [],AM.mk 0 0 [a,b,d],AM.mk 0 1 []])) (enc:=Aj) AI DH (by decide) rfl AA AA AA AA AA (zq tb AA (dn M AA (sr AA λP y=>zq tb AA (zz (.agg [i64 0,i64 0,.zc]) (C8 Lj Lf Gm AA AA) rfl (zq tb AA (AR (Ag (L:=[(0,BJ),(5,.own 15 0 (List.length ([AM.mk 0 0 [i],AM.mk 1 0 [],AM.mk 0 0 [a,b,d],AM.mk 0 1 []]))),(35,.agg [i64 0,i64 0,ls CC [e,f]]),(36,.agg [i64 0,i64 0,UF]),(37,.agg [i64 0,i64 0,ls CC [g,h]])]) ⟨.rfl,.rfl,.rfl,.agg ⟨.rfl,.rfl,.zc,jf⟩,.rfl,jf⟩) (BF (m:=16) (l:=([AM.mk 0 0 [e,f],AM.mk 0 0 [],AM.mk 0 0 [g,h]])) (enc:=Aj) AI DH (by decide) rfl AA AA AA AA AA (zq tb AA (dn y AA (sr AA λQ z=>zq tb AA (bs h0 λj A h0=>CL (rows0:=[CV oR oV]) (rows1:=[CV oR j.2]) (st':=((CV oR j.2)::Ci (Lq::NO::Ci (Yc (Lq::Ci [⟨1,3,1,[]⟩,Lq,ro 0 80 3 Aj ([AM.mk 0 0 [i],AM.mk 1 0 [],AM.mk 0 0 [a,b,d],AM.mk 0 1 []]),ro 0 80 3 Aj ([AM.mk 0 0 [e,f],AM.mk 0 0 [],AM.mk 0 0 [g,h]])]))))) (v':=(i64 j.1)) [0] AI (hb 83) (Ay A) rfl (by decide) rfl AA (.raw AA AA .nil) rfl AA (.raw AA AA .nil) .nil AA AA ?_)))))))))))))))))))))))))))))))))))))))))))))))))))))))))))));refine zq tb AA (dn z AA (AG λO B=>bs h0 λC n h0=>?_));have D:∀(k:(List AM)),C=k->∀s,Wk 1 s ⟨51,Aa [(6,ow 1 0 k)],[CV oR j.2,IP k]⟩->O s:=by
  intro k W s R;subst C;try dsimp only at h0
  refine B _ (AK R (zr tb AA AA ?_));obtain rfl:=Sh.AB h0;exact rt [(2,ow 1 0 k)]
 refine zr tb AA AA ?_;refine ci n AA ?_ ?_<;>clear n<;>intro S n
 ·refine AH AA (zm tb 3 AA (bs n λo p n=>zz (.ptr 15 0 (Int.toNat j.1) 0) (Bz DH AA AA AA AA p) rfl (zz (.agg (Aj o)) (Ar JY AA AA (CU p) nj rfl) rfl (BF (m:=17) (l:=[o]) (enc:=Aj) AI DH (by decide) rfl AA AA AA AA AA (bs n λq E n=>C9 (l2:=[o]) AI DH AA AA AA AA (HO AA AA) (λ_=>AA) E AA (zq tb AA ?_))))));exact AF (D q (Sh.AB n).symm _ (by refine Wk.trans (Dm (L:=[(6,ow 16 0 q)]) (st':=((CV oR j.2)::⟨0,3,1,[]⟩::⟨0,3,1,[]⟩::⟨0,82,1,[]⟩::⟨0,80,3,[]⟩::⟨0,3,1,[]⟩::⟨0,3,1,[]⟩::⟨0,82,1,[]⟩::⟨0,80,3,[]⟩::⟨0,3,1,[]⟩::⟨0,82,1,[]⟩::NS [⟨0,82,1,[]⟩,ro 0 80 3 Aj ([AM.mk 0 0 [i],AM.mk 1 0 [],AM.mk 0 0 [a,b,d],AM.mk 0 1 []]),IP q,ro 0 80 3 Aj [o]])) (.raw AA AA AA (.pure AA (by intro x c;cases c) (.pure AA (by intro x c;cases c) (.pure AA (by intro x c;cases c) (.pure AA (by intro x c;cases c) (.pure AA (by intro x c;cases c) (.pure AA (by intro x c;cases c) (.pure AA (by intro x c;cases c) (.pure AA (by intro x c;cases c) (.pure AA (by intro x c;cases c) (.pure AA (by intro x c;cases c) (.pure AA (by intro x c;cases c) (.pure AA (by intro x c;cases c) (.pure AA (by intro x c;cases c) (.pure AA (by intro x c;cases c) (.pure AA (AD λ_=>AA) (.pure AA (AD λ_=>AA) (.pure AA (AD λ_=>AA) .nil)))))))))))))))))) (.same AA)) ?_;exact AT [0,16] AA (by decide) rfl AA (.raw AA AA (.pure (AD λ_=>AA) .nil)) (.same AA)))
 ·exact AL (D ([AM.mk 0 0 [e,f],AM.mk 0 0 [],AM.mk 0 0 [g,h]]) (Sh.AB n).symm _ (AT [0,16] AA (by decide) rfl AA (.raw AA AA (.pure (AD λ_=>AA) .nil)) (.same AA)))
theorem Df {p0:(List Int)}{p1:Int}{r:Ac}(h0:E0 p0 p1=some r):Ab Tryz.prog 88 [ls eI p0,i64 p1] [] (λv st=>v=(Ft r)/\st=[]):=by
 unfold E0 at h0;refine Cj AA (ai Tryz.func88 AA AA AA AA (sr AA λc a=>Av (m:=0) AI Lg AA AA (dn a AA (sr AA λd b=>zm tb 2 AA (zz (.agg [ls eI p0,i64 p1,i64 0,i64 0,.zc]) (C8 Tb Tc Lg AA AA) rfl (Am AI LA AA AA AA AA AA AA nm rfl (dn b AA ?_)))))));obtain rfl:=Sh.AB h0;exact Aq (Exists.intro _ (And.intro ((Gg (id:=0) (cs:=[ls eI p0,i64 p1,i64 0,i64 0,.zc]) (cs':=[ls eI p0,i64 p1,i64 0,i64 0,RF]) (st':=[⟨0,37,5,[[ls eI p0,i64 p1,i64 0,i64 0,RF]]⟩]) rfl ⟨le.rfl,le.rfl,le.rfl,le.rfl,le.zc,jf⟩ AA AA).trans (Ag (L:=[(4,BJ)]) (.same AA))) (Ar (x:=.tmp 4) (off:=0) (cs:=[ls eI p0,i64 p1,i64 0,i64 0,RF]) (vs:=[ls eI p0,i64 p1,i64 0,i64 0,RF]) LA AA AA AA nm rfl _ AA)))
theorem CE {oR:(List Int)}{oV:Int}{p1:(List Int)}{r:Int×Int}(h0:CA oR oV p1=some r):Ab Tryz.prog 70 [BJ,ls eI p1] [CV oR oV] (λv st=>v=(i64 r.1)/\st=[CV oR r.2]):=by
 unfold CA at h0;refine ai Tryz.func70 AA AA AA AA (zr tb AA AA (sr AA λf a=>zm tb 3 AA (zl tb AA AA (bs h0 λb c h0=>CL (rows0:=[CV oR oV]) (rows1:=[CV oR b.2]) (st':=[CV oR b.2]) (v':=(i64 b.1)) [0] AI (hb 83) (Ay c) rfl (by decide) rfl AA (.raw AA AA .nil) rfl AA (.raw AA AA .nil) .nil AA AA (bs h0 λe d h0=>zx BQ d AA AA AA (zm tb 2 AA (dn a AA ?_)))))));obtain rfl:=Sh.AB h0;exact rt [(4,i64 e)]
theorem S7 {N:Nat}{p0:(List Int)}{p1 r:Int}(h0:Jn N p0 p1=some r):Ab Tryz.prog 118 [ls eI p0,i64 p1] [] (λv st=>v=(i64 r)/\st=[]):=by
 unfold Jn at h0;refine ai Tryz.func118 AA AA AA AA (zr tb AA AA (AG λk f=>zr tb AA AA ?_));obtain⟨g,a,h0⟩:=Sh.Bi h0;have l:∀(_:Unit),g=Sum.inr ()->∀s,Wk 0 s ⟨19,Aa [],[]⟩->k s:=by
  intro _ u s m;subst g;try dsimp only at h0
  refine f _ (AK m (zr tb AA AA ?_));obtain rfl:=Sh.AB h0;exact rt [(4,i64 (-1))]
 refine AU (Ax (σ:=Int) (λn v=>Ey p0 p1 n v=some g) (λe=>⟨19,Aa [(0,ls eI p0),(1,i64 p1),(5,i64 e)],[]⟩) N 0 a (AJ AA) (λ_ j=>by rw[Ey]at j;cases j) ?_);rintro n e a;try dsimp only at a⊢
 rw[Ey]at a;refine AG λx h=>sr AA λy i=>zm tb 2 AA (zl tb AA AA (zq tb AA (dn i AA ?_)));refine ci a AA ?_ ?_<;>clear a<;>intro z a
 ·refine AL (h _ (AG λo b=>AU (sr AA λp c=>zm tb 2 AA (bs a λq d a=>zx BQ d AA AA AA (zm tb 3 AA (dn c AA ?_))))));refine ci a AA ?_ ?_<;>clear a<;>intro t a
  ·refine zr tb AA AA ?_;obtain rfl:=Sh.AB a;try dsimp only[id]at h0
   obtain rfl:=Sh.AB h0;exact rt [(4,i64 e)]
  ·exact AL (b _ (AH AA (zm tb 3 AA (AF (xi (Sh.w (e+1)) a (AJ AA))))))
 ·exact BD (l () (Sh.AB a).symm _ (AJ AA))
theorem Dc {p0:Int}{r:AE}(h0:FK p0=some r):Ab Tryz.prog 115 [i64 p0] [] (λv st=>v=(Bc r)/\st=[]):=by
 unfold FK at h0;refine Cj AA (ai Tryz.func115 AA AA AA AA (sr AA λc a=>Av (m:=0) AI DF AA AA (dn a AA (sr AA λd b=>zq tb AA ?_))));refine BF (m:=1) (l:=([]:List AE)) (enc:=Au) AI BU (by decide) rfl AA (by simp only[List.map,Ai];rfl) rfl AA AA ?_;refine zz (.agg [i64 0,i64 p0,.own 1 0 (List.length ([]:List AE))]) (C8 Oa Oe DF AA AA) rfl (AR (Wk.BL (L:=[(2,BJ),(5,.agg [i64 0,i64 p0,RF])]) (st':=[Iz,CB]) (id:=1) rfl oE (AD Ad) ⟨.rfl,.agg ⟨.rfl,.rfl,.HR AA,jf⟩,jf⟩ AA) (Am AI BE AA AA AA AA AA AA nj rfl (dn b AA ?_)));obtain rfl:=Sh.AB h0;exact Aq (Exists.intro _ (And.intro (Wk.refl _ _) (Ar (x:=.tmp 2) (off:=0) (cs:=[i64 0,i64 p0,RF]) (vs:=[i64 0,i64 p0,RF]) BE AA AA AA nj rfl _ AA)))
theorem P4 {N:Nat}{p0:(List Int)}{p1:Int}{r:(List Int)}(h0:H3 N p0 p1=some r):Ab Tryz.prog 144 [ls eI p0,i64 p1] [] (λv st=>v=(ow 0 0 r)/\st=[Bl r]):=by
 unfold H3 at h0;refine ai Tryz.func144 AA AA AA AA (zr tb AA AA (sr AA λM u=>BF (m:=0) (l:=([]:List Int)) (enc:=eI) AI BQ (by decide) rfl AA AA AA AA AA (zq tb AA (dn u AA (AG λC x=>zr tb AA AA (bs h0 λy a h0=>?_))))));have D:∀(f:(List Int)),y=f->∀s,Wk 0 s ⟨25,Aa [(5,ow 0 0 f)],[Bl f]⟩->C s:=by
  intro f E s z;subst y;try dsimp only at h0
  refine x _ (AK z (zr tb AA AA ?_));obtain rfl:=Sh.AB h0;exact rt [(4,ow 0 0 f)]
 refine AU (Ax (σ:=Int×(List Int)) (λn v=>Dv p0 p1 n v.1 v.2=some y) (λ(d,g)=>⟨25,Aa [(0,ls eI p0),(1,i64 p1),(5,ow 0 0 g),(6,i64 d)],[ro 0 3 1 eI g]⟩) N (0,[]) a (AJ AA) (λ_ B=>by rw[Dv]at B;cases B) ?_);rintro n ⟨d,g⟩ a;try dsimp only at a⊢
 rw[Dv]at a;refine AG λF h=>sr AA λG i=>zm tb 2 AA (zl tb AA AA (zq tb AA (dn i AA ?_)));refine ci a AA ?_ ?_<;>clear a<;>intro H a
 ·refine AL (h _ (AG λA j=>bs a λk c a=>?_));have o:∀(b:(List Int)),k=b->∀s,Wk 0 s ⟨25,Aa [(0,ls eI p0),(1,i64 p1),(5,ow 0 0 b),(6,i64 d)],[Bl b]⟩->A s:=by
   intro b E s z;subst k;try dsimp only at a
   exact j _ (AK z (AH AA (zm tb 3 AA (AF (xi (Sh.w (d+1),b) a (AJ AA))))))
  refine AU (sr AA λI p=>zm tb 2 AA (bs c λJ q c=>zx BQ q AA AA AA (zm tb 3 AA (dn p AA ?_))));refine ci c AA ?_ ?_<;>clear c<;>intro K c
  ·refine AH AA (zm tb 2 AA (BF (m:=1) (l:=[d]) (enc:=eI) AI BQ (by decide) rfl AA AA AA AA AA (bs c λe t c=>C9 (l2:=[d]) AI BQ AA AA AA AA (HO AA AA) (λ_=>AA) t AA (zq tb AA ?_))));exact AF (o e (Sh.AB c).symm _ (by refine Wk.trans (EX (L:=[(0,ls eI p0),(1,i64 p1),(5,ow 0 0 e),(6,i64 d)]) (st':=[Bl e,ro 0 3 1 eI [d]]) (.pure (AD λ_=>AA) (.pure (AD λ_=>AA) .nil)) (.same AA)) ?_;exact AT [0] AA (by decide) rfl AA (.pure (AD λ_=>AA) .nil) (.same AA)))
  ·exact AL (o g (Sh.AB c).symm _ (AJ AA))
 ·exact BD (D g (Sh.AB a).symm _ (AJ AA))
theorem D1 {p0 p1 p2:Int}{r:Bool}(h0:DX p0 p1 p2=some r):Ab Tryz.prog 72 [i64 p0,i64 p1,i64 p2] [] (λv st=>v=(.bool r)/\st=[]):=by
 unfold DX at h0;refine ai Tryz.func72 AA AA AA AA (zr tb AA AA (AG λg d=>bs h0 λe b h0=>?_));have f:∀(c:Bool),e=c->∀s,Wk 0 s ⟨15,Aa [(6,.bool c)],[]⟩->g s:=by
  intro c i s h;subst e;try dsimp only at h0
  refine d _ (AK h ?_);obtain rfl:=Sh.AB h0;exact rt [(6,.bool c)]
 refine AH AA (zm tb 4 AA ?_);rcases Sh.Ak b with ⟨a,b⟩|⟨a,b⟩
 ·exact zg tb a AA (zg tb a AA (zg tb a AA (zt a AA (zq tb AA (AF (f (decide (p0<=p2)) (Sh.AB b).symm _ (AJ AA)))))))
 ·exact zs a AA (zs a AA (zs a AA (zf a AA (zq tb AA (AF (f false (Sh.AB b).symm _ (AJ AA)))))))
theorem JT {p0:(List AM)}{p1:Int}{r:Bool}(h0:Gl p0 p1=some r):Ab Tryz.prog 102 [Ct p0,i64 p1] [] (λv st=>v=(.bool r)/\st=[]):=by
 unfold Gl at h0;refine ai Tryz.func102 AA AA AA AA (zr tb AA AA (AG λj d=>bs h0 λh b h0=>?_));have i:∀(c:Bool),h=c->∀s,Wk 0 s ⟨19,Aa [(4,.bool c)],[]⟩->j s:=by
  intro c l s k;subst h;try dsimp only at h0
  refine d _ (AK k ?_);obtain rfl:=Sh.AB h0;exact rt [(4,.bool c)]
 refine AH AA (zm tb 2 AA (zl tb AA AA (bs b λm e b=>zc (hb 72) (D1 e) rfl AA AA (zq tb AA ?_))));rcases Sh.Ak b with ⟨a,b⟩|⟨a,b⟩
 ·exact zg tb a AA (zg tb a AA (zg tb a AA (bs b λf g b=>Ba (v:=(.Bh (Aj f) 0)) (CW AA AA a) rfl (Cg DH AA AA g AA) (zg tb a AA (zg tb a AA (Ba (v:=(i64 (Sh.len f.cons))) (CW AA AA a) rfl (Ch Pa AA) (zg tb a AA (zt a AA (zq tb AA (AF (i (decide ((Sh.len f.cons)=0)) (Sh.AB b).symm _ (AJ AA))))))))))))
 ·refine zs a AA ?_;iterate 7 refine zs a rfl ?_
  exact zf a AA (zq tb AA (AF (i false (Sh.AB b).symm _ (AJ AA))))
theorem Nj {N:Nat}{p0:(List AM)}{p1 p2 r:Int}(h0:Ii N p0 p1 p2=some r):Ab Tryz.prog 128 [Ct p0,i64 p1,i64 p2] [] (λv st=>v=(i64 r)/\st=[]):=by
 unfold Ii at h0;refine ai Tryz.func128 AA AA AA AA (zr tb AA AA (AG λy m=>zr tb AA AA ?_));obtain⟨o,c,h0⟩:=Sh.Bi h0;have z:∀(_:Unit),o=Sum.inr ()->∀s,Wk 0 s ⟨41,Aa [],[]⟩->y s:=by
  intro _ A s p;subst o;try dsimp only at h0
  refine m _ (AK p (zr tb AA AA ?_));obtain rfl:=Sh.AB h0;exact rt [(6,i64 (-1))]
 refine AU (Ax (σ:=Int) (λn v=>Ew p0 p1 p2 n v=some o) (λi=>⟨41,Aa [(0,ls Aj p0),(1,i64 p1),(2,i64 p2),(7,i64 i)],[]⟩) N 0 c (AJ AA) (λ_ x=>by rw[Ew]at x;cases x) ?_);rintro n i c;try dsimp only at c⊢
 rw[Ew]at c;refine AG λD q=>sr AA λE t=>zm tb 2 AA (zl tb AA AA (zq tb AA (dn t AA ?_)));refine ci c AA ?_ ?_<;>clear c<;>intro F c
 ·refine AL (q _ (AG λB j=>AU (AG λu k=>bs c λl d c=>?_)));have f:∀(g:Bool),l=g->∀s,Wk 0 s ⟨41,Aa [(0,Ct p0),(1,i64 p1),(2,i64 p2),(7,i64 i),(38,.bool g)],[]⟩->u s:=by
   intro g A s p;subst l;try dsimp only at c
   refine k _ (AK p ?_);refine ci c AA ?_ ?_<;>clear c<;>intro C c
   ·refine zr tb AA AA ?_;obtain rfl:=Sh.AB c;try dsimp only[id]at h0
    obtain rfl:=Sh.AB h0;exact rt [(6,KA i)]
   ·exact AL (j _ (AH AA (zm tb 3 AA (AF (xi (Sh.w (i+1)) c (AJ AA))))))
  refine AH AA (zm tb 2 AA (bs d λh e d=>zx DH e AA AA AA (zm tb 2 AA (zl tb AA AA (zm tb 2 AA ?_)))));rcases Sh.Ak d with ⟨a,d⟩|⟨a,d⟩
  ·refine zg tb a AA (zg tb a AA (Ba (v:=(.Bh (Aj h) 0)) (CW AA AA a) rfl (Cg DH AA AA e AA) ?_));iterate 4 refine zg tb a rfl ?_
   refine zt a AA (zq tb AA ?_);rcases Sh.Ak d with ⟨b,d⟩|⟨b,d⟩
   ·refine zg tb b AA (zg tb b AA (Ba (v:=(.Bh (Aj h) 0)) (CW AA AA b) rfl (Cg DH AA AA e AA) ?_));iterate 4 refine zg tb b rfl ?_
    exact zt b AA (AF (f (decide (h.to=p2)) (Sh.AB d).symm _ (AJ AA)))
   ·refine zs b AA ?_;iterate 6 refine zs b rfl ?_
    exact zf b AA (AF (f false (Sh.AB d).symm _ (AJ AA)))
  ·refine zs a AA ?_;iterate 6 refine zs a rfl ?_
   refine zf a AA (zq tb AA ?_);iterate 7 refine zs rfl rfl ?_
   exact zf AA AA (AF (f false (Sh.AB d).symm _ (AJ AA)))
 ·exact BD (z () (Sh.AB c).symm _ (AJ AA))
theorem Mx {N:Nat}{p0:AP}{p1:Int}{r:(List Int)}(h0:Hs N p0 p1=some r):Ab Tryz.prog 147 [H7 p0,i64 p1] [] (λv st=>v=(ow 0 0 r)/\st=[Bl r]):=by
 unfold Hs at h0;refine ai Tryz.func147 AA AA AA AA (sr AA λZ H=>Bf (m:=0) AI AA AA AA AA AA (zq tb AA (dn H AA (sr AA λK2 I=>BF (m:=1) (l:=([]:List Int)) (enc:=eI) AI BQ (by decide) rfl AA AA AA AA AA (zq tb AA (dn I AA (AG λS J=>zr tb AA AA (bs h0 λK b h0=>?_))))))));have T:∀(k:(List Int)),K=k->∀s,Wk 0 s ⟨53,Aa [(5,ow 0 0 k)],[Bl k]⟩->S s:=by
  intro k Q s o;subst K;try dsimp only at h0
  refine J _ (AK o (zr tb AA AA ?_));obtain rfl:=Sh.AB h0;exact rt [(4,ow 0 0 k)]
 refine AU (Ax (σ:=Int×(List Int)) (λn v=>Eb N p0 p1 n v.1 v.2=some K) (λ(f,h)=>⟨53,Aa [(1,i64 p1),(2,.ptr 0 0 0 0),(5,ow 1 0 h),(6,i64 f)],[WC p0.decls p0.funcs,ro 0 3 1 eI h]⟩) N (0,[]) b (AJ AA) (λ_ R=>by rw[Eb]at R;cases R) ?_);rintro n ⟨f,h⟩ b;try dsimp only at b⊢
 rw[Eb]at b;refine AG λU p=>sr AA λV q=>zm tb 3 AA (zl tb AA AA (zq tb AA (dn q AA ?_)));refine ci b AA ?_ ?_<;>clear b<;>intro W b
 ·refine AL (p _ (AG λM t=>bs b λu c b=>?_));have x:∀(d:(List Int)),u=d->∀s,Wk 0 s ⟨53,Aa (aE p1 d f []),[WC p0.decls p0.funcs,Bl d]⟩->M s:=by
   intro d Q s o;subst u;try dsimp only at b
   exact t _ (AK o (AH AA (zm tb 3 AA (AF (xi (Sh.w (f+1),d) b (AJ AA))))))
  refine AU (sr AA λX y=>zm tb 3 AA (bs c λz e c=>zx Cu e AA AA AA (zm tb 2 AA (zl tb AA AA (zq tb AA (dn y AA (AG λO A=>bs c λB g c=>?_)))))));have C:∀(i:Bool),B=i->∀s,Wk 0 s ⟨53,Aa (aE p1 h f [(47,.bool i)]),[WC p0.decls p0.funcs,Bl h]⟩->O s:=by
   intro i Q s o;subst B;try dsimp only at c
   refine A _ (AK o ?_);refine ci c AA ?_ ?_<;>clear c<;>intro Y c
   ·refine AH AA (zm tb 2 AA (BF (m:=2) (l:=[f]) (enc:=eI) AI BQ (by decide) rfl AA AA AA AA AA (bs c λj D c=>C9 (l2:=[f]) AI BQ AA AA AA AA (HO AA AA) (λ_=>AA) D AA (zq tb AA ?_))));exact AF (x j (Sh.AB c).symm _ (by refine Wk.trans (EX (L:=(aE p1 j f [])) (st':=[WC p0.decls p0.funcs,Bl j,ro 0 3 1 eI [f]]) (.raw AA AA (.pure (AD λ_=>AA) (.pure (AD λ_=>AA) .nil))) (.same AA)) ?_;exact AT [0,1] AA (by decide) rfl AA (.raw AA AA (.pure (AD λ_=>AA) .nil)) (.same AA)))
   ·exact AL (x h (Sh.AB c).symm _ (AJ AA))
  refine Cd (by kernel_rfl) (by kernel_rfl) (by rfl) ?_;iterate 3 refine yq tb rfl ?_
  rcases Sh.Ak g with ⟨a,g⟩|⟨a,g⟩
  ·refine yg tb a AA ?_;iterate 4 refine yg tb a rfl ?_
   refine H5 (v:=(.Bh (BS z) 0)) (CW AA AA a) rfl (Cg Cu AA AA e AA) ?_;iterate 4 refine yg tb a rfl ?_
   refine bs g λP E g=>H5 (v:=(.Bh (eI P) 0)) (CW AA AA a) rfl (Cg BQ AA AA E AA) ?_;iterate 4 refine yg tb a rfl ?_
   refine H5 (v:=(.Bh (BS z) 0)) (CW AA AA a) rfl (Cg Cu AA AA e AA) ?_;iterate 2 refine yg tb a rfl ?_
   refine bs g λF G g=>BW (v:=(i64 F)) (CW AA AA a) (hb 128) (Nj G) rfl AA AA ?_;iterate 2 refine yg tb a rfl ?_
   exact yt a AA (Aw (C (decide (F=p1)) (Sh.AB g).symm _ (AJ AA)))
  ·refine ys a AA ?_;iterate 20 refine ys a rfl ?_
   exact yf a AA (Aw (C false (Sh.AB g).symm _ (AJ AA)))
 ·exact BD (T h (Sh.AB b).symm _ (AT [1] AA (by decide) rfl AA (.pure (AD λ_=>AA) .nil) (.same AA)))
theorem Qj {N:Nat}{p0:(List Int)}{p1:Int}{r:Bool}(h0:J1 N p0 p1=some r):Ab Tryz.prog 74 [ls eI p0,i64 p1] [] (λv st=>v=(.bool r)/\st=[]):=by
 unfold J1 at h0;refine ai Tryz.func74 AA AA AA AA (zr tb AA AA (AG λk e=>zr tb AA AA ?_));obtain⟨f,a,h0⟩:=Sh.Bi h0;have l:∀(_:Unit),f=Sum.inr ()->∀s,Wk 0 s ⟨18,Aa [],[]⟩->k s:=by
  intro _ u s m;subst f;try dsimp only at h0
  refine e _ (AK m (zr tb AA AA ?_));obtain rfl:=Sh.AB h0;exact rt [(4,.bool false)]
 refine AU (Ax (σ:=Int) (λn v=>GC p0 p1 n v=some f) (λg=>⟨18,Aa [(0,ls eI p0),(1,i64 p1),(5,i64 g)],[]⟩) N 0 a (AJ AA) (λ_ j=>by rw[GC]at j;cases j) ?_);rintro n g a;try dsimp only at a⊢
 rw[GC]at a;refine AG λx h=>sr AA λy i=>zm tb 2 AA (zl tb AA AA (zq tb AA (dn i AA ?_)));refine ci a AA ?_ ?_<;>clear a<;>intro z a
 ·refine AL (h _ (AG λo b=>AU (sr AA λp c=>zm tb 2 AA (bs a λq d a=>zx BQ d AA AA AA (zm tb 3 AA (dn c AA ?_))))));refine ci a AA ?_ ?_<;>clear a<;>intro t a
  ·refine zr tb AA AA ?_;obtain rfl:=Sh.AB a;try dsimp only[id]at h0
   obtain rfl:=Sh.AB h0;exact rt [(4,.bool true)]
  ·exact AL (b _ (AH AA (zm tb 3 AA (AF (xi (Sh.w (g+1)) a (AJ AA))))))
 ·exact BD (l () (Sh.AB a).symm _ (AJ AA))
theorem JS {N:Nat}{p0:AP}{p1:(List Int)}{p2:Int}{r:Bool}(h0:Gs N p0 p1 p2=some r):Ab Tryz.prog 145 [H7 p0,ls eI p1,i64 p2] [] (λv st=>v=(.bool r)/\st=[]):=by
 unfold Gs at h0;refine ai Tryz.func145 AA AA AA AA (sr AA λq e=>Bf (m:=0) AI AA AA AA AA AA (zq tb AA (dn e AA (AG λn f=>bs h0 λk a h0=>?_))));have g:∀(d:Bool),k=d->∀s,Wk 0 s ⟨24,Aa [(6,.bool d)],[]⟩->n s:=by
  intro d t s o;subst k;try dsimp only at h0
  refine f _ (AK o ?_);obtain rfl:=Sh.AB h0;exact rt [(6,.bool d)]
 refine AH AA (zm tb 3 AA (bs a λu h a=>zc (hb 102) (JT h) rfl AA AA (zm tb 2 AA ?_)));rcases Sh.Ak a with ⟨b,a⟩|⟨b,a⟩
 ·refine zs b AA ?_;iterate 4 refine zs b rfl ?_
  refine zt b AA (zq tb AA ?_);iterate 3 refine zs rfl rfl ?_
  exact zt AA AA (zq tb AA (AF (g true (Sh.AB a).symm _ (Bn _ AA))))
 ·refine zg tb b AA (zg tb b AA (bs a λl i a=>CM (v':=(ow 1 0 l)) (CW AA AA b) (hb 147) (Mx i) rfl AA ⟨(CQ λ_=>AA),jf⟩ AA AA (Ba (v:=(G8 l)) (CW AA AA b) rfl (Cr Fp AA AA AA) (zg tb b AA (zf b AA (zq tb AA ?_))))));rcases Sh.Ak a with ⟨c,a⟩|⟨c,a⟩
  ·exact zs c AA (zs c AA (zs c AA (zt c AA (zq tb AA (AF (g true (Sh.AB a).symm _ (Bn _ AA)))))))
  ·exact zg tb c AA (zg tb c AA (bs a λp j a=>zd c (hb 74) (Qj j) rfl AA AA AA (zf c AA (zq tb AA (AF (g p (Sh.AB a).symm _ (Bn _ AA)))))))
theorem CO {p0:Int}{r:AE}(h0:Ca p0=some r):Ab Tryz.prog 116 [i64 p0] [] (λv st=>v=(Bc r)/\st=[]):=by
 unfold Ca at h0;refine Cj AA (ai Tryz.func116 AA AA AA AA (sr AA λc a=>Av (m:=0) AI DF AA AA (dn a AA (sr AA λd b=>zq tb AA ?_))));refine BF (m:=1) (l:=([]:List AE)) (enc:=Au) AI BU (by decide) rfl AA (by simp only[List.map,Ai];rfl) rfl AA AA ?_;refine zz (.agg [i64 12,i64 p0,.own 1 0 (List.length ([]:List AE))]) (C8 Oa Oe DF AA AA) rfl (AR (Wk.BL (L:=[(2,BJ),(5,.agg [i64 12,i64 p0,RF])]) (st':=[Iz,CB]) (id:=1) rfl oE (AD Ad) ⟨.rfl,.agg ⟨.rfl,.rfl,.HR AA,jf⟩,jf⟩ AA) (Am AI BE AA AA AA AA AA AA nj rfl (dn b AA ?_)));obtain rfl:=Sh.AB h0;exact Aq (Exists.intro _ (And.intro (Wk.refl _ _) (Ar (x:=.tmp 2) (off:=0) (cs:=[i64 12,i64 p0,RF]) (vs:=[i64 12,i64 p0,RF]) BE AA AA AA nj rfl _ AA)))
theorem Ip {N:Nat}{p0:(List AM)}{p1 r:Int}(h0:GU N p0 p1=some r):Ab Tryz.prog 106 [Ct p0,i64 p1] [] (λv st=>v=(i64 r)/\st=[]):=by
 unfold GU at h0;refine ai Tryz.func106 AA AA AA AA ?_;iterate 2 refine zr tb rfl rfl ?_
 refine AG λj e=>zr tb AA AA (bs h0 λf a h0=>?_);have k:∀(n7:Int),f=n7->∀s,Wk 0 s ⟨21,Aa [(5,i64 n7)],[]⟩->j s:=by
  intro n7 q s l;subst f;try dsimp only at h0
  refine e _ (AK l (zr tb AA AA ?_));obtain rfl:=Sh.AB h0;exact rt [(4,i64 n7)]
 refine AU (Ax (σ:=Int×Int) (λn v=>EW p0 p1 n v.1 v.2=some f) (λ(n5,g)=>⟨21,Aa [(0,ls Aj p0),(1,i64 p1),(5,i64 n5),(6,i64 g)],[]⟩) N (0,0) a (AJ AA) (λ_ i=>by rw[EW]at i;cases i) ?_);rintro n ⟨n5,g⟩ a;try dsimp only at a⊢
 rw[EW]at a;refine AG λm b=>zr tb AA AA ?_;refine ci a AA ?_ ?_<;>clear a<;>intro o a
 ·exact AL (b _ (AG λp c=>AU (AH AA (zm tb 3 AA (bs a λh d a=>zx DH d AA AA AA (zm tb 2 AA (zl tb AA AA (zm tb 2 AA (dn c AA (AH AA (zm tb 3 AA (AF (xi (Sh.w (n5+(Sh.len h.cons)),Sh.w (g+1)) a (AJ AA))))))))))))))
 ·exact BD (k n5 (Sh.AB a).symm _ (AJ AA))
theorem IV {N:Nat}{p0:(List AM)}{p1:Int}{r:(List Int)}(h0:GG N p0 p1=some r):Ab Tryz.prog 104 [Ct p0,i64 p1] [] (λv st=>v=(ow 0 0 r)/\st=[Bl r]):=by
 unfold GG at h0;refine ai Tryz.func104 AA AA AA AA (zr tb AA AA (sr AA λK t=>BF (m:=0) (l:=([]:List Int)) (enc:=eI) AI BQ (by decide) rfl AA AA AA AA AA (zq tb AA (dn t AA (AG λM u=>sr AA λO x=>zm tb 2 AA (zl tb AA AA (bs h0 λB y h0=>zc (hb 72) (D1 y) rfl AA AA (zq tb AA (dn x AA ?_)))))))));refine ci h0 AA ?_ ?_<;>clear h0<;>intro C h0
 ·have P:B=false:=by simpa using C
  refine zr tb AA AA ?_;obtain rfl:=Sh.AB h0;exact rt [(4,cQ)]
 ·have Q:B=true:=by simpa using C
  refine AL (u _ (AG λz h=>zr tb AA AA (bs h0 λe a h0=>?_)));have A:∀(c:(List Int)),e=c->∀s,Wk 0 s ⟨35,Aa [(5,ow 0 0 c)],[Bl c]⟩->z s:=by
   intro c R s E;subst e;try dsimp only at h0
   refine h _ (AK E (zr tb AA AA ?_));obtain rfl:=Sh.AB h0;exact rt [(4,ow 0 0 c)]
  refine AU (Ax (σ:=Int×(List Int)) (λn v=>FP N p0 p1 n v.1 v.2=some e) (λ(b,d)=>⟨35,Aa [(0,ls Aj p0),(1,i64 p1),(5,ow 0 0 d),(6,i64 b)],[ro 0 3 1 eI d]⟩) N (0,[]) a (AJ AA) (λ_ D=>by rw[FP]at D;cases D) ?_);rintro n ⟨b,d⟩ a;try dsimp only at a⊢
  rw[FP]at a;refine AG λF i=>sr AA λG j=>zm tb 4 AA (bs a λH k a=>zx DH k AA AA AA (zm tb 2 AA (zl tb AA AA (zq tb AA (dn j AA ?_)))));refine ci a AA ?_ ?_<;>clear a<;>intro I a
  ·refine AL (i _ (AG λJ o=>AU (AH AA (zm tb 4 AA (bs a λf p a=>zc (hb 106) (Ip p) rfl AA AA (zm tb 2 AA (BF (m:=1) (l:=[Sh.w (f+b)]) (enc:=eI) AI BQ (by decide) rfl AA AA AA AA AA (bs a λg q a=>C9 (l2:=[Sh.w (f+b)]) AI BQ AA AA AA AA (HO AA AA) (λ_=>AA) q AA (zq tb AA (dn o AA (AH AA (zm tb 3 AA ?_))))))))))));exact AF (xi (Sh.w (b+1),g) a (by refine Wk.trans (EX (L:=[(0,Ct p0),(1,i64 p1),(5,ow 0 0 g),(6,KA b)]) (st':=[Bl g,ro 0 3 1 eI [Sh.w (f+b)]]) (.pure (AD λ_=>AA) (.pure (AD λ_=>AA) .nil)) (.same AA)) ?_;exact AT [0] AA (by decide) rfl AA (.pure (AD λ_=>AA) .nil) (.same AA)))
  ·exact BD (A d (Sh.AB a).symm _ (AJ AA))
theorem Kr {N:Nat}{p0:(List AM)}{p1 r:Int}(h0:GJ N p0 p1=some r):Ab Tryz.prog 97 [Ct p0,i64 p1] [] (λv st=>v=(i64 r)/\st=[]):=by
 unfold GJ at h0;refine ai Tryz.func97 AA AA AA AA (zr tb AA AA (AG λo i=>zr tb AA AA ?_));obtain⟨j,a,h0⟩:=Sh.Bi h0;have p:∀(_:Unit),j=Sum.inr ()->∀s,Wk 0 s ⟨30,Aa [],[]⟩->o s:=by
  intro _ C s q;subst j;try dsimp only at h0
  refine i _ (AK q (zr tb AA AA ?_));obtain rfl:=Sh.AB h0;exact rt [(4,i64 (-1))]
 refine AU (Ax (σ:=Int) (λn v=>D3 N p0 p1 n v=some j) (λh=>⟨30,Aa [(0,ls Aj p0),(1,i64 p1),(5,i64 h)],[]⟩) N 0 a (AJ AA) (λ_ m=>by rw[D3]at m;cases m) ?_);rintro n h a;try dsimp only at a⊢
 rw[D3]at a;refine AG λD k=>sr AA λE l=>zm tb 2 AA (zl tb AA AA (zq tb AA (dn l AA ?_)));refine ci a AA ?_ ?_<;>clear a<;>intro F a
 ·refine AL (k _ (AG λt b=>AU (sr AA λu c=>zm tb 2 AA (bs a λx d a=>zc (hb 106) (Ip d) rfl AA AA (zq tb AA (dn c AA (sr AA λy e=>zm tb 5 AA (bs a λz f a=>zx DH f AA AA AA (zm tb 2 AA (zl tb AA AA (zm tb 2 AA (bs a λA g a=>zc (hb 72) (D1 g) rfl AA AA (dn e AA ?_)))))))))))));refine ci a AA ?_ ?_<;>clear a<;>intro B a
  ·refine zr tb AA AA ?_;obtain rfl:=Sh.AB a;try dsimp only[id]at h0
   obtain rfl:=Sh.AB h0;exact rt [(4,KA h)]
  ·exact AL (b _ (AH AA (zm tb 3 AA (AF (xi (Sh.w (h+1)) a (AJ AA))))))
 ·exact BD (p () (Sh.AB a).symm _ (AJ AA))
theorem Es {N:Nat}{p0:(List AM)}{p1:Int}{r:(List Int)}(h0:Bu N p0 p1=some r):Ab Tryz.prog 99 [Ct p0,i64 p1] [] (λv st=>v=(ls eI r)/\st=[]):=by
 unfold Bu at h0;refine ai Tryz.func99 AA AA AA AA (zr tb AA AA (sr AA λk c=>zm tb 2 AA (bs h0 λn d h0=>zc (hb 97) (Kr d) rfl AA AA (zq tb AA (dn c AA (AG λo e=>zr tb AA AA ?_))))));refine ci h0 AA ?_ ?_<;>clear h0<;>intro p h0
 ·refine sr AA λq f=>BF (m:=0) (l:=([]:List Int)) (enc:=eI) AI BQ (by decide) rfl AA AA AA AA AA (zq tb AA (dn f AA ?_));obtain rfl:=Sh.AB h0;exact Aq (Exists.intro ⟨27,Aa [(4,Q6)],[]⟩ (And.intro (by refine Wk.trans (Wk.BL (L:=[(4,Q6)]) (st':=S9) (id:=0) rfl np (AD λ_=>AA) ⟨.BL AA,jf⟩ AA) ?_;exact AT [] AA (by decide) rfl AA .nil (.same AA)) (And.intro AA AA)))
 ·refine AL (e _ (AG λs g=>Cd (by kernel_rfl) (by kernel_rfl) (by rfl) ?_));iterate 3 refine yq tb rfl ?_
  refine bs h0 λt h h0=>yx DH h AA AA AA ?_;iterate 6 refine yq tb rfl ?_
  refine bs h0 λi a h0=>BW (v:=(i64 i)) AI (hb 106) (Ip a) rfl AA AA (yq tb AA (bs h0 λj b h0=>yx Iw b AA AA AA ?_));iterate 3 refine yq tb rfl ?_
  refine Aw (g _ ?_);obtain rfl:=Sh.AB h0;exact rt [(4,ls eI j.fields)]
theorem BV {p0 p1:Int}{p2:(List AE)}{r:AE}(h0:Be p0 p1 p2=some r):Ab Tryz.prog 114 (LL p0 p1 p2) [] (λv st=>v=(Bc r)/\st=[]):=by
 unfold Be at h0;refine Cj AA (ai Tryz.func114 AA AA AA AA (sr AA λc a=>Av (m:=0) AI DF AA AA (dn a AA (sr AA λd b=>zm tb 3 AA (zz (DR p0 p1 p2) (C8 Oa Oe DF AA AA) rfl (Am AI BE AA AA AA AA AA AA nj rfl (dn b AA ?_)))))));obtain rfl:=Sh.AB h0;exact Aq (Exists.intro _ (And.intro (Wk.refl _ _) (Ar (x:=.tmp 6) (off:=0) (cs:=(LL p0 p1 p2)) (vs:=(LL p0 p1 p2)) BE AA AA AA nj rfl _ AA)))
theorem NT {oR:(List Int)}{oV:Int}{r:Int×Int}(h0:Ig oR oV=some r):Ab Tryz.prog 143 [BJ] [CV oR oV] (λv st=>v=(i64 r.1)/\st=[CV oR r.2]):=by
 unfold Ig at h0;refine ai Tryz.func143 AA AA AA AA (zr tb AA AA (sr AA λj e=>zm tb 2 AA (bs h0 λb f h0=>CL (rows0:=[CV oR oV]) (rows1:=[CV oR b.2]) (st':=[CV oR b.2]) (v':=(i64 b.1)) [0] AI (hb 83) (Ay f) rfl (by decide) rfl AA (.raw AA AA .nil) rfl AA (.raw AA AA .nil) .nil AA AA (zq tb AA (bs h0 λc g h0=>CL (rows0:=[CV oR b.2]) (rows1:=[CV oR c.2]) (st':=[CV oR c.2]) (v':=(i64 c.1)) [0] AI (hb 83) (Ay g) rfl (by decide) rfl AA (.raw AA AA .nil) rfl AA (.raw AA AA .nil) .nil AA AA (zq tb AA (bs h0 λa h h0=>CL (rows0:=[CV oR c.2]) (rows1:=[CV oR a.2]) (st':=[CV oR a.2]) (v':=(i64 a.1)) [0] AI (hb 83) (Ay h) rfl (by decide) rfl AA (.raw AA AA .nil) rfl AA (.raw AA AA .nil) .nil AA AA (eu (m:=1) (st':=[CV oR a.2,ro 0 3 1 eI [b.1,c.1,0,1,2,-1,3,a.1,999,-998]]) (l:=[b.1,c.1,0,1,2,-1,3,a.1,999,-998]) (enc:=eI) AI BQ (by decide) rfl AA ⟨AA,AA,AA,⟨AA,AA,AA,⟨AA,AA,AA,⟨AA,AA,AA,⟨AA,AA,AA,⟨AA,AA,AA,⟨AA,AA,AA,⟨AA,AA,AA,⟨AA,AA,AA,⟨AA,AA,AA,jf⟩⟩⟩⟩⟩⟩⟩⟩⟩⟩ AA AA AA (AR (Wk.BL (L:=[(3,BJ),(10,ls eI [b.1,c.1,0,1,2,-1,3,a.1,999,-998])]) (st':=[CV oR a.2,⟨1,3,1,[]⟩]) (id:=1) rfl oI (AD λ_=>AA) ⟨.rfl,.BL AA,jf⟩ AA) (bs h0 λd i h0=>CL (rows0:=[CV oR a.2]) (rows1:=[CV oR d.2]) (st':=[CV oR d.2,⟨1,3,1,[]⟩]) (v':=(i64 d.1)) [0] AI (hb 70) (CE i) rfl (by decide) rfl AA (.raw AA AA .nil) rfl AA (.raw AA AA .nil) .nil AA AA (zq tb AA (dn e AA ?_))))))))))));obtain rfl:=Sh.AB h0;exact Aq (xr (AT (L:=[(2,i64 d.1)]) (st':=[CV oR d.2]) [0] AA (by decide) rfl AA (.raw AA AA .nil) ⟨.rfl,jf⟩))
theorem QL {N:Nat}{od:(List Int)->Int->(List Ac)->(List AM)->Int->Option (AE×Int)}(pq :∀{oR:(List Int)} {oV:Int} {s1:(List Ac)} {oT:(List AM)} {p2:Int} {r:AE×Int},od oR oV s1 oT p2=some r->Ab Tryz.prog 146 [BJ,HM oT s1,i64 p2] (CR oR oV s1 []) (λv st=>v=(DR r.1.op r.1.num r.1.kids)/\st=(CR oR r.2 s1 []))){oR:(List Int)}{oV:Int}{s1:(List Ac)}{oT:(List AM)}{p2:Int}{r:AE×Int}(h0:Hq N od oR oV s1 oT p2=some r):Ab Tryz.prog 146 [BJ,HM oT s1,i64 p2] (CR oR oV s1 []) (λv st=>v=(DR r.1.op r.1.num r.1.kids)/\st=(CR oR r.2 s1 [])):=by
 unfold Hq at h0;refine Ab.wk (r0:=(DR r.1.op r.1.num r.1.kids)) (st0:=(CR oR r.2 s1 [I0 r.1.op r.1.num r.1.kids])) (ai Tryz.func146 AA AA AA AA (sr AA λK1 k4=>Bf (m:=2) AI AA AA AA AA AA (Av (m:=3) AI DF AA AA (dn k4 AA (sr AA λK2 k5=>zm tb 3 AA (bs h0 λP k6 h0=>CM (v':=(ow 4 0 P)) AI (hb 104) (IV k6) rfl AA ⟨(CQ λ_=>AA),jf⟩ AA AA (zq tb AA (dn k5 AA (AG λK4 k7=>sr AA λK5 k8=>zq tb AA (zz (G8 P) (Cr Fp AA AA AA) rfl (zq tb AA (dn k8 AA ?_)))))))))))) (De (L:=[(0,DR r.1.op r.1.num r.1.kids)]) (st':=(CR oR r.2 s1 [])) [0,1] AA (by decide) rfl AA (.raw AA (.pure (AD λ_=>AA) jf)) (.same AA));refine ci h0 AA ?_ ?_<;>clear h0<;>intro b6 h0
 ·refine sr AA λK7 k9=>zq tb AA (bs h0 λc8 H h0=>zz (.ptr 4 0 (Int.toNat 0) 0) (Bz BQ AA AA AA AA H) rfl (zz (i64 c8) (Bx HV AA AA (CU H) rfl) rfl (zq tb AA (dn k9 AA (AG λK9 l0=>bs h0 λb0 a h0=>?_)))));have b1:∀(I:Int) (q:Int),b0=(I,q)->∀s,Wk 2 s ⟨118,Aa (MR p2 [(7,ow 4 0 P),(8,i64 I)]),Gb oR q s1 oT [Bl P]⟩->K9 s:=by
   intro I q hq s t;subst b0;try dsimp only at h0
   refine l0 _ (AK t (AG λl1 b2=>bs h0 λb3 a h0=>?_));have b4:∀(g:Int),b3=g->∀s,Wk 2 s ⟨118,Aa ((0,BJ)::Se [(8,i64 g)]),Gb oR q s1 oT []⟩->l1 s:=by
    intro g hq s t;subst b3;try dsimp only at h0
    refine b2 _ (AK t (sr AA λl9 b5=>?_));refine BF (m:=4) (l:=([]:List AE)) (enc:=Au) AI BU (by decide) rfl AA (by simp only[List.map,Ai];rfl) rfl AA AA ?_;refine zq tb AA (dn b5 AA (sr AA λm0 b7=>zm tb 3 AA (bs h0 λJ b8 h0=>zc (hb 99) (Es b8) rfl AA AA (zq tb AA (dn b7 AA (AG λl3 b9=>zr tb AA AA (bs h0 λT a h0=>?_)))))));have l4:∀(u:Int) (y:(List AE)),T=(u,y)->∀s,Wk 2 s ⟨118,Aa [(6,CY),(8,i64 g),(9,ow 3 0 y)],CR oR u s1 [Iz,GW y]⟩->l3 s:=by
     intro u y hq s t;subst T;try dsimp only at h0
     refine b9 _ (AK t (sr AA λm1 c0=>zm tb 2 AA (AR (Wk.BL (L:=[(6,CY),(68,i64 g),(69,GV y)]) (st':=(CR oR u s1 [Iz,CB])) (id:=3) rfl oJ (AD Ad) ⟨.rfl,.rfl,.BL AA,jf⟩ AA) (bs h0 λh c1 h0=>zc (v':=(Bc h)) (hb 114) (BV c1) rfl AA AA (Am AI BE AA AA AA AA AA AA nj rfl (dn c0 AA ?_))))));obtain rfl:=Sh.AB h0;exact Aq (Exists.intro _ (And.intro ((AT (L:=[(6,CY)]) (st':=(CR oR u s1 [I0 h.op h.num h.kids])) [0,1,2] AA (by decide) rfl AA (.raw AA AA (.pure (AD λ_=>AA) (.raw AA AA .nil))) ⟨.rfl,jf⟩).trans (Ag (L:=[(6,CY)]) ⟨.rfl,jf⟩)) (Ar (x:=.tmp 6) (off:=0) (cs:=(FI h)) (vs:=(FI h)) BE AA AA AA nj rfl _ ⟨AA,AA⟩)))
    refine AU (Ax (σ:=Int×Int×(List AE)) (λn v=>Cy oR s1 oT J od n v.1 v.2.1 v.2.2=some T) (λ(z,K,i)=>⟨118,Aa [(0,.ptr 0 0 0 0),(4,.ptr 2 0 0 0),(6,.ptr 3 0 0 0),(8,i64 g),(9,ow 4 0 i),(10,ls eI J),(11,i64 z)],[CV oR K,ro 0 37 5 BS s1,⟨0,26,2,[[ls Aj oT,ow 1 0 s1]]⟩,Iz,ro 0 35 3 Au i]⟩) N (0,q,[]) a (AJ AA) (λ_ hv=>by rw[Cy]at hv;cases hv) ?_);rintro n ⟨z,K,i⟩ a;try dsimp only at a⊢
    rw[Cy]at a;refine AG λm2 c2=>sr AA λm3 c3=>zm tb 2 AA (zl tb AA AA (zq tb AA (dn c3 AA ?_)));refine ci a AA ?_ ?_<;>clear a<;>intro m4 a
    ·refine AL (c2 _ (AG λm5 c4=>AU (Bd (JW s1 oT [Iz,GW i]) 9 (by kernel_rfl) (by kernel_rfl) (by kernel_rfl) (by rfl) (BM (ow 4 0 i) AI AA (λ_ _=>BT AA) (BM BJ AI AA (λ_ _=>BT AA) (BM (HM oT s1) AI AA (λ_ _=>Ar D8 AA AA AA nk rfl) (BM (ls eI J) AI AA (λ_ _=>BT AA) (BM (i64 z) AI AA (λ_ _=>BT AA) (bs a λc5 c6 a=>BM (.Bh (eI c5) 0) AI AA (λ_ _=>Cg BQ AA AA c6 AA) (BM (i64 c5) AI AA (λ_ _=>Hf HV AA AA) (bs a λb c7 a=>Gd (rows0:=(CR oR K s1 [])) (rows1:=(CR oR b.2 s1 [])) (v':=(DR b.1.op b.1.num b.1.kids)) (y0:=(CV oR b.2)) [0,1] AI (hb 146) (pq c7) rfl (by decide) rfl AA (.raw AA AA (.pure (AD λ_=>AA) .nil)) rfl AA (λ_=>(.raw AA AA (.pure (AD λ_=>AA) .nil))) (λ_=>AA) rfl ?_)))))))))));refine FO AI (λx0 zz=>F3 (l:=[b.1]) (enc:=Au) AI BU (by decide) rfl AA AA (by simp only[List.map,Ai];rfl) rfl (AD Ad) (Aw AA)) ?_;exact Ez AA (bs a λU c9 a=>C9 (l2:=[b.1]) AI BU AA AA AA AA Lh DS c9 AA (zq tb AA (dn c4 AA (AH AA (zm tb 3 AA (AF (xi (Sh.w (z+1),b.2,U) a (Dm (L:=((0,BJ)::Se [(8,i64 g),(9,ow 4 0 U),(10,ls eI J),(11,KA z)])) (st':=(Gb oR b.2 s1 oT [GW U])) (.raw AA AA AA (.pure AA (AD λ_=>AA) (.raw AA AA AA (.raw AA AA AA (.pure AA (AD Ad) .nil))))) (.same AA)))))))))
    ·exact BD (l4 K i (Sh.AB a).symm _ (AT [0,1,3,4] AA (by decide) rfl AA (.raw AA AA (.pure (AD λ_=>AA) (.raw AA AA (.pure (AD Ad) .nil)))) (.same AA)))
   refine sr AA λm6 d0=>zm tb 3 AA (bs a λm7 d1 a=>zc (hb 99) (Es d1) rfl AA AA (zq tb AA (bs a λm8 d2 a=>zc (hb 74) (Qj d2) rfl AA AA (dn d0 AA ?_))));refine ci a AA ?_ ?_<;>clear a<;>intro m9 a
   ·exact AH AA (zq tb AA (zz (.ptr 4 0 (Int.toNat 0) 0) (Bz BQ AA AA AA AA H) rfl (zz (i64 c8) (Bx HV AA AA (CU H) rfl) rfl (zq tb AA (AF (b4 c8 (Sh.AB a).symm _ (AT [0,1,2,3] AA (by decide) rfl AA (.raw AA AA (.pure (AD λ_=>AA) (.raw AA AA (.raw AA AA .nil)))) (.same AA))))))))
   ·exact AL (b4 I (Sh.AB a).symm _ (AT [0,1,2,3] AA (by decide) rfl AA (.raw AA AA (.pure (AD λ_=>AA) (.raw AA AA (.raw AA AA .nil)))) (.same AA)))
  refine AG λl5 d3=>bs a λd4 V a=>?_;have d5:∀(W:Bool) (A:Int),d4=(W,A)->∀s,Wk 2 s ⟨118,Aa (MR p2 [(7,ow 4 0 P),(8,i64 c8),(34,.bool W)]),Gb oR A s1 oT [Bl P]⟩->l5 s:=by
   intro W A hq s t;subst d4;try dsimp only at a
   refine d3 _ (AK t ?_);refine ci a AA ?_ ?_<;>clear a<;>intro q0 a
   ·exact AH AA (zq tb AA (bs a λd6 Q a=>zz (.ptr 4 0 (Int.toNat 1) 0) (Bz BQ AA AA AA AA Q) rfl (zz (i64 d6) (Bx HV AA AA (CU Q) rfl) rfl (zq tb AA (AF (b1 d6 A (Sh.AB a).symm _ (AJ AA)))))))
   ·exact AL (b1 c8 A (Sh.AB a).symm _ (AJ AA))
  refine AH AA (zq tb AA (zz (G8 P) (Cr Fp AA AA AA) rfl (zm tb 2 AA ?_)));rcases Sh.Ak V with ⟨c,V⟩|⟨c,V⟩
  ·exact zg tb c AA (bs V λB d7 V=>CL (rows0:=[CV oR oV]) (rows1:=[CV oR B.2]) (st':=(Gb oR B.2 s1 oT [Bl P])) (v':=(i64 B.1)) [0] (CW AA AA c) (hb 83) (Ay d7) rfl (by decide) rfl AA (.raw AA AA .nil) rfl AA (.raw AA AA .nil) .nil AA AA (zg tb c AA (zt c AA (AF (d5 (decide (B.1=0)) B.2 (Sh.AB V).symm _ (AJ AA))))))
  ·exact zs c AA (zs c AA (zs c AA (zf c AA (AF (d5 false oV (Sh.AB V).symm _ (AJ AA))))))
 ·refine AL (k7 _ (sr AA λq1 d8=>zm tb 2 AA (bs h0 λf d9 h0=>L3 (v':=(ow 5 0 f)) AI (hb 147) (Mx d9) rfl (.agg (.val AA (.own AA AA (λ_=>AA) .nil)) (.val AA .nil)) rfl (gI (λ_=>AA) jf) rfl AA (zq tb AA (dn d8 AA (AG λq2 g0=>AG λl6 g1=>bs h0 λg2 a h0=>?_))))));have g3:∀(X:Bool),g2=X->∀s,Wk 2 s ⟨118,Aa ((0,BJ)::Se [(12,ow 4 0 f),(80,.bool X)]),Gb oR oV s1 oT [Bl f]⟩->l6 s:=by
   intro X hq s t;subst g2;try dsimp only at h0
   refine g1 _ (AK t ?_);refine ci h0 AA ?_ ?_<;>clear h0<;>intro q4 h0
   ·refine sr AA λq5 g4=>zm tb 3 AA (zz (G8 f) (Cr Fp AA AA AA) rfl (bs h0 λC g5 h0=>CL (rows0:=[CV oR oV]) (rows1:=[CV oR C.2]) (st':=(Gb oR C.2 s1 oT [Bl f])) (v':=(i64 C.1)) [0] AI (hb 83) (Ay g5) rfl (by decide) rfl AA (.raw AA AA .nil) rfl AA (.raw AA AA .nil) .nil AA AA (bs h0 λj R h0=>zz (Ty C.1) (Bz BQ AA AA AA AA R) rfl (zz (i64 j) (Bx HV AA AA (CU R) rfl) rfl (zq tb AA (dn g4 AA (sr AA λq6 g6=>zm tb 3 AA (bs h0 λD S h0=>zz (LR j) (Bz Cu AA AA AA AA S) rfl (zq tb AA (zz (ls eI D.params) (Bx JZ AA AA (CU S) rfl) rfl (zq tb AA (dn g6 AA (sr AA λq7 g7=>?_)))))))))))));refine BF (m:=5) (l:=([]:List AE)) (enc:=Au) AI BU (by decide) rfl AA (by simp only[List.map,Ai];rfl) rfl AA AA ?_;refine zq tb AA (dn g7 AA (AG λl7 g8=>zr tb AA AA (bs h0 λY a h0=>?_)));have l8:∀(E:Int) (F:(List AE)),Y=(E,F)->∀s,Wk 2 s ⟨118,Aa [(6,CY),(13,i64 j),(15,ow 3 0 F)],CR oR E s1 [Iz,GW F]⟩->l7 s:=by
     intro E F hq s t;subst Y;try dsimp only at h0
     refine g8 _ (AK t (sr AA λq8 g9=>zm tb 2 AA (AR (Wk.BL (L:=[(6,CY),(112,i64 j),(113,GV F)]) (st':=(CR oR E s1 [Iz,CB])) (id:=3) rfl oJ (AD Ad) ⟨.rfl,.rfl,.BL AA,jf⟩ AA) (bs h0 λk h3 h0=>zc (v':=(Bc k)) (hb 114) (BV h3) rfl AA AA (Am AI BE AA AA AA AA AA AA nj rfl (dn g9 AA ?_))))));obtain rfl:=Sh.AB h0;exact Aq (Exists.intro _ (And.intro ((AT (L:=[(6,CY)]) (st':=(CR oR E s1 [I0 k.op k.num k.kids])) [0,1,2] AA (by decide) rfl AA (.raw AA AA (.pure (AD λ_=>AA) (.raw AA AA .nil))) ⟨.rfl,jf⟩).trans (Ag (L:=[(6,CY)]) ⟨.rfl,jf⟩)) (Ar (x:=.tmp 6) (off:=0) (cs:=(FI k)) (vs:=(FI k)) BE AA AA AA nj rfl _ ⟨AA,AA⟩)))
    refine AU (Ax (σ:=Int×Int×(List AE)) (λn v=>Dr D oR s1 oT od n v.1 v.2.1 v.2.2=some Y) (λ(G,M,o)=>⟨118,Aa [(0,.ptr 0 0 0 0),(4,.ptr 2 0 0 0),(6,.ptr 3 0 0 0),(13,i64 j),(14,ls eI D.params),(15,ow 4 0 o),(16,i64 G)],[CV oR M,ro 0 37 5 BS s1,⟨0,26,2,[[ls Aj oT,ow 1 0 s1]]⟩,Iz,ro 0 35 3 Au o]⟩) N (0,C.2,[]) a (AT [0,1,2,3,5] AA (by decide) rfl AA (.raw AA AA (.pure (AD λ_=>AA) (.raw AA AA (.raw AA AA (.pure (AD Ad) .nil))))) (.same AA)) (λ_ hv=>by rw[Dr]at hv;cases hv) ?_);rintro n ⟨G,M,o⟩ a;try dsimp only at a⊢
    rw[Dr]at a;refine AG λq9 h4=>sr AA λt0 h5=>zm tb 3 AA (zl tb AA AA (zq tb AA (dn h5 AA ?_)));refine ci a AA ?_ ?_<;>clear a<;>intro t1 a
    ·refine AL (h4 _ (AG λt2 h6=>AU (Bd (JW s1 oT [Iz,GW o]) 9 (by kernel_rfl) (by kernel_rfl) (by kernel_rfl) (by rfl) (BM (ow 4 0 o) AI AA (λ_ _=>BT AA) (BM BJ AI AA (λ_ _=>BT AA) (BM (HM oT s1) AI AA (λ_ _=>Ar D8 AA AA AA nk rfl) (BM (ls eI D.params) AI AA (λ_ _=>BT AA) (BM (i64 G) AI AA (λ_ _=>BT AA) (bs a λh7 h8 a=>BM (.Bh (eI h7) 0) AI AA (λ_ _=>Cg BQ AA AA h8 AA) (BM (i64 h7) AI AA (λ_ _=>Hf HV AA AA) (bs a λd h9 a=>Gd (rows0:=(CR oR M s1 [])) (rows1:=(CR oR d.2 s1 [])) (v':=(DR d.1.op d.1.num d.1.kids)) (y0:=(CV oR d.2)) [0,1] AI (hb 146) (pq h9) rfl (by decide) rfl AA (.raw AA AA (.pure (AD λ_=>AA) .nil)) rfl AA (λ_=>(.raw AA AA (.pure (AD λ_=>AA) .nil))) (λ_=>AA) rfl ?_)))))))))));refine FO AI (λx0 zz=>F3 (l:=[d.1]) (enc:=Au) AI BU (by decide) rfl AA AA (by simp only[List.map,Ai];rfl) rfl (AD Ad) (Aw AA)) ?_;exact Ez AA (bs a λZ k0 a=>C9 (l2:=[d.1]) AI BU AA AA AA AA Lh DS k0 AA (zq tb AA (dn h6 AA (AH AA (zm tb 3 AA (AF (xi (Sh.w (G+1),d.2,Z) a (Dm (L:=((0,BJ)::Se [(13,i64 j),(14,ls eI D.params),(15,ow 4 0 Z),(16,KA G)])) (st':=(Gb oR d.2 s1 oT [GW Z])) (.raw AA AA AA (.pure AA (AD λ_=>AA) (.raw AA AA AA (.raw AA AA AA (.pure AA (AD Ad) .nil))))) (.same AA)))))))))
    ·exact BD (l8 M o (Sh.AB a).symm _ (AT [0,1,3,4] AA (by decide) rfl AA (.raw AA AA (.pure (AD λ_=>AA) (.raw AA AA (.pure (AD Ad) .nil)))) (.same AA)))
   ·refine AL (g0 _ (sr AA λt3 k1=>zq tb AA (bs h0 λO k2 h0=>CL (rows0:=[CV oR oV]) (rows1:=[CV oR O.2]) (st':=(Gb oR O.2 s1 oT [Bl f])) (v':=(i64 O.1)) [0] AI (hb 143) (NT k2) rfl (by decide) rfl AA (.raw AA AA .nil) rfl AA (.raw AA AA .nil) .nil AA AA (bs h0 λp k3 h0=>zc (v':=(Bc p)) (hb 115) (Dc k3) rfl AA AA (Am AI BE AA AA AA AA AA AA nj rfl (dn k1 AA ?_))))));obtain rfl:=Sh.AB h0;exact Aq (Exists.intro _ (And.intro ((AT (L:=[(6,CY)]) (st':=(CR oR O.2 s1 [I0 p.op p.num p.kids])) [0,1,3] AA (by decide) rfl AA (.raw AA AA (.pure (AD λ_=>AA) (.raw AA AA .nil))) ⟨.rfl,jf⟩).trans (Ag (L:=[(6,CY)]) ⟨.rfl,jf⟩)) (Ar (x:=.tmp 6) (off:=0) (cs:=(FI p)) (vs:=(FI p)) BE AA AA AA nj rfl _ ⟨AA,AA⟩)))
  refine AH AA (zm tb 3 AA ?_);rcases Sh.Ak a with ⟨e,a⟩|⟨e,a⟩
  ·exact zg tb e AA (Ba (v:=(G8 f)) (CW AA AA e) rfl (Cr Fp AA AA AA) (zg tb e AA (zt e AA (AF (g3 (decide (0<(Sh.len f))) (Sh.AB a).symm _ (AT [0,1,2,3,5] AA (by decide) rfl AA (.raw AA AA (.pure (AD λ_=>AA) (.raw AA AA (.raw AA AA (.pure (AD λ_=>AA) .nil))))) (.same AA)))))))
  ·exact zs e AA (zs e AA (zs e AA (zf e AA (AF (g3 false (Sh.AB a).symm _ (AT [0,1,2,3,5] AA (by decide) rfl AA (.raw AA AA (.pure (AD λ_=>AA) (.raw AA AA (.raw AA AA (.pure (AD λ_=>AA) .nil))))) (.same AA)))))))
theorem QB {N:Nat}:∀(n:Nat),∀{oR:(List Int)} {oV:Int} {s1:(List Ac)} {oT:(List AM)} {p2:Int} {r:AE×Int},Dd N n oR oV s1 oT p2=some r->Ab Tryz.prog 146 [BJ,HM oT s1,i64 p2] (CR oR oV s1 []) (λv st=>v=(DR r.1.op r.1.num r.1.kids)/\st=(CR oR r.2 s1 [])):=by
 intro n
 induction n with
 | zero=>intro oR oV s1 oT p2 r a;cases a
 | succ n ih=>
  intro oR oV s1 oT p2 r a;rw[Dd]at a;exact QL (λh=>ih h) a
theorem RY {N:Nat}:∀{oR:(List Int)} {oV:Int} {s1:(List Ac)} {oT:(List AM)} {p2:Int} {r:AE×Int},MM N oR oV s1 oT p2=some r->Ab Tryz.prog 146 [BJ,HM oT s1,i64 p2] (CR oR oV s1 []) (λv st=>v=(DR r.1.op r.1.num r.1.kids)/\st=(CR oR r.2 s1 [])):=by
 intro oR oV s1 oT p2 r a;exact QB N a
theorem Ik {N:Nat}{oR:(List Int)}{oV:Int}{s1:(List Ac)}{oT:(List AM)}{p2:(List Int)}{p3:Int}{r:AE×Int}(h0:HY N oR oV s1 oT p2 p3=some r):Ab Tryz.prog 136 [BJ,HM oT s1,ls eI p2,i64 p3] (CR oR oV s1 []) (λv st=>v=(DR r.1.op r.1.num r.1.kids)/\st=(CR oR r.2 s1 [])):=by
 unfold HY at h0;refine Ab.wk (r0:=(DR r.1.op r.1.num r.1.kids)) (st0:=(CR oR r.2 s1 [I0 r.1.op r.1.num r.1.kids])) (ai Tryz.func136 AA AA AA AA (sr AA λM y=>Bf (m:=2) AI AA AA AA AA AA (Av (m:=3) AI DF AA AA (dn y AA (sr AA λO z=>zm tb 2 AA (bs h0 λg A h0=>CM (v':=(ow 4 0 g)) AI (hb 144) (P4 A) rfl AA ⟨(CQ λ_=>AA),jf⟩ AA AA (zq tb AA (dn z AA (AG λP B=>AG λH C=>bs h0 λG e h0=>?_))))))))) (De (L:=[(0,DR r.1.op r.1.num r.1.kids)]) (st':=(CR oR r.2 s1 [])) [0,1] AA (by decide) rfl AA (.raw AA (.pure (AD λ_=>AA) jf)) (.same AA));have D:∀(E:Bool) (k:Int),G=(E,k)->∀s,Wk 2 s ⟨40,Aa [(0,BJ),(3,i64 p3),(5,CY),(8,HN),(9,ow 4 0 g),(27,.bool E)],Gb oR k s1 oT [Bl g]⟩->H s:=by
  intro E k Q s I;subst G;try dsimp only at h0
  refine C _ (AK I ?_);refine ci h0 AA ?_ ?_<;>clear h0<;>intro R h0
  ·refine sr AA λJ n=>zm tb 3 AA (zz (G8 g) (Cr Fp AA AA AA) rfl (bs h0 λh o h0=>CL (rows0:=[CV oR k]) (rows1:=[CV oR h.2]) (st':=(Gb oR h.2 s1 oT [Bl g])) (v':=(i64 h.1)) [0] AI (hb 83) (Ay o) rfl (by decide) rfl AA (.raw AA AA .nil) rfl AA (.raw AA AA .nil) .nil AA AA (bs h0 λF i h0=>zz (Ty h.1) (Bz BQ AA AA AA AA i) rfl (zz (i64 F) (Bx HV AA AA (CU i) rfl) rfl (bs h0 λf p h0=>zc (v':=(Bc f)) (hb 116) (CO p) rfl AA AA (Am AI BE AA AA AA AA AA AA nj rfl (dn n AA ?_)))))));obtain rfl:=Sh.AB h0;exact Aq (Exists.intro _ (And.intro ((AT (L:=[(8,CY)]) (st':=(CR oR h.2 s1 [I0 f.op f.num f.kids])) [0,1,3] AA (by decide) rfl AA (.raw AA AA (.pure (AD λ_=>AA) (.raw AA AA .nil))) ⟨.rfl,jf⟩).trans (Ag (L:=[(8,CY)]) ⟨.rfl,jf⟩)) (Ar (x:=.tmp 8) (off:=0) (cs:=(FI f)) (vs:=(FI f)) BE AA AA AA nj rfl _ ⟨AA,AA⟩)))
  ·refine AL (B _ (sr AA λK q=>zm tb 3 AA (bs h0 λa t h0=>CL (rows0:=(CR oR k s1 [])) (rows1:=(CR oR a.2 s1 [])) (st':=(Gb oR a.2 s1 oT [Bl g])) (v':=(DR a.1.op a.1.num a.1.kids)) [0,1] AI (hb 146) (RY t) rfl (by decide) rfl AA (.raw AA AA (.pure (AD λ_=>AA) .nil)) rfl AA (.raw AA AA (.pure (AD λ_=>AA) .nil)) .nil AA AA (Am AI BE AA AA AA AA AA AA nj rfl (dn q AA ?_)))));obtain rfl:=Sh.AB h0;exact Aq (Exists.intro _ (And.intro ((AT (L:=[(8,CY)]) (st':=(CR oR a.2 s1 [I0 a.1.op a.1.num a.1.kids])) [0,1,3] AA (by decide) rfl AA (.raw AA AA (.pure (AD λ_=>AA) (.raw AA AA .nil))) ⟨.rfl,jf⟩).trans (Ag (L:=[(8,CY)]) ⟨.rfl,jf⟩)) (Ar (x:=.tmp 8) (off:=0) (cs:=(LL a.1.op a.1.num a.1.kids)) (vs:=(LL a.1.op a.1.num a.1.kids)) BE AA AA AA nj rfl _ ⟨AA,AA⟩)))
 refine AH AA (zq tb AA (zz (G8 g) (Cr Fp AA AA AA) rfl (zm tb 2 AA ?_)));rcases Sh.Ak e with ⟨b,e⟩|⟨b,e⟩
 ·refine zg tb b AA (bs e λd u e=>CL (rows0:=[CV oR oV]) (rows1:=[CV oR d.2]) (st':=(Gb oR d.2 s1 oT [Bl g])) (v':=(i64 d.1)) [0] (CW AA AA b) (hb 83) (Ay u) rfl (by decide) rfl AA (.raw AA AA .nil) rfl AA (.raw AA AA .nil) .nil AA AA (zg tb b AA (zg tb b AA ?_)));rcases Sh.Ak e with ⟨c,e⟩|⟨c,e⟩
  ·refine zs c AA ?_;iterate 4 refine zs c rfl ?_
   exact Ba (v:=(.bool true)) (CW AA AA b) rfl (KV AA c AA) (zt b AA (AF (D true d.2 (Sh.AB e).symm _ (AJ AA))))
  ·exact zg tb c AA (BF (m:=5) (l:=([]:List Int)) (enc:=eI) (CW AA AA c) BQ (by decide) rfl AA AA AA AA AA (zg tb c AA (AR (Wk.BL (L:=[(0,BJ),(3,i64 p3),(5,CY),(8,HN),(9,ow 4 0 g),(16,.bool (decide (0<(Sh.len g)))),(20,.bool (decide (0<d.1))),(21,HM oT s1),(22,Q6),(23,i64 p3)]) (st':=(Gb oR d.2 s1 oT [Bl g,⟨1,3,1,[]⟩])) (id:=5) rfl ny (AD λ_=>AA) ⟨.rfl,.rfl,.rfl,.rfl,.rfl,.rfl,.rfl,.agg ⟨.rfl,.rfl,jf⟩,.BL AA,.rfl,jf⟩ AA) (bs e λj w e=>L3 (v':=(.bool j)) (CW AA AA c) (hb 145) (JS w) rfl (.agg (.val AA (.own AA AA (λ_=>AA) .nil)) (.val AA (.val AA .nil))) rfl jf AA AA (zg tb c AA (Ba (v:=(.bool (!j))) (CW AA AA b) rfl (Kx AA c AA) (zt b AA (AF (D (!j) d.2 (Sh.AB e).symm _ (AT [0,1,2,3,4] AA (by decide) rfl AA (.raw AA AA (.pure (AD λ_=>AA) (.raw AA AA (.raw AA AA (.pure (AD λ_=>AA) .nil))))) (.same AA)))))))))))
 ·refine zs b AA ?_;iterate 3 refine zs b rfl ?_
  iterate 5 refine zn rfl ?_
  exact zs b AA (zf b AA (AF (D false oV (Sh.AB e).symm _ (AJ AA))))
theorem S8 {N:Nat}{oR:(List Int)}{oV:Int}{s1:(List Ac)}{oT:(List AM)}{p2:(List Int)}{r:Int×Int}(h0:Jk N oR oV s1 oT p2=some r):Ab Tryz.prog 138 [BJ,HM oT s1,ls eI p2] (CR oR oV s1 []) (λv st=>v=(i64 r.1)/\st=(CR oR r.2 s1 [])):=by
 unfold Jk at h0;refine ai Tryz.func138 AA AA AA AA (sr AA λt f=>Bf (m:=2) AI AA AA AA AA AA (zq tb AA (dn f AA (sr AA λu g=>zq tb AA (BF (m:=3) (l:=[(1:Int),1,3,0,2,4,3]) (enc:=eI) AI BQ (by decide) rfl AA AA AA AA AA (AR (Wk.BL (L:=[(2,ls eI p2),(4,CY),(8,BJ),(9,ls eI [(1:Int),1,3,0,2,4,3])]) (st':=(CR oR oV s1 [Zd oT s1,⟨1,3,1,[]⟩])) (id:=3) rfl oJ (AD λ_=>AA) ⟨.rfl,.rfl,.rfl,.BL AA,jf⟩ AA) (bs h0 λc h h0=>CL (rows0:=[CV oR oV]) (rows1:=[CV oR c.2]) (st':=(CR oR c.2 s1 [Zd oT s1,⟨1,3,1,[]⟩])) (v':=(i64 c.1)) [0] AI (hb 70) (CE h) rfl (by decide) rfl AA (.raw AA AA .nil) rfl AA (.raw AA AA .nil) .nil AA AA (zq tb AA (dn g AA (AG λw i=>AG λp j=>bs h0 λn b h0=>?_))))))))));have o:∀(k:Bool),n=k->∀s,Wk 2 s ⟨24,Aa [(7,i64 c.1),(22,.bool k)],CR oR c.2 s1 []⟩->p s:=by
  intro k x s q;subst n;try dsimp only at h0
  refine j _ (AK q ?_);refine ci h0 AA ?_ ?_<;>clear h0<;>intro y h0
  ·refine zr tb AA AA ?_;obtain rfl:=Sh.AB h0;exact rt [(6,i64 1)]
  ·refine AL (i _ (zr tb AA AA ?_));obtain rfl:=Sh.AB h0;exact rt [(6,i64 c.1)]
 refine AH AA (zm tb 3 AA (zl tb AA AA (zm tb 2 AA ?_)));rcases Sh.Ak b with ⟨a,b⟩|⟨a,b⟩
 ·refine zs a AA ?_;iterate 4 refine zs a rfl ?_
  exact zt a AA (AF (o true (Sh.AB b).symm _ (AT [0,1] AA (by decide) rfl AA (.raw AA AA (.pure (AD λ_=>AA) .nil)) (.same AA))))
 ·exact zg tb a AA (zg tb a AA (zg tb a AA (bs b λd e b=>L3 (v':=(.bool d)) (CW AA AA a) (hb 145) (JS e) rfl (.agg (.val AA (.own AA AA (λ_=>AA) .nil)) (.val AA (.val AA .nil))) rfl jf AA AA (zg tb a AA (zf a AA (AF (o (!d) (Sh.AB b).symm _ (AT [0,1] AA (by decide) rfl AA (.raw AA AA (.pure (AD λ_=>AA) .nil)) (.same AA)))))))))
theorem KE {p0:(List Int)}{r:(List Int)}(h0:FJ p0=some r):Ab Tryz.prog 62 [ls eI p0] [] (λv st=>v=(ow 0 0 r)/\st=[Bl r]):=by
 unfold FJ at h0;refine ai Tryz.func62 AA AA AA AA (zr tb AA AA (sr AA λd a=>BF (m:=0) (l:=([]:List Int)) (enc:=eI) AI BQ (by decide) rfl AA AA AA AA AA (zq tb AA (bs h0 λc b h0=>C9 (l2:=p0) AI BQ AA AA AA AA Lh (λ_=>AA) b AA (zq tb AA (dn a AA ?_))))));obtain rfl:=Sh.AB h0;exact Aq (xr (EX (L:=[(2,ow 0 0 c)]) (st':=[Bl c]) (.pure (AD λ_=>AA) .nil) (.same AA)))
theorem FV {p0:(List Int)}{p1:(List Int)}{r:(List Int)}(h0:Ea p0 p1=some r):Ab Tryz.prog 85 [ls eI p0,ls eI p1] [] (λv st=>v=(ow 0 0 r)/\st=[Bl r]):=by
 unfold Ea at h0;refine ai Tryz.func85 AA AA AA AA (zr tb AA AA (sr AA λf a=>zq tb AA (bs h0 λe b h0=>CM (v':=(ow 0 0 e)) AI (hb 62) (KE b) rfl AA ⟨(CQ λ_=>AA),jf⟩ AA AA (zq tb AA (bs h0 λd c h0=>C9 (l2:=p1) AI BQ AA AA AA AA Lh (λ_=>AA) c AA (zq tb AA (dn a AA ?_)))))));obtain rfl:=Sh.AB h0;exact Aq (xr (EX (L:=[(4,ow 0 0 d)]) (st':=[Bl d]) (.pure (AD λ_=>AA) .nil) (.same AA)))
theorem IX {N:Nat}{oX:(List Int)->Int->(List Ac)->(List AM)->(List Int)->Int->Int->Option (AE×Int)}(om :∀{oR:(List Int)} {oV:Int} {s1:(List Ac)} {oT:(List AM)} {p2:(List Int)} {p3:Int} {p4:Int} {r:AE×Int},oX oR oV s1 oT p2 p3 p4=some r->Ab Tryz.prog 134 (V4 oT s1 p2 p3 p4) (CR oR oV s1 []) (λv st=>v=(DR r.1.op r.1.num r.1.kids)/\st=(CR oR r.2 s1 []))){oR:(List Int)}{oV:Int}{s1:(List Ac)}{oT:(List AM)}{p2:(List Int)}{p3:(List Int)}{p4:Int}{r:(List AE)×Int}(h0:Fk N oX oR oV s1 oT p2 p3 p4=some r):Ab Tryz.prog 139 [BJ,HM oT s1,ls eI p2,ls eI p3,i64 p4] (CR oR oV s1 []) (λv st=>v=(ow 2 0 r.1)/\st=(CR oR r.2 s1 [GW r.1])):=by
 unfold Fk at h0;refine ai Tryz.func139 AA AA AA AA (sr AA λK x=>Bf (m:=2) AI AA AA AA AA AA (zq tb AA (dn x AA (sr AA λM y=>?_))));refine BF (m:=3) (l:=([]:List AE)) (enc:=Au) AI BU (by decide) rfl AA (by simp only[List.map,Ai];rfl) rfl AA AA ?_;refine zq tb AA (dn y AA (AG λE z=>zr tb AA AA (bs h0 λc b h0=>?_)));have A:∀(B:Int) (f:(List AE)),c=(B,f)->∀s,Wk 2 s ⟨36,Aa [(11,ow 2 0 f)],CR oR B s1 [GW f]⟩->E s:=by
  intro B f O s F;subst c;try dsimp only at h0
  refine z _ (AK F (zr tb AA AA ?_));obtain rfl:=Sh.AB h0;exact rt [(10,ow 2 0 f)]
 refine AU (Ax (σ:=Int×Int×(List AE)) (λn v=>FN oR s1 oT p2 p3 p4 oX n v.1 v.2.1 v.2.2=some c) (λ(g,u,e)=>⟨36,Aa [(0,.ptr 0 0 0 0),(2,ls eI p2),(3,ls eI p3),(4,i64 p4),(6,.ptr 2 0 0 0),(11,ow 3 0 e),(12,i64 g)],[CV oR u,ro 0 37 5 BS s1,⟨0,26,2,[[ls Aj oT,ow 1 0 s1]]⟩,ro 0 35 3 Au e]⟩) N (0,oV,[]) b (AJ AA) (λ_ D=>by rw[FN]at D;cases D) ?_);rintro n ⟨g,u,e⟩ b;try dsimp only at b⊢
 rw[FN]at b;refine AG λG h=>sr AA λH i=>zm tb 2 AA (zl tb AA AA (zq tb AA (dn i AA ?_)));refine ci b AA ?_ ?_<;>clear b<;>intro I b
 ·refine AL (h _ (AG λJ j=>AU (Bd (JW s1 oT [GW e]) 14 (by kernel_rfl) (by kernel_rfl) (by kernel_rfl) (by rfl) (BM (ow 3 0 e) AI AA (λ_ _=>BT AA) (BM BJ AI AA (λ_ _=>BT AA) (BM (HM oT s1) AI AA (λ_ _=>Ar D8 AA AA AA nk rfl) (BM (ls eI p2) AI AA (λ_ _=>BT AA) (BM (ls eI p3) AI AA (λ_ _=>BT AA) (BM (i64 g) AI AA (λ_ _=>BT AA) (bs b λk o b=>BM (.Bh (eI k) 0) AI AA (λ_ _=>Cg BQ AA AA o AA) (BM (i64 k) AI AA (λ_ _=>Hf HV AA AA) (BM (i64 p4) AI AA (λ_ _=>BT AA) (BM (ls eI p3) AI AA (λ_ _=>BT AA) (BM (G8 p3) AI AA (λ_ _=>Ch Fp AA) (bs b λC p b=>BM (i64 C) AI AA (λ_ _=>Up AA AA p) (bs b λa q b=>Gd (rows0:=(CR oR u s1 [])) (rows1:=(CR oR a.2 s1 [])) (v':=(DR a.1.op a.1.num a.1.kids)) (y0:=(CV oR a.2)) [0,1] AI (hb 134) (om q) rfl (by decide) rfl AA (.raw AA AA (.pure (AD λ_=>AA) .nil)) rfl AA (λ_=>(.raw AA AA (.pure (AD λ_=>AA) .nil))) (λ_=>AA) rfl ?_))))))))))))))));refine FO AI (λP zz=>F3 (l:=[a.1]) (enc:=Au) AI BU (by decide) rfl AA AA (by simp only[List.map,Ai];rfl) rfl (AD Ad) (Aw AA)) ?_;exact Ez AA (bs b λd t b=>C9 (l2:=[a.1]) AI BU AA AA AA AA Lh DS t AA (zq tb AA (dn j AA (AH AA (zm tb 3 AA (AF (xi (Sh.w (g+1),a.2,d) b (Dm (L:=[(0,BJ),(2,ls eI p2),(3,ls eI p3),(4,i64 p4),(6,CY),(11,ow 3 0 d),(12,KA g)]) (st':=(CR oR a.2 s1 [Zd oT s1,GW d])) (.raw AA AA AA (.pure AA (AD λ_=>AA) (.raw AA AA AA (.pure AA (AD Ad) .nil)))) (.same AA)))))))))
 ·exact BD (A u e (Sh.AB b).symm _ (AT [0,1,3] AA (by decide) rfl AA (.raw AA AA (.pure (AD λ_=>AA) (.pure (AD Ad) .nil))) (.same AA)))
theorem Ri {N:Nat}{oX:(List Int)->Int->(List Ac)->(List AM)->(List Int)->Int->Int->Option (AE×Int)}(om :∀{oR:(List Int)} {oV:Int} {s1:(List Ac)} {oT:(List AM)} {p2:(List Int)} {p3:Int} {p4:Int} {r:AE×Int},oX oR oV s1 oT p2 p3 p4=some r->Ab Tryz.prog 134 (V4 oT s1 p2 p3 p4) (CR oR oV s1 []) (λv st=>v=(DR r.1.op r.1.num r.1.kids)/\st=(CR oR r.2 s1 []))){oR:(List Int)}{oV:Int}{s1:(List Ac)}{oT:(List AM)}{p2:(List Int)}{p3 p4:Int}{r:AE×Int}(h0:JF N oX oR oV s1 oT p2 p3 p4=some r):Ab Tryz.prog 140 (V4 oT s1 p2 p3 p4) (CR oR oV s1 []) (λv st=>v=(DR r.1.op r.1.num r.1.kids)/\st=(CR oR r.2 s1 [])):=by
 unfold JF at h0;refine Ab.wk (r0:=(DR r.1.op r.1.num r.1.kids)) (st0:=(CR oR r.2 s1 [I0 r.1.op r.1.num r.1.kids])) (ai Tryz.func140 AA AA AA AA (sr AA λK1 U=>Bf (m:=2) AI AA AA AA AA AA (Av (m:=3) AI DF AA AA (dn U AA (sr AA λK2 V=>zq tb AA (BF (m:=4) (l:=[(1:Int),1,3,4]) (enc:=eI) AI BQ (by decide) rfl AA AA AA AA AA (AR (Wk.BL (L:=(QE p2 p3 p4 [(15,BJ),(16,ls eI [(1:Int),1,3,4])])) (st':=(Gb oR oV s1 oT [⟨1,3,1,[]⟩])) (id:=4) rfl nv (AD λ_=>AA) ⟨.rfl,.rfl,.rfl,.rfl,.rfl,.rfl,.rfl,.BL AA,jf⟩ AA) (bs h0 λo W h0=>CL (rows0:=[CV oR oV]) (rows1:=[CV oR o.2]) (st':=(Gb oR o.2 s1 oT [⟨1,3,1,[]⟩])) (v':=(i64 o.1)) [0] AI (hb 70) (CE W) rfl (by decide) rfl AA (.raw AA AA .nil) rfl AA (.raw AA AA .nil) .nil AA AA (zq tb AA (dn V AA (AG λK4 X=>bs h0 λo6 a h0=>?_))))))))))) (De (L:=[(0,DR r.1.op r.1.num r.1.kids)]) (st':=(CR oR r.2 s1 [])) [0,1] AA (by decide) rfl AA (.raw AA (.pure (AD λ_=>AA) jf)) (.same AA));have M6:∀(q:Int),o6=q->∀s,Wk 2 s ⟨69,Aa (QE p2 p3 p4 [(11,i64 q)]),Gb oR o.2 s1 oT []⟩->K4 s:=by
  intro q hq s A;subst o6;try dsimp only at h0
  refine X _ (AK A (sr AA λK7 Y=>zm tb 3 AA (bs h0 λh Z h0=>CM (v':=(ow 4 0 h)) AI (hb 104) (IV Z) rfl AA ⟨(CQ λ_=>AA),jf⟩ AA AA (zq tb AA (dn Y AA (sr AA λK9 b0=>zm tb 4 AA (bs h0 λd B h0=>CL (rows0:=(CR oR o.2 s1 [])) (rows1:=(CR oR d.2 s1 [])) (st':=(Gb oR d.2 s1 oT [Bl h])) (v':=(DR d.1.op d.1.num d.1.kids)) [0,1] AI (hb 136) (Ik B) rfl (by decide) rfl AA (.raw AA AA (.pure (AD λ_=>AA) .nil)) rfl AA (.raw AA AA (.pure (AD λ_=>AA) .nil)) .nil AA AA ?_)))))));refine BF (m:=5) (l:=[d.1]) (enc:=Au) AI BU (by decide) rfl AA (by simp only[List.map,Ai];rfl) rfl AA AA ?_;refine zq tb AA (dn b0 AA (AG λb1 C=>zr tb AA AA (bs h0 λt a h0=>?_)));have b2:∀(i:Int) (j:(List AE)),t=(i,j)->∀s,Wk 2 s ⟨69,Aa [(10,CY),(11,i64 q),(13,ow 3 0 j)],CR oR i s1 [Iz,GW j]⟩->b1 s:=by
   intro i j hq s A;subst t;try dsimp only at h0
   refine C _ (AK A (sr AA λb8 D=>zm tb 2 AA (AR (Wk.BL (L:=[(10,CY),(66,i64 q),(67,GV j)]) (st':=(CR oR i s1 [Iz,CB])) (id:=3) rfl oJ (AD Ad) ⟨.rfl,.rfl,.BL AA,jf⟩ AA) (bs h0 λe E h0=>zc (v':=(Bc e)) (hb 114) (BV E) rfl AA AA (Am AI BE AA AA AA AA AA AA nj rfl (dn D AA ?_))))));obtain rfl:=Sh.AB h0;exact Aq (Exists.intro _ (And.intro ((AT (L:=[(10,CY)]) (st':=(CR oR i s1 [I0 e.op e.num e.kids])) [0,1,2] AA (by decide) rfl AA (.raw AA AA (.pure (AD λ_=>AA) (.raw AA AA .nil))) ⟨.rfl,jf⟩).trans (Ag (L:=[(10,CY)]) ⟨.rfl,jf⟩)) (Ar (x:=.tmp 10) (off:=0) (cs:=(FI e)) (vs:=(FI e)) BE AA AA AA nj rfl _ ⟨AA,AA⟩)))
  refine AU (Ax (σ:=Int×Int×(List AE)) (λn v=>D5 N oR s1 oT p2 p3 p4 h oX n v.1 v.2.1 v.2.2=some t) (λ(f,k,g)=>⟨69,Aa [(0,.ptr 0 0 0 0),(2,ls eI p2),(3,i64 p3),(4,i64 p4),(6,.ptr 2 0 0 0),(10,.ptr 3 0 0 0),(11,i64 q),(12,ow 4 0 h),(13,ow 5 0 g),(14,i64 f)],[CV oR k,ro 0 37 5 BS s1,⟨0,26,2,[[ls Aj oT,ow 1 0 s1]]⟩,Iz,ro 0 3 1 eI h,ro 0 35 3 Au g]⟩) N (0,d.2,[d.1]) a (AJ AA) (λ_ hv=>by rw[D5]at hv;cases hv) ?_);rintro n ⟨f,k,g⟩ a;try dsimp only at a⊢
  rw[D5]at a;refine AG λb9 F=>sr AA λc0 G=>zm tb 2 AA (zz (G8 h) (Cr Fp AA AA AA) rfl (zq tb AA (dn G AA ?_)));refine ci a AA ?_ ?_<;>clear a<;>intro c1 a
  ·refine AL (F _ (AG λc2 H=>AU (Bd (JW s1 oT [Iz,Bl h,GW g]) 20 (by kernel_rfl) (by kernel_rfl) (by kernel_rfl) (by rfl) (BM (ow 5 0 g) AI AA (λ_ _=>BT AA) (BM BJ AI AA (λ_ _=>BT AA) (BM (HM oT s1) AI AA (λ_ _=>Ar D8 AA AA AA nk rfl) (BM (ls eI p2) AI AA (λ_ _=>BT AA) (BM CY AI AA (λ_ _=>E1 UZ AA AA oM rfl) (BM (Ct oT) AI AA (λ_ _=>Bx YX AA AA AA AA) (BM (ow 4 0 h) AI AA (λ_ _=>BT AA) (BM (i64 f) AI AA (λ_ _=>BT AA) (bs a λb3 p a=>BM (Ty f) AI AA (λ_ _=>Bz BQ AA AA AA AA p) (BM (i64 b3) AI AA (λ_ _=>Bx HV AA AA (CU p) rfl) (bs a λb4 I a=>FO AI (λx0 zz=>BW (v:=(ls eI b4)) AI (hb 99) (Es I) rfl AA AA (Aw AA)) (bs a λJ K a=>?_)))))))))))))));refine FO AI (λx0 zz=>BW (v:=(ls eI J)) AI (hb 85) (Ab.wk (FV K) (by refine Wk.trans (Wk.BL (L:=[(0,ls eI J)]) (st':=S9) (id:=0) rfl np (AD λ_=>AA) ⟨.BL AA,jf⟩ AA) ?_;exact AT [] AA (by decide) rfl AA .nil (.same AA))) rfl AA AA (Aw AA)) ?_;refine BM (i64 p3) AI AA (λ_ _=>BT AA) (BM (i64 p4) AI AA (λ_ _=>BT AA) (BM (i64 (Sh.w (p4-2))) AI AA (λ_ _=>N7 AA AA) (BM (ow 4 0 h) AI AA (λ_ _=>BT AA) (BM (G8 h) AI AA (λ_ _=>Cr Fp AA AA AA) (bs a λb5 M a=>BM (i64 b5) AI AA (λ_ _=>Up AA AA M) (bs a λb O a=>Gd (rows0:=(CR oR k s1 [])) (rows1:=(CR oR b.2 s1 [])) (v':=(DR b.1.op b.1.num b.1.kids)) (y0:=(CV oR b.2)) [0,1] AI (hb 134) (om O) rfl (by decide) rfl AA (.raw AA AA (.pure (AD λ_=>AA) .nil)) rfl AA (λ_=>(.raw AA AA (.pure (AD λ_=>AA) .nil))) (λ_=>AA) rfl ?_))))));refine FO AI (λx0 zz=>F3 (l:=[b.1]) (enc:=Au) AI BU (by decide) rfl AA AA (by simp only[List.map,Ai];rfl) rfl (AD Ad) (Aw AA)) ?_;exact Ez AA (bs a λu P a=>C9 (l2:=[b.1]) AI BU AA AA AA AA Lh DS P AA (zq tb AA (dn H AA (AH AA (zm tb 3 AA (AF (xi (Sh.w (f+1),b.2,u) a (Dm (L:=(QE p2 p3 p4 [(11,i64 q),(12,ow 4 0 h),(13,ow 5 0 u),(14,KA f)])) (st':=(Gb oR b.2 s1 oT [Bl h,GW u])) (.raw AA AA AA (.pure AA (AD λ_=>AA) (.raw AA AA AA (.raw AA AA AA (.pure AA (AD λ_=>AA) (.pure AA (AD Ad) .nil)))))) (.same AA)))))))))
  ·exact BD (b2 k g (Sh.AB a).symm _ (AT [0,1,3,5] AA (by decide) rfl AA (.raw AA AA (.pure (AD λ_=>AA) (.raw AA AA (.pure (AD Ad) .nil)))) (.same AA)))
 refine AG λb6 Q=>bs a λR y a=>?_;have S:∀(z:Bool),R=z->∀s,Wk 2 s ⟨69,Aa (QE p2 p3 p4 [(11,i64 o.1),(28,.bool z)]),Gb oR o.2 s1 oT []⟩->b6 s:=by
  intro z hq s A;subst R;try dsimp only at a
  refine Q _ (AK A ?_);refine ci a AA ?_ ?_<;>clear a<;>intro c3 a
  ·exact AH AA (zq tb AA (AF (M6 1 (Sh.AB a).symm _ (AJ AA))))
  ·exact AL (M6 o.1 (Sh.AB a).symm _ (AJ AA))
 refine AH AA (zm tb 3 AA (zl tb AA AA (zm tb 2 AA ?_)));rcases Sh.Ak y with ⟨c,y⟩|⟨c,y⟩
 ·refine zs c AA ?_;iterate 3 refine zs c rfl ?_
  exact zt c AA (AF (S true (Sh.AB y).symm _ (AT [0,1,2,3] AA (by decide) rfl AA (.raw AA AA (.pure (AD λ_=>AA) (.raw AA AA (.raw AA AA .nil)))) (.same AA))))
 ·exact zg tb c AA (zg tb c AA (zg tb c AA (bs y λb7 T y=>zd c (hb 102) (JT T) rfl AA AA AA (zf c AA (AF (S b7 (Sh.AB y).symm _ (AT [0,1,2,3] AA (by decide) rfl AA (.raw AA AA (.pure (AD λ_=>AA) (.raw AA AA (.raw AA AA .nil)))) (.same AA))))))))
theorem Rj {N:Nat}{p0:AP}{p1:Int}{r:(List Int)}(h0:I7 N p0 p1=some r):Ab Tryz.prog 141 [H7 p0,i64 p1] [] (λv st=>v=(ow 0 0 r)/\st=[Bl r]):=by
 unfold I7 at h0;refine ai Tryz.func141 AA AA AA AA (sr AA λK1 S=>Bf (m:=0) AI AA AA AA AA AA (zq tb AA (dn S AA (sr AA λK2 T=>BF (m:=1) (l:=([]:List Int)) (enc:=eI) AI BQ (by decide) rfl AA AA AA AA AA (zq tb AA (dn T AA (AG λK3 U=>zr tb AA AA (bs h0 λV c h0=>?_))))))));have M8:∀(y:(List Int)),V=y->∀s,Wk 0 s ⟨57,Aa [(5,ow 0 0 y)],[Bl y]⟩->K3 s:=by
  intro y W s q;subst V;try dsimp only at h0
  refine U _ (AK q (zr tb AA AA ?_));obtain rfl:=Sh.AB h0;exact rt [(4,ow 0 0 y)]
 refine AU (Ax (σ:=Int×(List Int)) (λn v=>EZ N p0 p1 n v.1 v.2=some V) (λ(f,g)=>⟨57,Aa [(1,i64 p1),(2,.ptr 0 0 0 0),(5,ow 1 0 g),(6,i64 f)],[WC p0.decls p0.funcs,ro 0 3 1 eI g]⟩) N (1,[]) c (AJ AA) (λ_ z=>by rw[EZ]at z;cases z) ?_);rintro n ⟨f,g⟩ c;try dsimp only at c⊢
 rw[EZ]at c;refine AG λb2 A=>sr AA λb3 B=>zm tb 3 AA (zl tb AA AA (zq tb AA (dn B AA ?_)));refine ci c AA ?_ ?_<;>clear c<;>intro b4 c
 ·refine AL (A _ (AG λX C=>bs c λD d c=>?_));have E:∀(h:(List Int)),D=h->∀s,Wk 0 s ⟨57,Aa (aE p1 h f []),[WC p0.decls p0.funcs,Bl h]⟩->X s:=by
   intro h W s q;subst D;try dsimp only at c
   exact C _ (AK q (AH AA (zm tb 3 AA (AF (xi (Sh.w (f+1),h) c (AJ AA))))))
  refine AU (sr AA λb5 F=>zm tb 3 AA (bs d λt i d=>zx Cu i AA AA AA (zm tb 5 AA (dn F AA (AG λY G=>zr tb AA AA (bs d λu e d=>?_))))));have Z:∀(j:Bool),u=j->∀s,Wk 0 s ⟨57,Aa (aE p1 g f [(7,.bool j)]),[WC p0.decls p0.funcs,Bl g]⟩->Y s:=by
   intro j W s q;subst u;try dsimp only at d
   refine G _ (AK q (zr tb AA AA ?_));refine ci d AA ?_ ?_<;>clear d<;>intro b6 d
   ·refine AH AA (zm tb 2 AA (BF (m:=2) (l:=[f]) (enc:=eI) AI BQ (by decide) rfl AA AA AA AA AA (bs d λx H d=>C9 (l2:=[f]) AI BQ AA AA AA AA (HO AA AA) (λ_=>AA) H AA (zq tb AA ?_))));exact AF (E x (Sh.AB d).symm _ (by refine Wk.trans (EX (L:=(aE p1 x f [])) (st':=[WC p0.decls p0.funcs,Bl x,ro 0 3 1 eI [f]]) (.raw AA AA (.pure (AD λ_=>AA) (.pure (AD λ_=>AA) .nil))) (.same AA)) ?_;exact AT [0,1] AA (by decide) rfl AA (.raw AA AA (.pure (AD λ_=>AA) .nil)) (.same AA)))
   ·exact AL (E g (Sh.AB d).symm _ (AJ AA))
  refine AU (Ax (σ:=Bool×Int) (λn v=>EY N t p0 n v.1 v.2=some u) (λ(k,o)=>⟨57,Aa [(1,i64 p1),(2,.ptr 0 0 0 0),(5,ow 1 0 g),(6,i64 f),(7,.bool k),(8,i64 o)],[WC p0.decls p0.funcs,ro 0 3 1 eI g]⟩) N (decide (t.result=p1),0) e (AJ AA) (λ_ z=>by rw[EY]at z;cases z) ?_);rintro n ⟨k,o⟩ e;try dsimp only at e⊢
  rw[EY]at e;refine AG λb7 I=>sr AA λb8 J=>zm tb 4 AA (zx Cu i AA AA AA (zm tb 2 AA (zl tb AA AA (zq tb AA (dn J AA ?_)))));refine ci e AA ?_ ?_<;>clear e<;>intro b9 e
  ·refine AL (I _ (AG λb0 K=>bs e λM p e=>?_));have O:∀(b:Bool),M=b->∀s,Wk 0 s ⟨57,Aa (aE p1 g f [(7,.bool b),(8,i64 o)]),[WC p0.decls p0.funcs,Bl g]⟩->b0 s:=by
    intro b W s q;subst M;try dsimp only at e
    exact K _ (AK q (AH AA (zm tb 3 AA (AF (xi (b,Sh.w (o+1)) e (AJ AA))))))
   refine AU (Bv 15 (by kernel_rfl) (by kernel_rfl) (by rfl) ?_);iterate 2 refine yq tb rfl ?_
   rcases Sh.Ak p with ⟨a,p⟩|⟨a,p⟩
   ·refine yg tb a AA (F3 (l:=([]:List Int)) (enc:=eI) (CW AA AA a) BQ (by decide) rfl AA AA AA AA (AD λ_=>AA) ?_);iterate 3 refine yg tb a rfl ?_
    refine H5 (v:=(.Bh (BS t) 0)) (CW AA AA a) rfl (Cg Cu AA AA i AA) ?_;iterate 3 refine yg tb a rfl ?_
    exact bs p λb1 P p=>H5 (v:=(.Bh (eI b1) 0)) (CW AA AA a) rfl (Cg BQ AA AA P AA) (yg tb a AA (bs p λQ R p=>BW (v:=(.bool Q)) (CW AA AA a) (hb 145) (JS R) rfl AA AA (yt a AA (Aw (zq tb AA (AF (O Q (Sh.AB p).symm _ (AJ AA))))))))
   ·refine ys a AA ?_;iterate 11 refine ys a rfl ?_
    exact yf a AA (Aw (zq tb AA (AF (O false (Sh.AB p).symm _ (AJ AA)))))
  ·exact BD (Z k (Sh.AB e).symm _ (AJ AA))
 ·exact BD (M8 g (Sh.AB c).symm _ (AT [1] AA (by decide) rfl AA (.pure (AD λ_=>AA) .nil) (.same AA)))
theorem Rw {N:Nat}{oX:(List Int)->Int->(List Ac)->(List AM)->(List Int)->Int->Int->Option (AE×Int)}(om :∀{oR:(List Int)} {oV:Int} {s1:(List Ac)} {oT:(List AM)} {p2:(List Int)} {p3:Int} {p4:Int} {r:AE×Int},oX oR oV s1 oT p2 p3 p4=some r->Ab Tryz.prog 134 (V4 oT s1 p2 p3 p4) (CR oR oV s1 []) (λv st=>v=(DR r.1.op r.1.num r.1.kids)/\st=(CR oR r.2 s1 []))){oR:(List Int)}{oV:Int}{s1:(List Ac)}{oT:(List AM)}{p2:(List Int)}{p3 p4:Int}{r:AE×Int}(h0:JJ N oX oR oV s1 oT p2 p3 p4=some r):Ab Tryz.prog 142 (V4 oT s1 p2 p3 p4) (CR oR oV s1 []) (λv st=>v=(DR r.1.op r.1.num r.1.kids)/\st=(CR oR r.2 s1 [])):=by
 unfold JJ at h0;refine Ab.wk (r0:=(DR r.1.op r.1.num r.1.kids)) (st0:=(CR oR r.2 s1 [I0 r.1.op r.1.num r.1.kids])) (ai Tryz.func142 AA AA AA AA (sr AA λK1 d4=>Bf (m:=2) AI AA AA AA AA AA (Av (m:=3) AI DF AA AA (dn d4 AA (AG λK2 d5=>?_))))) (De (L:=[(0,DR r.1.op r.1.num r.1.kids)]) (st':=(CR oR r.2 s1 [])) [0,1] AA (by decide) rfl AA (.raw AA (.pure (AD λ_=>AA) jf)) (.same AA));obtain⟨o4,y,h0⟩:=Sh.Bi h0;have M4:∀(I:Int),o4=Sum.inr I->∀s,Wk 2 s ⟨120,Aa (QE p2 p3 p4 []),Gb oR I s1 oT []⟩->K2 s:=by
  intro I hq s K;subst o4;try dsimp only at h0
  refine d5 _ (AK K (sr AA λK5 d6=>zm tb 3 AA (bs h0 λz d7 h0=>CM (v':=(ow 4 0 z)) AI (hb 104) (IV d7) rfl AA ⟨(CQ λ_=>AA),jf⟩ AA AA (zq tb AA (dn d6 AA (AG λK7 d8=>sr AA λK8 d9=>zq tb AA (zz (G8 z) (Cr Fp AA AA AA) rfl (zq tb AA (dn d9 AA ?_)))))))));refine ci h0 AA ?_ ?_<;>clear h0<;>intro b9 h0
  ·refine sr AA λg5 M=>zm tb 3 AA (zz (G8 z) (Cr Fp AA AA AA) rfl (bs h0 λA O h0=>CL (rows0:=[CV oR I]) (rows1:=[CV oR A.2]) (st':=(Gb oR A.2 s1 oT [Bl z])) (v':=(i64 A.1)) [0] AI (hb 83) (Ay O) rfl (by decide) rfl AA (.raw AA AA .nil) rfl AA (.raw AA AA .nil) .nil AA AA (bs h0 λD C h0=>zz (Ty A.1) (Bz BQ AA AA AA AA C) rfl (zz (i64 D) (Bx HV AA AA (CU C) rfl) rfl (zq tb AA (dn M AA (AG λg6 P=>Bd (JW s1 oT [Iz,Bl z]) 12 (by kernel_rfl) (by kernel_rfl) (by kernel_rfl) (by rfl) (BM (i64 D) AI AA (λ_ _=>BT AA) (BM BJ AI AA (λ_ _=>BT AA) (BM (HM oT s1) AI AA (λ_ _=>Ar D8 AA AA AA nk rfl) (BM (ls eI p2) AI AA (λ_ _=>BT AA) (BM CY AI AA (λ_ _=>E1 UZ AA AA oM rfl) (BM (Ct oT) AI AA (λ_ _=>Bx YX AA AA AA AA) (BM (i64 D) AI AA (λ_ _=>BT AA) (bs h0 λg0 Q h0=>FO AI (λJ zz=>BW (v:=(ls eI g0)) AI (hb 99) (Es Q) rfl AA AA (Aw AA)) (BM (i64 p4) AI AA (λ_ _=>BT AA) (BM (i64 (Sh.w (p4-1))) AI AA (λ_ _=>N7 AA AA) (bs h0 λk R h0=>?_))))))))))))))))));refine Gd (rows0:=(CR oR A.2 s1 [])) (rows1:=(CR oR k.2 s1 [])) (v':=(GV k.1)) (y0:=(CV oR k.2)) [0,1] AI (hb 139) (Ab.wk (IX om R) (by refine Wk.trans (Wk.BL (L:=[(0,GV k.1)]) (st':=(CR oR k.2 s1 [CB])) (id:=2) rfl oN (AD Ad) ⟨.BL AA,jf⟩ AA) ?_;exact AT [0,1] AA (by decide) rfl AA (.raw AA AA (.pure (AD λ_=>AA) .nil)) (.same AA))) rfl (by decide) rfl AA (.raw AA AA (.pure (AD λ_=>AA) .nil)) rfl AA (λ_=>(.raw AA AA (.pure (AD λ_=>AA) .nil))) (λ_=>AA) rfl ?_;refine bs h0 λo S h0=>FO AI (λJ zz=>BW (v:=(Bc o)) AI (hb 114) (BV S) rfl AA AA (Aw AA)) (Ez AA (Am AI BE AA AA AA AA AA AA nj rfl (dn P AA ?_)));obtain rfl:=Sh.AB h0;exact Aq (Exists.intro _ (And.intro ((AT (L:=[(10,CY)]) (st':=(CR oR k.2 s1 [I0 o.op o.num o.kids])) [0,1,3] AA (by decide) rfl AA (.raw AA AA (.pure (AD λ_=>AA) (.raw AA AA .nil))) ⟨.rfl,jf⟩).trans (Ag (L:=[(10,CY)]) ⟨.rfl,jf⟩)) (Ar (x:=.tmp 10) (off:=0) (cs:=(FI o)) (vs:=(FI o)) BE AA AA AA nj rfl _ ⟨AA,AA⟩)))
  ·refine AL (d8 _ (AG λg7 T=>zr tb AA AA ?_));refine ci h0 AA ?_ ?_<;>clear h0<;>intro g8 h0
   ·refine sr AA λg9 U=>zm tb 4 AA (bs h0 λa V h0=>CL (rows0:=(CR oR I s1 [])) (rows1:=(CR oR a.2 s1 [])) (st':=(Gb oR a.2 s1 oT [Bl z])) (v':=(DR a.1.op a.1.num a.1.kids)) [0,1] AI (hb 136) (Ik V) rfl (by decide) rfl AA (.raw AA AA (.pure (AD λ_=>AA) .nil)) rfl AA (.raw AA AA (.pure (AD λ_=>AA) .nil)) .nil AA AA (Am AI BE AA AA AA AA AA AA nj rfl (dn U AA ?_)));obtain rfl:=Sh.AB h0;exact Aq (Exists.intro _ (And.intro ((AT (L:=[(10,CY)]) (st':=(CR oR a.2 s1 [I0 a.1.op a.1.num a.1.kids])) [0,1,3] AA (by decide) rfl AA (.raw AA AA (.pure (AD λ_=>AA) (.raw AA AA .nil))) ⟨.rfl,jf⟩).trans (Ag (L:=[(10,CY)]) ⟨.rfl,jf⟩)) (Ar (x:=.tmp 10) (off:=0) (cs:=(LL a.1.op a.1.num a.1.kids)) (vs:=(LL a.1.op a.1.num a.1.kids)) BE AA AA AA nj rfl _ ⟨AA,AA⟩)))
   ·refine AL (T _ (AG λh4 W=>sr AA λh5 X=>zq tb AA (bs h0 λg Y h0=>CL (rows0:=[CV oR I]) (rows1:=[CV oR g.2]) (st':=(Gb oR g.2 s1 oT [Bl z])) (v':=(i64 g.1)) [0] AI (hb 83) (Ay Y) rfl (by decide) rfl AA (.raw AA AA .nil) rfl AA (.raw AA AA .nil) .nil AA AA (zq tb AA (dn X AA ?_)))));refine ci h0 AA ?_ ?_<;>clear h0<;>intro h6 h0
    ·refine sr AA λh7 Z=>zm tb 3 AA (BF (m:=5) (l:=[(0:Int)]) (enc:=eI) AI BQ (by decide) rfl AA AA AA AA AA (zm tb 2 AA (AR (Wk.BL (L:=[(10,HN),(101,BJ),(102,HM oT s1),(103,ls eI p2),(104,ls eI [(0:Int)]),(106,i64 (Sh.w (p4-1)))]) (st':=(Gb oR g.2 s1 oT [Bl z,⟨1,3,1,[]⟩])) (id:=5) rfl ny (AD λ_=>AA) ⟨.rfl,.rfl,.agg ⟨.rfl,.rfl,jf⟩,.rfl,.BL AA,.rfl,jf⟩ AA) (bs h0 λc b0 h0=>F6 (rowsP:=(CR oR g.2 s1 [])) (rows0:=(CR oR g.2 s1 [])) (rows1:=(CR oR c.2 s1 [])) (rows2:=[GW c.1]) (rows1':=(CR oR c.2 s1 [])) (rows2':=[GW c.1]) (st':=(Gb oR c.2 s1 oT [Bl z,⟨1,3,1,[]⟩,GW c.1])) (v':=(ow 6 0 c.1)) [0,1] AI (hb 139) (IX om b0) rfl (by decide) rfl AA (.raw AA AA (.pure (AD λ_=>AA) .nil)) rfl AA (.raw AA AA (.pure (AD λ_=>AA) .nil)) (.pure (AD Ad) .nil) rfl AA (AR (Wk.BL (L:=[(10,HN),(107,GV c.1)]) (st':=(Gb oR c.2 s1 oT [Bl z,⟨1,3,1,[]⟩,CB])) (id:=6) rfl oF (AD Ad) ⟨.rfl,.BL AA,jf⟩ AA) (bs h0 λp b1 h0=>zc (v':=(Bc p)) (hb 114) (BV b1) rfl AA AA (Am AI BE AA AA AA AA AA AA nj rfl (dn Z AA ?_))))))));obtain rfl:=Sh.AB h0;exact Aq (Exists.intro _ (And.intro ((AT (L:=[(10,CY)]) (st':=(CR oR c.2 s1 [I0 p.op p.num p.kids])) [0,1,3] AA (by decide) rfl AA (.raw AA AA (.pure (AD λ_=>AA) (.raw AA AA .nil))) ⟨.rfl,jf⟩).trans (Ag (L:=[(10,CY)]) ⟨.rfl,jf⟩)) (Ar (x:=.tmp 10) (off:=0) (cs:=(FI p)) (vs:=(FI p)) BE AA AA AA nj rfl _ ⟨AA,AA⟩)))
    ·refine AL (W _ (AG λh8 b2=>Bd (JW s1 oT [Iz,Bl z]) 11 (by kernel_rfl) (by kernel_rfl) (by kernel_rfl) (by rfl) (BM BJ AI AA (λ_ _=>BT AA) (FO AI (λJ zz=>F3 (l:=[(1:Int),2,3,4]) (enc:=eI) AI BQ (by decide) rfl AA AA AA AA (AD λ_=>AA) (Aw AA)) (bs h0 λB b3 h0=>Gd (rows0:=[CV oR g.2]) (rows1:=[CV oR B.2]) (v':=(i64 B.1)) (y0:=(CV oR B.2)) [0] AI (hb 70) (CE b3) rfl (by decide) rfl AA (.raw AA AA .nil) rfl AA (λ_=>(.raw AA AA .nil)) (λ_=>AA) rfl (BM BJ AI AA (λ_ _=>BT AA) (BM (HM oT s1) AI AA (λ_ _=>Ar D8 AA AA AA nk rfl) (BM (ls eI p2) AI AA (λ_ _=>BT AA) (FO AI (λJ zz=>F3 (l:=[(0:Int),0]) (enc:=eI) AI BQ (by decide) rfl AA AA AA AA (AD λ_=>AA) (Aw AA)) (BM (i64 p4) AI AA (λ_ _=>BT AA) (BM (i64 (Sh.w (p4-1))) AI AA (λ_ _=>N7 AA AA) (bs h0 λq b4 h0=>?_))))))))))));refine Gd (rows0:=(CR oR B.2 s1 [])) (rows1:=(CR oR q.2 s1 [])) (v':=(GV q.1)) (y0:=(CV oR q.2)) [0,1] AI (hb 139) (Ab.wk (IX om b4) (by refine Wk.trans (Wk.BL (L:=[(0,GV q.1)]) (st':=(CR oR q.2 s1 [CB])) (id:=2) rfl oN (AD Ad) ⟨.BL AA,jf⟩ AA) ?_;exact AT [0,1] AA (by decide) rfl AA (.raw AA AA (.pure (AD λ_=>AA) .nil)) (.same AA))) rfl (by decide) rfl AA (.raw AA AA (.pure (AD λ_=>AA) .nil)) rfl AA (λ_=>(.raw AA AA (.pure (AD λ_=>AA) .nil))) (λ_=>AA) rfl ?_;refine bs h0 λt b5 h0=>FO AI (λJ zz=>BW (v:=(Bc t)) AI (hb 114) (BV b5) rfl AA AA (Aw AA)) (Ez AA (Am AI BE AA AA AA AA AA AA nj rfl (dn b2 AA ?_)));obtain rfl:=Sh.AB h0;exact Aq (Exists.intro _ (And.intro ((AT (L:=[(10,CY)]) (st':=(CR oR q.2 s1 [I0 t.op t.num t.kids])) [0,1,3] AA (by decide) rfl AA (.raw AA AA (.pure (AD λ_=>AA) (.raw AA AA .nil))) ⟨.rfl,jf⟩).trans (Ag (L:=[(10,CY)]) ⟨.rfl,jf⟩)) (Ar (x:=.tmp 10) (off:=0) (cs:=(FI t)) (vs:=(FI t)) BE AA AA AA nj rfl _ ⟨AA,AA⟩)))
 refine sr AA λh9 b6=>zq tb AA (bs y λd b7 y=>CL (rows0:=[CV oR oV]) (rows1:=[CV oR d.2]) (st':=(Gb oR d.2 s1 oT [])) (v':=(i64 d.1)) [0] AI (hb 83) (Ay b7) rfl (by decide) rfl AA (.raw AA AA .nil) rfl AA (.raw AA AA .nil) .nil AA AA (zq tb AA (dn b6 AA ?_)));refine ci y AA ?_ ?_<;>clear y<;>intro k0 y
 ·refine zr tb AA AA (AW.fin λg1 b8=>?_);obtain⟨E,b,y⟩:=Sh.Bi y;have g2:∀(_:Unit),E=Sum.inr ()->∀s,Wk 2 s ⟨120,Aa (QE p2 p3 p4 []),Gb oR d.2 s1 oT []⟩->g1 s:=by
   intro _ hq s K;subst E;try dsimp only at y
   exact b8 _ (M4 d.2 (Sh.AB y).symm _ (K.trans (Ag (L:=(QE p2 p3 p4 [])) (.same AA))))
  refine AU (Ax (σ:=Int) (λn v=>Ej N oR s1 oT p2 p3 p4 d oX n v=some E) (λtT=>⟨120,Aa [(0,.ptr 0 0 0 0),(2,ls eI p2),(3,i64 p3),(4,i64 p4),(6,.ptr 2 0 0 0),(10,.ptr 3 0 0 0),(11,i64 tT)],[CV oR d.2,ro 0 37 5 BS s1,⟨0,26,2,[[ls Aj oT,ow 1 0 s1]]⟩,Iz]⟩) N 1 b (AJ AA) (λ_ hv=>by rw[Ej]at hv;cases hv) ?_);rintro n tT b;try dsimp only at b⊢
  rw[Ej]at b;refine AG λk1 c0=>sr AA λk2 c1=>zm tb 3 AA (zl tb AA AA (zq tb AA (dn c1 AA ?_)));refine ci b AA ?_ ?_<;>clear b<;>intro k3 b
  ·refine AL (c0 _ (AG λk4 c2=>AU (AG λg3 c3=>bs b λc4 h b=>?_)));have F:∀(G:Bool),c4=G->∀s,Wk 2 s ⟨120,Aa (QE p2 p3 p4 [(11,i64 tT),(44,.bool G)]),Gb oR d.2 s1 oT []⟩->g3 s:=by
    intro G hq s K;subst c4;try dsimp only at b
    refine c3 _ (AK K ?_);refine ci b AA ?_ ?_<;>clear b<;>intro k5 b
    ·refine AG λk6 c5=>Bd (JW s1 oT [Iz]) 20 (by kernel_rfl) (by kernel_rfl) (by kernel_rfl) (by rfl) (BM BJ AI AA (λ_ _=>BT AA) (BM (HM oT s1) AI AA (λ_ _=>Ar D8 AA AA AA nk rfl) (BM (ls eI p2) AI AA (λ_ _=>BT AA) (BM (i64 tT) AI AA (λ_ _=>BT AA) (bs b λi c6 b=>Gd (rows0:=(CR oR d.2 s1 [])) (rows1:=(CR oR i.2 s1 [])) (v':=(DR i.1.op i.1.num i.1.kids)) (y0:=(CV oR i.2)) [0,1] AI (hb 136) (Ik c6) rfl (by decide) rfl AA (.raw AA AA (.pure (AD λ_=>AA) .nil)) rfl AA (λ_=>(.raw AA AA (.pure (AD λ_=>AA) .nil))) (λ_=>AA) rfl (BM BJ AI AA (λ_ _=>BT AA) (BM (HM oT s1) AI AA (λ_ _=>Ar D8 AA AA AA nk rfl) (BM (ls eI p2) AI AA (λ_ _=>BT AA) (BM CY AI AA (λ_ _=>E1 UZ AA AA oM rfl) (BM (Ct oT) AI AA (λ_ _=>Bx YX AA AA AA AA) (BM (i64 tT) AI AA (λ_ _=>BT AA) (BM (i64 (Sh.w (tT-1))) AI AA (λ_ _=>N7 AA AA) (bs b λH c7 b=>BM (.Bh (Aj H) 0) AI AA (λ_ _=>Cg DH AA AA c7 AA) (BM (.Bh (Aj H) 0) AI AA (λ_ _=>IC fZ AA AA) (BM (i64 H.from_) AI AA (λ_ _=>Hf HV AA AA) (BM (i64 p4) AI AA (λ_ _=>BT AA) (BM (i64 (Sh.w (p4-2))) AI AA (λ_ _=>N7 AA AA) (bs b λj c8 b=>Gd (rows0:=(CR oR i.2 s1 [])) (rows1:=(CR oR j.2 s1 [])) (v':=(DR j.1.op j.1.num j.1.kids)) (y0:=(CV oR j.2)) [0,1] AI (hb 134) (om c8) rfl (by decide) rfl AA (.raw AA AA (.pure (AD λ_=>AA) .nil)) rfl AA (λ_=>(.raw AA AA (.pure (AD λ_=>AA) .nil))) (λ_=>AA) rfl ?_))))))))))))))))));refine FO AI (λJ zz=>F3 (l:=[i.1,j.1]) (enc:=Au) AI BU (by decide) rfl AA AA (by simp only[List.map,Ai];rfl) rfl (AD Ad) (Aw AA)) ?_;refine bs b λu c9 b=>FO AI (λJ zz=>BW (v:=(Bc u)) AI (hb 114) (BV c9) rfl AA AA (Aw AA)) (Ez AA (Am AI BE AA AA AA AA AA AA nj rfl (dn c5 AA ?_)));obtain rfl:=Sh.AB b;try dsimp only[id]at y
     obtain rfl:=Sh.AB y;try dsimp only[id]at h0
     obtain rfl:=Sh.AB h0;exact Aq (Exists.intro _ (And.intro ((AT (L:=[(10,CY)]) (st':=(CR oR j.2 s1 [I0 u.op u.num u.kids])) [0,1,3] AA (by decide) rfl AA (.raw AA AA (.pure (AD λ_=>AA) (.raw AA AA .nil))) ⟨.rfl,jf⟩).trans (Ag (L:=[(10,CY)]) ⟨.rfl,jf⟩)) (Ar (x:=.tmp 10) (off:=0) (cs:=(FI u)) (vs:=(FI u)) BE AA AA AA nj rfl _ ⟨AA,AA⟩)))
    ·exact AL (c2 _ (AH AA (zm tb 3 AA (AF (xi (Sh.w (tT+1)) b (AJ AA))))))
   refine AH AA (zm tb 3 AA (bs h λk7 d0 h=>zc (hb 102) (JT d0) rfl AA AA (zq tb AA ?_)));rcases Sh.Ak h with ⟨e,h⟩|⟨e,h⟩
   ·refine zg tb e AA ?_;iterate 3 refine zg tb e rfl ?_
    refine bs h λg4 d1 h=>Ba (v:=(.Bh (Aj g4) 0)) (CW AA AA e) rfl (Cg DH AA AA d1 AA) ?_;iterate 4 refine zg tb e rfl ?_
    refine zt e AA (zq tb AA ?_);rcases Sh.Ak h with ⟨f,h⟩|⟨f,h⟩
    ·exact zg tb f AA (zg tb f AA (zg tb f AA (bs h λd2 d3 h=>L3 (v':=(.bool d2)) (CW AA AA f) (hb 145) (JS d3) rfl (.agg (.val AA (.own AA AA (λ_=>AA) .nil)) (.val AA (.val AA .nil))) rfl jf AA AA (zt f AA (AF (F d2 (Sh.AB h).symm _ (AJ AA)))))))
    ·refine zs f AA ?_;iterate 3 refine zs f rfl ?_
     exact zf f AA (AF (F false (Sh.AB h).symm _ (AJ AA)))
   ·refine zs e AA ?_;iterate 8 refine zs e rfl ?_
    refine zf e AA (zq tb AA ?_);iterate 4 refine zs rfl rfl ?_
    exact zf AA AA (AF (F false (Sh.AB h).symm _ (AJ AA)))
  ·exact BD (g2 () (Sh.AB b).symm _ (AJ AA))
 ·exact AL (M4 d.2 (Sh.AB y).symm _ (AJ AA))
theorem Uv {N:Nat}{oX:(List Int)->Int->(List Ac)->(List AM)->(List Int)->Int->Int->Option (AE×Int)}(om :∀{oR:(List Int)} {oV:Int} {s1:(List Ac)} {oT:(List AM)} {p2:(List Int)} {p3:Int} {p4:Int} {r:AE×Int},oX oR oV s1 oT p2 p3 p4=some r->Ab Tryz.prog 134 (V4 oT s1 p2 p3 p4) (CR oR oV s1 []) (λv st=>v=(DR r.1.op r.1.num r.1.kids)/\st=(CR oR r.2 s1 []))){oR:(List Int)}{oV:Int}{s1:(List Ac)}{oT:(List AM)}{p2:(List Int)}{p3 p4:Int}{r:AE×Int}(h0:LM N oX oR oV s1 oT p2 p3 p4=some r):Ab Tryz.prog 134 (V4 oT s1 p2 p3 p4) (CR oR oV s1 []) (λv st=>v=(DR r.1.op r.1.num r.1.kids)/\st=(CR oR r.2 s1 [])):=by
 unfold LM at h0;refine Ab.wk (r0:=(DR r.1.op r.1.num r.1.kids)) (st0:=(CR oR r.2 s1 [I0 r.1.op r.1.num r.1.kids])) (ai Tryz.func134 AA AA AA AA (sr AA λK1 c8=>Bf (m:=2) AI AA AA AA AA AA (Av (m:=3) AI DF AA AA (dn c8 AA (AG λK2 c9=>zr tb AA AA ?_))))) (De (L:=[(0,DR r.1.op r.1.num r.1.kids)]) (st':=(CR oR r.2 s1 [])) [0,1] AA (by decide) rfl AA (.raw AA (.pure (AD λ_=>AA) jf)) (.same AA));refine ci h0 AA ?_ ?_<;>clear h0<;>intro b4 h0
 ·refine sr AA λK5 d0=>zm tb 4 AA (bs h0 λh d1 h0=>CL (rows0:=(CR oR oV s1 [])) (rows1:=(CR oR h.2 s1 [])) (st':=(Gb oR h.2 s1 oT [])) (v':=(DR h.1.op h.1.num h.1.kids)) [0,1] AI (hb 136) (Ik d1) rfl (by decide) rfl AA (.raw AA AA (.pure (AD λ_=>AA) .nil)) rfl AA (.raw AA AA (.pure (AD λ_=>AA) .nil)) .nil AA AA (Am AI BE AA AA AA AA AA AA nj rfl (dn d0 AA ?_)));obtain rfl:=Sh.AB h0;exact Aq (Exists.intro _ (And.intro ((AT (L:=[(10,CY)]) (st':=(CR oR h.2 s1 [I0 h.1.op h.1.num h.1.kids])) [0,1,3] AA (by decide) rfl AA (.raw AA AA (.pure (AD λ_=>AA) (.raw AA AA .nil))) ⟨.rfl,jf⟩).trans (Ag (L:=[(10,CY)]) ⟨.rfl,jf⟩)) (Ar (x:=.tmp 10) (off:=0) (cs:=(LL h.1.op h.1.num h.1.kids)) (vs:=(LL h.1.op h.1.num h.1.kids)) BE AA AA AA nj rfl _ ⟨AA,AA⟩)))
 ·refine AL (c9 _ (AG λK7 d2=>?_));obtain⟨o9,a,h0⟩:=Sh.Bi h0;have M9:∀(f8:Int),o9=Sum.inr f8->∀s,Wk 2 s ⟨114,Aa (QE p2 p3 p4 []),Gb oR f8 s1 oT []⟩->K7 s:=by
   intro f8 hq s B;subst o9;try dsimp only at h0
   refine d2 _ (AK B (sr AA λg1 G=>zm tb 5 AA (bs h0 λc H h0=>CL (rows0:=(CR oR f8 s1 [])) (rows1:=(CR oR c.2 s1 [])) (st':=(Gb oR c.2 s1 oT [])) (v':=(DR c.1.op c.1.num c.1.kids)) [0,1] AI (hb 142) (Rw om H) rfl (by decide) rfl AA (.raw AA AA (.pure (AD λ_=>AA) .nil)) rfl AA (.raw AA AA (.pure (AD λ_=>AA) .nil)) .nil AA AA (Am AI BE AA AA AA AA AA AA nj rfl (dn G AA ?_)))));obtain rfl:=Sh.AB h0;exact Aq (Exists.intro _ (And.intro ((AT (L:=[(10,CY)]) (st':=(CR oR c.2 s1 [I0 c.1.op c.1.num c.1.kids])) [0,1,3] AA (by decide) rfl AA (.raw AA AA (.pure (AD λ_=>AA) (.raw AA AA .nil))) ⟨.rfl,jf⟩).trans (Ag (L:=[(10,CY)]) ⟨.rfl,jf⟩)) (Ar (x:=.tmp 10) (off:=0) (cs:=(LL c.1.op c.1.num c.1.kids)) (vs:=(LL c.1.op c.1.num c.1.kids)) BE AA AA AA nj rfl _ ⟨AA,AA⟩)))
  refine sr AA λg2 I=>zq tb AA (bs a λb J a=>CL (rows0:=[CV oR oV]) (rows1:=[CV oR b.2]) (st':=(Gb oR b.2 s1 oT [])) (v':=(i64 b.1)) [0] AI (hb 83) (Ay J) rfl (by decide) rfl AA (.raw AA AA .nil) rfl AA (.raw AA AA .nil) .nil AA AA (dn I AA (AU (zr tb AA AA ?_))));refine ci a AA ?_ ?_<;>clear a<;>intro g3 a
  ·refine sr AA λg4 K=>zm tb 4 AA (bs a λd M a=>CL (rows0:=(CR oR b.2 s1 [])) (rows1:=(CR oR d.2 s1 [])) (st':=(Gb oR d.2 s1 oT [])) (v':=(DR d.1.op d.1.num d.1.kids)) [0,1] AI (hb 136) (Ik M) rfl (by decide) rfl AA (.raw AA AA (.pure (AD λ_=>AA) .nil)) rfl AA (.raw AA AA (.pure (AD λ_=>AA) .nil)) .nil AA AA (Am AI BE AA AA AA AA AA AA nj rfl (dn K AA ?_)));obtain rfl:=Sh.AB a;try dsimp only[id]at h0
   obtain rfl:=Sh.AB h0;exact Aq (Exists.intro _ (And.intro ((AT (L:=[(10,CY)]) (st':=(CR oR d.2 s1 [I0 d.1.op d.1.num d.1.kids])) [0,1,3] AA (by decide) rfl AA (.raw AA AA (.pure (AD λ_=>AA) (.raw AA AA .nil))) ⟨.rfl,jf⟩).trans (Ag (L:=[(10,CY)]) ⟨.rfl,jf⟩)) (Ar (x:=.tmp 10) (off:=0) (cs:=(LL d.1.op d.1.num d.1.kids)) (vs:=(LL d.1.op d.1.num d.1.kids)) BE AA AA AA nj rfl _ ⟨AA,AA⟩)))
  ·refine AG λd3 O=>bs a λP f a=>?_;have Q:∀(C:Bool),P=C->∀s,Wk 2 s ⟨114,Aa (QE p2 p3 p4 [(22,i64 b.1),(30,.bool C)]),Gb oR b.2 s1 oT []⟩->d3 s:=by
    intro C hq s B;subst P;try dsimp only at a
    refine O _ (AK B ?_);refine ci a AA ?_ ?_<;>clear a<;>intro g5 a
    ·refine sr AA λg6 R=>zm tb 3 AA (bs a λi S a=>CL (rows0:=(CR oR b.2 s1 [])) (rows1:=(CR oR i.2 s1 [])) (st':=(Gb oR i.2 s1 oT [])) (v':=(i64 i.1)) [0,1] AI (hb 138) (S8 S) rfl (by decide) rfl AA (.raw AA AA (.pure (AD λ_=>AA) .nil)) rfl AA (.raw AA AA (.pure (AD λ_=>AA) .nil)) .nil AA AA (zq tb AA (dn R AA (AG λg7 T=>Bd (JW s1 oT [Iz]) 19 (by kernel_rfl) (by kernel_rfl) (by kernel_rfl) (by rfl) (BM BJ AI AA (λ_ _=>BT AA) (BM (HM oT s1) AI AA (λ_ _=>Ar D8 AA AA AA nk rfl) (BM (ls eI p2) AI AA (λ_ _=>BT AA) (BM (i64 i.1) AI AA (λ_ _=>BT AA) (BM (i64 p4) AI AA (λ_ _=>BT AA) (BM (i64 (Sh.w (Int.tdiv p4 2))) AI AA (λ_ _=>UL AA AA (by decide)) (bs a λj U a=>Gd (rows0:=(CR oR i.2 s1 [])) (rows1:=(CR oR j.2 s1 [])) (v':=(DR j.1.op j.1.num j.1.kids)) (y0:=(CV oR j.2)) [0,1] AI (hb 134) (om U) rfl (by decide) rfl AA (.raw AA AA (.pure (AD λ_=>AA) .nil)) rfl AA (λ_=>(.raw AA AA (.pure (AD λ_=>AA) .nil))) (λ_=>AA) rfl (BM BJ AI AA (λ_ _=>BT AA) (BM (HM oT s1) AI AA (λ_ _=>Ar D8 AA AA AA nk rfl) (BM (ls eI p2) AI AA (λ_ _=>BT AA) (BM (i64 i.1) AI AA (λ_ _=>BT AA) (FO AI (λx0 zz=>F3 (l:=[i.1]) (enc:=eI) AI BQ (by decide) rfl AA AA AA AA (AD λ_=>AA) (Aw AA)) (bs a λV W a=>?_)))))))))))))))));refine FO AI (λx0 zz=>BW (v:=(ls eI V)) AI (hb 85) (Ab.wk (FV W) (by refine Wk.trans (Wk.BL (L:=[(0,ls eI V)]) (st':=S9) (id:=0) rfl np (AD λ_=>AA) ⟨.BL AA,jf⟩ AA) ?_;exact AT [] AA (by decide) rfl AA .nil (.same AA))) rfl AA AA (Aw AA)) ?_;refine BM (i64 p3) AI AA (λ_ _=>BT AA) (BM (i64 p4) AI AA (λ_ _=>BT AA) (BM (i64 (Sh.w (Int.tdiv p4 2))) AI AA (λ_ _=>UL AA AA (by decide)) (bs a λk X a=>Gd (rows0:=(CR oR j.2 s1 [])) (rows1:=(CR oR k.2 s1 [])) (v':=(DR k.1.op k.1.num k.1.kids)) (y0:=(CV oR k.2)) [0,1] AI (hb 134) (om X) rfl (by decide) rfl AA (.raw AA AA (.pure (AD λ_=>AA) .nil)) rfl AA (λ_=>(.raw AA AA (.pure (AD λ_=>AA) .nil))) (λ_=>AA) rfl ?_)));refine FO AI (λx0 zz=>F3 (l:=[j.1,k.1]) (enc:=Au) AI BU (by decide) rfl AA AA (by simp only[List.map,Ai];rfl) rfl (AD Ad) (Aw AA)) ?_;refine bs a λn Y a=>FO AI (λx0 zz=>BW (v:=(Bc n)) AI (hb 114) (BV Y) rfl AA AA (Aw AA)) (Ez AA (Am AI BE AA AA AA AA AA AA nj rfl (dn T AA ?_)));obtain rfl:=Sh.AB a;try dsimp only[id]at h0
     obtain rfl:=Sh.AB h0;exact Aq (Exists.intro _ (And.intro ((AT (L:=[(10,CY)]) (st':=(CR oR k.2 s1 [I0 n.op n.num n.kids])) [0,1,3] AA (by decide) rfl AA (.raw AA AA (.pure (AD λ_=>AA) (.raw AA AA .nil))) ⟨.rfl,jf⟩).trans (Ag (L:=[(10,CY)]) ⟨.rfl,jf⟩)) (Ar (x:=.tmp 10) (off:=0) (cs:=(FI n)) (vs:=(FI n)) BE AA AA AA nj rfl _ ⟨AA,AA⟩)))
    ·refine zr tb AA AA ?_;refine ci a AA ?_ ?_<;>clear a<;>intro g8 a
     ·refine sr AA λg9 Z=>zm tb 5 AA (BF (m:=4) (l:=[0,p3,p3]) (enc:=eI) AI BQ (by decide) rfl AA AA AA AA AA (zm tb 2 AA (AR (Wk.BL (L:=[(10,HN),(58,BJ),(59,HM oT s1),(60,ls eI p2),(63,ls eI [0,p3,p3]),(65,i64 (Sh.w (p4-1)))]) (st':=(Gb oR b.2 s1 oT [⟨1,3,1,[]⟩])) (id:=4) rfl nv (AD λ_=>AA) ⟨.rfl,.rfl,.agg ⟨.rfl,.rfl,jf⟩,.rfl,.BL AA,.rfl,jf⟩ AA) (bs a λg b0 a=>F6 (rowsP:=(CR oR b.2 s1 [])) (rows0:=(CR oR b.2 s1 [])) (rows1:=(CR oR g.2 s1 [])) (rows2:=[GW g.1]) (rows1':=(CR oR g.2 s1 [])) (rows2':=[GW g.1]) (st':=(Gb oR g.2 s1 oT [⟨1,3,1,[]⟩,GW g.1])) (v':=(ow 5 0 g.1)) [0,1] AI (hb 139) (IX om b0) rfl (by decide) rfl AA (.raw AA AA (.pure (AD λ_=>AA) .nil)) rfl AA (.raw AA AA (.pure (AD λ_=>AA) .nil)) (.pure (AD Ad) .nil) rfl AA (AR (Wk.BL (L:=[(10,HN),(66,GV g.1)]) (st':=(Gb oR g.2 s1 oT [⟨1,3,1,[]⟩,CB])) (id:=5) rfl ny (AD Ad) ⟨.rfl,.BL AA,jf⟩ AA) (bs a λo b1 a=>zc (v':=(Bc o)) (hb 114) (BV b1) rfl AA AA (Am AI BE AA AA AA AA AA AA nj rfl (dn Z AA ?_))))))));obtain rfl:=Sh.AB a;try dsimp only[id]at h0
      obtain rfl:=Sh.AB h0;exact Aq (Exists.intro _ (And.intro ((AT (L:=[(10,CY)]) (st':=(CR oR g.2 s1 [I0 o.op o.num o.kids])) [0,1,3] AA (by decide) rfl AA (.raw AA AA (.pure (AD λ_=>AA) (.raw AA AA .nil))) ⟨.rfl,jf⟩).trans (Ag (L:=[(10,CY)]) ⟨.rfl,jf⟩)) (Ar (x:=.tmp 10) (off:=0) (cs:=(FI o)) (vs:=(FI o)) BE AA AA AA nj rfl _ ⟨AA,AA⟩)))
     ·refine AG λd4 b2=>bs a λb3 f a=>?_;have D:∀(E:Bool),b3=E->∀s,Wk 2 s ⟨114,Aa (QE p2 p3 p4 [(22,i64 b.1),(68,.bool E)]),Gb oR b.2 s1 oT []⟩->d4 s:=by
       intro E hq s B;subst b3;try dsimp only at a
       refine b2 _ (AK B ?_);refine ci a AA ?_ ?_<;>clear a<;>intro h3 a
       ·refine sr AA λh4 b5=>zm tb 5 AA (bs a λe b6 a=>CL (rows0:=(CR oR b.2 s1 [])) (rows1:=(CR oR e.2 s1 [])) (st':=(Gb oR e.2 s1 oT [])) (v':=(DR e.1.op e.1.num e.1.kids)) [0,1] AI (hb 140) (Ri om b6) rfl (by decide) rfl AA (.raw AA AA (.pure (AD λ_=>AA) .nil)) rfl AA (.raw AA AA (.pure (AD λ_=>AA) .nil)) .nil AA AA (Am AI BE AA AA AA AA AA AA nj rfl (dn b5 AA ?_)));obtain rfl:=Sh.AB a;try dsimp only[id]at h0
        obtain rfl:=Sh.AB h0;exact Aq (Exists.intro _ (And.intro ((AT (L:=[(10,CY)]) (st':=(CR oR e.2 s1 [I0 e.1.op e.1.num e.1.kids])) [0,1,3] AA (by decide) rfl AA (.raw AA AA (.pure (AD λ_=>AA) (.raw AA AA .nil))) ⟨.rfl,jf⟩).trans (Ag (L:=[(10,CY)]) ⟨.rfl,jf⟩)) (Ar (x:=.tmp 10) (off:=0) (cs:=(LL e.1.op e.1.num e.1.kids)) (vs:=(LL e.1.op e.1.num e.1.kids)) BE AA AA AA nj rfl _ ⟨AA,AA⟩)))
       ·refine AG λd5 b7=>bs a λb8 f a=>?_;have b9:∀(F:Bool),b8=F->∀s,Wk 2 s ⟨114,Aa (QE p2 p3 p4 [(78,.bool F)]),Gb oR b.2 s1 oT []⟩->d5 s:=by
         intro F hq s B;subst b8;try dsimp only at a
         refine b7 _ (AK B ?_);refine ci a AA ?_ ?_<;>clear a<;>intro h5 a
         ·refine sr AA λh6 c0=>zm tb 2 AA (bs a λt c1 a=>L3 (v':=(ow 4 0 t)) AI (hb 141) (Rj c1) rfl (.agg (.val AA (.own AA AA (λ_=>AA) .nil)) (.val AA .nil)) rfl (gI (λ_=>AA) jf) rfl AA (zq tb AA (dn c0 AA (sr AA λh7 c2=>zq tb AA (zz (G8 t) (Cr Fp AA AA AA) rfl (zq tb AA (dn c2 AA ?_)))))));refine ci a AA ?_ ?_<;>clear a<;>intro h8 a
          ·refine sr AA λh9 c3=>zm tb 3 AA (zz (G8 t) (Cr Fp AA AA AA) rfl (bs a λu c4 a=>CL (rows0:=[CV oR b.2]) (rows1:=[CV oR u.2]) (st':=(Gb oR u.2 s1 oT [Bl t])) (v':=(i64 u.1)) [0] AI (hb 83) (Ay c4) rfl (by decide) rfl AA (.raw AA AA .nil) rfl AA (.raw AA AA .nil) .nil AA AA (bs a λy z a=>zz (Ty u.1) (Bz BQ AA AA AA AA z) rfl (zz (i64 y) (Bx HV AA AA (CU z) rfl) rfl (zq tb AA (dn c3 AA (AG λk0 c5=>Bd (JW s1 oT [Iz,Bl t]) 14 (by kernel_rfl) (by kernel_rfl) (by kernel_rfl) (by rfl) (BM (i64 y) AI AA (λ_ _=>BT AA) (BM BJ AI AA (λ_ _=>BT AA) (BM (HM oT s1) AI AA (λ_ _=>Ar D8 AA AA AA nk rfl) (BM (ls eI p2) AI AA (λ_ _=>BT AA) (BM (.ptr 2 0 0 1) AI AA (λ_ _=>E1 KP AA AA ns rfl) (BM (ow 1 0 s1) AI AA (λ_ _=>Bx Oc AA AA AA AA) (BM (i64 y) AI AA (λ_ _=>BT AA) (bs a λd6 A a=>BM (LR y) AI AA (λ_ _=>Bz Cu AA AA AA AA A) (BM (LR y) AI AA (λ_ _=>E1 RN AA AA (show 0+0<=5 by decide) rfl) (BM (ls eI d6.params) AI AA (λ_ _=>Bx JZ AA AA (CU A) rfl) (BM (i64 p4) AI AA (λ_ _=>BT AA) (BM (i64 (Sh.w (p4-1))) AI AA (λ_ _=>N7 AA AA) (bs a λp c6 a=>?_))))))))))))))))))));refine Gd (rows0:=(CR oR u.2 s1 [])) (rows1:=(CR oR p.2 s1 [])) (v':=(GV p.1)) (y0:=(CV oR p.2)) [0,1] AI (hb 139) (Ab.wk (IX om c6) (by refine Wk.trans (Wk.BL (L:=[(0,GV p.1)]) (st':=(CR oR p.2 s1 [CB])) (id:=2) rfl oN (AD Ad) ⟨.BL AA,jf⟩ AA) ?_;exact AT [0,1] AA (by decide) rfl AA (.raw AA AA (.pure (AD λ_=>AA) .nil)) (.same AA))) rfl (by decide) rfl AA (.raw AA AA (.pure (AD λ_=>AA) .nil)) rfl AA (λ_=>(.raw AA AA (.pure (AD λ_=>AA) .nil))) (λ_=>AA) rfl ?_;refine bs a λq c7 a=>FO AI (λx0 zz=>BW (v:=(Bc q)) AI (hb 114) (BV c7) rfl AA AA (Aw AA)) (Ez AA (Am AI BE AA AA AA AA AA AA nj rfl (dn c5 AA ?_)));obtain rfl:=Sh.AB a;try dsimp only[id]at h0
           obtain rfl:=Sh.AB h0;exact Aq (Exists.intro _ (And.intro ((AT (L:=[(10,CY)]) (st':=(CR oR p.2 s1 [I0 q.op q.num q.kids])) [0,1,3] AA (by decide) rfl AA (.raw AA AA (.pure (AD λ_=>AA) (.raw AA AA .nil))) ⟨.rfl,jf⟩).trans (Ag (L:=[(10,CY)]) ⟨.rfl,jf⟩)) (Ar (x:=.tmp 10) (off:=0) (cs:=(FI q)) (vs:=(FI q)) BE AA AA AA nj rfl _ ⟨AA,AA⟩)))
          ·exact AL (M9 b.2 (Sh.AB a).symm _ (AT [0,1,2,3] AA (by decide) rfl AA (.raw AA AA (.pure (AD λ_=>AA) (.raw AA AA (.raw AA AA .nil)))) (.same AA)))
         ·exact AL (M9 b.2 (Sh.AB a).symm _ (AJ AA))
        refine zr tb AA AA ?_;refine ci f AA ?_ ?_<;>clear f<;>intro d7 f
        ·exact AL (b9 true (Sh.AB f).symm _ (Ag (L:=(QE p2 p3 p4 [(78,.bool true)])) ⟨.rfl,.rfl,.rfl,.rfl,.rfl,.rfl,.of (kf AV.bool d7),jf⟩))
        ·exact AH AA (zm tb 2 AA (AF (b9 (decide (b.1=8)) (Sh.AB f).symm _ (AJ AA))))
      refine zr tb AA AA ?_;refine ci f AA ?_ ?_<;>clear f<;>intro d8 f
      ·exact AL (D true (Sh.AB f).symm _ (Ag (L:=(QE p2 p3 p4 [(22,i64 b.1),(68,.bool true)])) ⟨.rfl,.rfl,.rfl,.rfl,.rfl,.rfl,.rfl,.of (kf AV.bool d8),jf⟩))
      ·refine zr tb AA AA ?_;refine ci f AA ?_ ?_<;>clear f<;>intro d9 f
       ·exact AL (D true (Sh.AB f).symm _ (Ag (L:=(QE p2 p3 p4 [(22,i64 b.1),(68,.bool true)])) ⟨.rfl,.rfl,.rfl,.rfl,.rfl,.rfl,.rfl,.of (kf AV.bool d9),jf⟩))
       ·exact AH AA (zm tb 2 AA (AF (D (decide (b.1=6)) (Sh.AB f).symm _ (AJ AA))))
   refine zr tb AA AA ?_;refine ci f AA ?_ ?_<;>clear f<;>intro g0 f
   ·exact AL (Q true (Sh.AB f).symm _ (Ag (L:=(QE p2 p3 p4 [(22,i64 b.1),(30,.bool true)])) ⟨.rfl,.rfl,.rfl,.rfl,.rfl,.rfl,.rfl,.of (kf AV.bool g0),jf⟩))
   ·exact AH AA (zm tb 2 AA (AF (Q (decide (b.1=2)) (Sh.AB f).symm _ (AJ AA))))
theorem Vy {N:Nat}:∀(n:Nat),∀{oR:(List Int)} {oV:Int} {s1:(List Ac)} {oT:(List AM)} {p2:(List Int)} {p3:Int} {p4:Int} {r:AE×Int},JM N n oR oV s1 oT p2 p3 p4=some r->Ab Tryz.prog 134 (V4 oT s1 p2 p3 p4) (CR oR oV s1 []) (λv st=>v=(DR r.1.op r.1.num r.1.kids)/\st=(CR oR r.2 s1 [])):=by
 intro n
 induction n with
 | zero=>intro oR oV s1 oT p2 p3 p4 r a;cases a
 | succ n ih=>
  intro oR oV s1 oT p2 p3 p4 r a;rw[JM]at a;exact Uv (λh=>ih h) a
theorem Fl {N:Nat}:∀{oR:(List Int)} {oV:Int} {s1:(List Ac)} {oT:(List AM)} {p2:(List Int)} {p3:Int} {p4:Int} {r:AE×Int},Gu N oR oV s1 oT p2 p3 p4=some r->Ab Tryz.prog 134 (V4 oT s1 p2 p3 p4) (CR oR oV s1 []) (λv st=>v=(DR r.1.op r.1.num r.1.kids)/\st=(CR oR r.2 s1 [])):=by
 intro oR oV s1 oT p2 p3 p4 r a;exact Vy N a
theorem Sw {N:Nat}{oR:(List Int)}{oV p1:Int}{r:AE×Int}(h0:Jj N oR oV p1=some r):Ab Tryz.prog 135 [BJ,i64 p1] [CV oR oV] (λv st=>v=(DR r.1.op r.1.num r.1.kids)/\st=[CV oR r.2]):=by
 unfold Jj at h0;refine Ab.wk (r0:=(DR r.1.op r.1.num r.1.kids)) (st0:=[CV oR r.2,I0 r.1.op r.1.num r.1.kids]) (ai Tryz.func135 AA AA AA AA (sr AA λK1 Z=>Av (m:=1) AI DF AA AA (dn Z AA (sr AA λK2 b0=>?_)))) (De (L:=[(0,DR r.1.op r.1.num r.1.kids)]) (st':=[CV oR r.2]) [0] AA (by decide) rfl AA (.raw AA jf) (.same AA));refine BF (m:=2) (l:=([]:List AE)) (enc:=Au) AI BU (by decide) rfl AA (by simp only[List.map,Ai];rfl) rfl AA AA ?_;refine AR (Wk.BL (L:=[(0,BJ),(1,i64 p1),(4,CS),(10,RF)]) (st':=[CV oR oV,Iz,CB]) (id:=2) rfl nr (AD Ad) ⟨.rfl,.rfl,.rfl,.BL AA,jf⟩ AA) (bs h0 λA b1 h0=>zc (v':=(Bc A)) (hb 114) (BV b1) rfl AA AA (Av (m:=3) AI DF AA AA (Am AI BE AA AA AA AA AA AA nj rfl (AR (Wk.BL (L:=[(0,BJ),(1,i64 p1),(4,CS),(5,Da A)]) (st':=[CV oR oV,Iz,CB,CB]) (id:=3) rfl oC (EO AA) (.same AA) rfl) (dn b0 AA (AG λK4 b2=>zr tb AA AA ?_))))));refine ci h0 AA ?_ ?_<;>clear h0<;>intro b6 h0
 ·refine sr AA λK7 b3=>?_;refine BF (m:=4) (l:=([]:List AE)) (enc:=Au) AI BU (by decide) rfl AA (by simp only[List.map,Ai];rfl) rfl AA AA ?_;refine AR (Wk.BL (L:=[(0,BJ),(4,CS),(14,RF)]) (st':=[CV oR oV,Iz,CB,CB,CB]) (id:=4) rfl nt (AD Ad) ⟨.rfl,.rfl,.BL AA,jf⟩ AA) (bs h0 λk b4 h0=>zc (v':=(Bc k)) (hb 114) (BV b4) rfl AA AA (Av (m:=5) AI DF AA AA (Am AI BE AA AA AA AA AA AA nj rfl (AR (Wk.BL (L:=[(0,BJ),(4,CS),(6,Da k)]) (st':=[CV oR oV,Iz,CB,CB,CB,CB]) (id:=5) rfl oD (EO AA) (.same AA) rfl) (dn b3 AA (AG λK9 b5=>?_))))));refine AK (Dm (L:=[(0,BJ),(4,CS),(6,Da k)]) (st':=[CV oR oV,Iz,H4,H4,H4,H4]) (.raw AA AA AA (.raw AA AA AA (.pure AA (by intro x a;cases a) (.pure AA (by intro x a;cases a) (.pure AA (by intro x a;cases a) (.pure AA (by intro x a;cases a) .nil)))))) (.same AA)) ?_;refine Bd [Iz,H4,H4,H4,H4] 8 (by kernel_rfl) (by kernel_rfl) (by kernel_rfl) (by rfl) (BM (Bc k) AI AA (λ_ _=>HH BE AA nj rfl) (BM BJ AI AA (λ_ _=>BT AA) (bs h0 λc D h0=>Gd (rows0:=[CV oR oV]) (rows1:=[CV oR c.2]) (v':=(i64 c.1)) (y0:=(CV oR c.2)) [0] AI (hb 83) (Ay D) rfl (by decide) rfl AA (.raw AA AA .nil) rfl AA (λ_=>(.raw AA AA .nil)) (λ_=>AA) rfl (bs h0 λE F h0=>FO AI (λB zz=>BW (v:=(Bc E)) AI (hb 115) (Dc F) rfl AA AA (Aw AA)) (BM (Bc k) AI AA (λ_ _=>HH BE AA nj rfl) ?_)))));refine FO AI (λB zz=>F3 (l:=[k,E,k]) (enc:=Au) AI BU (by decide) rfl AA AA (by simp only[List.map,Ai];rfl) rfl (AD Ad) (Aw AA)) ?_;refine bs h0 λo G h0=>FO AI (λB zz=>BW (v:=(Bc o)) AI (hb 114) (BV G) rfl AA AA (Aw AA)) (ZS DF AA (Ez AA (Am AI BE AA AA AA AA AA AA nj rfl (AR (Wk.BL (L:=[(0,BJ),(4,CS),(6,Da k),(7,Da o)]) (st':=[CV oR c.2,Iz,H4,H4,H4,H4,CB]) (id:=6) rfl oH (EO AA) (.same AA) rfl) (dn b5 AA (AG λb9 H=>?_))))));refine AK (Dm (L:=[(0,BJ),(4,CS),(6,Da k),(7,Da o)]) (st':=[CV oR c.2,Iz,H4,H4,H4,H4,H4]) (.raw AA AA AA (.raw AA AA AA (.pure AA (by intro x a;cases a) (.pure AA (by intro x a;cases a) (.pure AA (by intro x a;cases a) (.pure AA (by intro x a;cases a) (.pure AA (by intro x a;cases a) .nil))))))) (.same AA)) ?_;refine Bd [Iz,H4,H4,H4,H4,H4] 7 (by kernel_rfl) (by kernel_rfl) (by kernel_rfl) (by rfl) (BM (Bc o) AI AA (λ_ _=>HH BE AA nj rfl) (BM BJ AI AA (λ_ _=>BT AA) (bs h0 λq I h0=>Gd (rows0:=[CV oR c.2]) (rows1:=[CV oR q.2]) (v':=(i64 q.1)) (y0:=(CV oR q.2)) [0] AI (hb 83) (Ay I) rfl (by decide) rfl AA (.raw AA AA .nil) rfl AA (λ_=>(.raw AA AA .nil)) (λ_=>AA) rfl (bs h0 λJ K h0=>FO AI (λB zz=>BW (v:=(Bc J)) AI (hb 115) (Dc K) rfl AA AA (Aw AA)) (BM (Bc k) AI AA (λ_ _=>HH BE AA nj rfl) ?_)))));refine FO AI (λB zz=>F3 (l:=[o,J,k]) (enc:=Au) AI BU (by decide) rfl AA AA (by simp only[List.map,Ai];rfl) rfl (AD Ad) (Aw AA)) ?_;refine bs h0 λd M h0=>FO AI (λB zz=>BW (v:=(Bc d)) AI (hb 114) (BV M) rfl AA AA (Aw AA)) (Ez AA (Am AI BE AA AA AA AA AA AA nj rfl (dn H AA ?_)));obtain rfl:=Sh.AB h0;exact Aq (Exists.intro _ (And.intro ((AT (L:=[(4,CS)]) (st':=[CV oR q.2,I0 d.op d.num d.kids]) [0,1] AA (by decide) rfl AA (.raw AA AA (.raw AA AA .nil)) ⟨.rfl,jf⟩).trans (Ag (L:=[(4,CS)]) ⟨.rfl,jf⟩)) (Ar (x:=.tmp 4) (off:=0) (cs:=(FI d)) (vs:=(FI d)) BE AA AA AA nj rfl _ ⟨AA,AA⟩)))
 ·refine AL (b2 _ (sr AA λc0 O=>zq tb AA (Av (m:=4) AI DF AA AA (Am AI BE AA AA AA AA AA AA nj rfl (dn O AA (AG λb7 P=>sr AA λc1 Q=>zq tb AA (bs h0 λp R h0=>CL (rows0:=[CV oR oV]) (rows1:=[CV oR p.2]) (st':=[CV oR p.2,Iz,CB,CB,I0 A.op A.num A.kids]) (v':=(i64 p.1)) [0] AI (hb 83) (Ay R) rfl (by decide) rfl AA (.raw AA AA .nil) rfl AA (.raw AA AA .nil) .nil AA AA (zm tb 2 AA (dn Q AA (bs h0 λC b h0=>?_))))))))));have b8:∀(t:Int) (e:Int) (f:Int) (g:(List AE)),C=(t,e,f,g)->∀s,Wk 1 s ⟨45,Aa [(4,CS),(8,CY)],[CV oR t,Iz,I0 e f g]⟩->b7 s:=by
   intro t e f g hq s hw;subst C;try dsimp only at h0
   refine P _ (AK hw (sr AA λc2 S=>zq tb AA (Am AI BE AA AA AA AA AA AA nj rfl (dn S AA ?_))));obtain rfl:=Sh.AB h0;exact Aq (Exists.intro _ (And.intro ((AT (L:=[(4,CS)]) (st':=[CV oR t,I0 e f g]) [0,1] AA (by decide) rfl AA (.raw AA AA (.raw AA AA .nil)) ⟨.rfl,jf⟩).trans (Ag (L:=[(4,CS)]) ⟨.rfl,jf⟩)) (Ar (x:=.tmp 4) (off:=0) (cs:=(LL e f g)) (vs:=(LL e f g)) BE AA AA AA nj rfl _ ⟨AA,AA⟩)))
  refine AU (Ax (σ:=Int×Int×Int×Int×(List AE)) (λn v=>Fa oR n v.1 v.2.1 v.2.2.1 v.2.2.2.1 v.2.2.2.2=some C) (λ(yM,u,h,i,j)=>⟨45,Aa [(0,.ptr 0 0 0 0),(4,.ptr 1 0 0 0),(8,.ptr 2 0 0 0),(9,i64 yM)],[CV oR u,Iz,I0 h i j]⟩) N (Sh.w (1+p.1),p.2,A.op,A.num,A.kids) b (AT [0,1,4] AA (by decide) rfl AA (.raw AA AA (.raw AA AA (.raw AA AA .nil))) (.same AA)) (λ_ hv=>by rw[Fa]at hv;cases hv) ?_);rintro n ⟨yM,u,h,i,j⟩ b;try dsimp only at b⊢
  rw[Fa]at b;refine AG λc3 T=>zr tb AA AA ?_;refine ci b AA ?_ ?_<;>clear b<;>intro c4 b
  ·refine AL (T _ (AG λc5 U=>AU (Bd [Iz,I0 h i j] 6 (by kernel_rfl) (by kernel_rfl) (by kernel_rfl) (by rfl) (BM BJ AI AA (λ_ _=>BT AA) (bs b λy V b=>Gd (rows0:=[CV oR u]) (rows1:=[CV oR y.2]) (v':=(i64 y.1)) (y0:=(CV oR y.2)) [0] AI (hb 143) (NT V) rfl (by decide) rfl AA (.raw AA AA .nil) rfl AA (λ_=>(.raw AA AA .nil)) (λ_=>AA) rfl (bs b λW X b=>FO AI (λB zz=>BW (v:=(Bc W)) AI (hb 115) (Dc X) rfl AA AA (Aw AA)) (BM (DR h i j) AI AA (λ_ _=>Ar BE AA AA AA nj rfl) ?_)))))));refine FO AI (λB zz=>F3 (l:=[W,AE.mk h i j]) (enc:=Au) AI BU (by decide) rfl AA AA (by simp only[List.map,Ai];rfl) rfl (AD Ad) (Aw AA)) ?_;exact bs b λz Y b=>FO AI (λB zz=>BW (v:=(Bc z)) AI (hb 114) (BV Y) rfl AA AA (Aw AA)) (Ez AA (Am AI BE AA AA AA AA AA AA nj rfl (dn U AA (AH AA (zm tb 3 AA (AF (xi (Sh.w (yM-1),y.2,z.op,z.num,z.kids) b (AJ AA))))))))
  ·exact BD (b8 u h i j (Sh.AB b).symm _ (AJ AA))
theorem Re {N:Nat}{oR:(List Int)}{oV:Int}{s1:(List Ac)}{oT:(List AM)}{r:AE×Int}(h0:I8 N oR oV s1 oT=some r):Ab Tryz.prog 119 [BJ,HM oT s1] (CR oR oV s1 []) (λv st=>v=(DR r.1.op r.1.num r.1.kids)/\st=(CR oR r.2 s1 [])):=by
 unfold I8 at h0;refine Ab.wk (r0:=(DR r.1.op r.1.num r.1.kids)) (st0:=(CR oR r.2 s1 [I0 r.1.op r.1.num r.1.kids])) (ai Tryz.func119 AA AA AA AA (sr AA λM z=>Bf (m:=2) AI AA AA AA AA AA (Av (m:=3) AI DF AA AA (dn z AA (sr AA λO A=>zq tb AA (BF (m:=4) (l:=[(1:Int),1,3]) (enc:=eI) AI BQ (by decide) rfl AA AA AA AA AA (AR (Wk.BL (L:=[(0,BJ),(3,CY),(4,HN),(7,BJ),(8,ls eI [(1:Int),1,3])]) (st':=(Gb oR oV s1 oT [⟨1,3,1,[]⟩])) (id:=4) rfl nv (AD λ_=>AA) ⟨.rfl,.rfl,.rfl,.rfl,.BL AA,jf⟩ AA) (bs h0 λf B h0=>CL (rows0:=[CV oR oV]) (rows1:=[CV oR f.2]) (st':=(Gb oR f.2 s1 oT [⟨1,3,1,[]⟩])) (v':=(i64 f.1)) [0] AI (hb 70) (CE B) rfl (by decide) rfl AA (.raw AA AA .nil) rfl AA (.raw AA AA .nil) .nil AA AA (zq tb AA (dn A AA (sr AA λP C=>zm tb 3 AA (BF (m:=5) (l:=[f.1]) (enc:=eI) AI BQ (by decide) rfl AA AA AA AA AA (AR (Wk.BL (L:=[(0,BJ),(4,HN),(5,i64 f.1),(10,BJ),(11,HM oT s1),(13,ls eI [f.1])]) (st':=(Gb oR f.2 s1 oT (Ci []))) (id:=5) rfl ny (AD λ_=>AA) ⟨.rfl,.rfl,.rfl,.rfl,.agg ⟨.rfl,.rfl,jf⟩,.BL AA,jf⟩ AA) (bs h0 λa D h0=>CL (rows0:=(CR oR f.2 s1 [])) (rows1:=(CR oR a.2 s1 [])) (st':=(Gb oR a.2 s1 oT (Ci []))) (v':=(DR a.1.op a.1.num a.1.kids)) [0,1] AI (hb 134) (Fl D) rfl (by decide) rfl AA (.raw AA AA (.pure (AD λ_=>AA) .nil)) rfl AA (.raw AA AA (.pure (AD λ_=>AA) .nil)) .nil AA AA (Av (m:=6) AI DF AA AA (Am AI BE AA AA AA AA AA AA nj rfl (dn C AA (AG λF E=>bs h0 λk g h0=>?_)))))))))))))))))) (De (L:=[(0,DR r.1.op r.1.num r.1.kids)]) (st':=(CR oR r.2 s1 [])) [0,1] AA (by decide) rfl AA (.raw AA (.pure (AD λ_=>AA) jf)) (.same AA));have n:∀(y:Int) (i:Int) (j:Int) (c:(List AE)),k=(y,i,j,c)->∀s,Wk 2 s ⟨27,Aa [(0,BJ),(4,CY),(5,i64 f.1),(6,HN)],CR oR y s1 [Iz,I0 i j c]⟩->F s:=by
  intro y i j c Q s G;subst k;try dsimp only at h0
  refine E _ (AK G (AG λH o=>Bd [Mb s1,Iz,I0 i j c] 6 (by kernel_rfl) (by kernel_rfl) (by kernel_rfl) (by rfl) (BM BJ AI AA (λ_ _=>BT AA) (BM (i64 f.1) AI AA (λ_ _=>BT AA) (bs h0 λb p h0=>Gd (rows0:=[CV oR y]) (rows1:=[CV oR b.2]) (v':=(DR b.1.op b.1.num b.1.kids)) (y0:=(CV oR b.2)) [0] AI (hb 135) (Sw p) rfl (by decide) rfl AA (.raw AA AA .nil) rfl AA (λ_=>(.raw AA AA .nil)) (λ_=>AA) rfl (BM (DR i j c) AI AA (λ_ _=>Ar BE AA AA AA nj rfl) ?_))))));refine FO AI (λI zz=>F3 (l:=[b.1,AE.mk i j c]) (enc:=Au) AI BU (by decide) rfl AA AA (by simp only[List.map,Ai];rfl) rfl (AD Ad) (Aw AA)) ?_;refine bs h0 λd q h0=>FO AI (λI zz=>BW (v:=(Bc d)) AI (hb 114) (BV q) rfl AA AA (Aw AA)) (Ez AA (Am AI BE AA AA AA AA AA AA nj rfl (dn o AA ?_)));obtain rfl:=Sh.AB h0;exact Aq (Exists.intro _ (And.intro ((AT (L:=[(4,CY)]) (st':=(CR oR b.2 s1 [I0 d.op d.num d.kids])) [0,1,2] AA (by decide) rfl AA (.raw AA AA (.pure (AD λ_=>AA) (.raw AA AA .nil))) ⟨.rfl,jf⟩).trans (Ag (L:=[(4,CY)]) ⟨.rfl,jf⟩)) (Ar (x:=.tmp 4) (off:=0) (cs:=(FI d)) (vs:=(FI d)) BE AA AA AA nj rfl _ ⟨AA,AA⟩)))
 refine sr AA λJ t=>zq tb AA (bs g λe u g=>CL (rows0:=[CV oR a.2]) (rows1:=[CV oR e.2]) (st':=(Gb oR e.2 s1 oT (Ci [I0 a.1.op a.1.num a.1.kids]))) (v':=(i64 e.1)) [0] AI (hb 83) (Ay u) rfl (by decide) rfl AA (.raw AA AA .nil) rfl AA (.raw AA AA .nil) .nil AA AA (zq tb AA (dn t AA ?_)));refine ci g AA ?_ ?_<;>clear g<;>intro K g
 ·refine AH AA (zq tb AA ?_);refine BF (m:=7) (l:=[a.1]) (enc:=Au) AI BU (by decide) rfl AA (by simp only[List.map,Ai];rfl) rfl AA AA ?_;exact AR (Wk.BL (L:=[(0,BJ),(4,HN),(5,i64 f.1),(6,.ptr 6 0 0 0),(19,ls Au [a.1])]) (st':=(Gb oR e.2 s1 oT (Ci [I0 a.1.op a.1.num a.1.kids,CB]))) (id:=7) rfl (show 2<=7 by decide) (AD Ad) ⟨.rfl,.rfl,.rfl,.rfl,.BL AA,jf⟩ AA) (bs g λh w g=>zc (v':=(Bc h)) (hb 114) (BV w) rfl AA AA (Am AI BE AA AA AA AA AA AA nj rfl (AF (n e.2 h.op h.num h.kids (Sh.AB g).symm _ (AT [0,1,3,6] AA (by decide) rfl AA (.raw AA AA (.pure (AD λ_=>AA) (.raw AA AA (.raw AA AA .nil)))) (.same AA))))))
 ·exact AL (n e.2 a.1.op a.1.num a.1.kids (Sh.AB g).symm _ (AT [0,1,3,6] AA (by decide) rfl AA (.raw AA AA (.pure (AD λ_=>AA) (.raw AA AA (.raw AA AA .nil)))) (.same AA)))
end
end Go.Proofs.YtihdgoiebmfapaaGreat
