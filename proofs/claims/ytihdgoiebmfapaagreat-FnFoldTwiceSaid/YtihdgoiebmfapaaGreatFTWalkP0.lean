import Derived.Test.YtihdgoiebmfapaaGreatProg
import Derived.Test.YtihdgoiebmfapaaGreatGAbsXToAbsZN
import Derived.Test.YtihdgoiebmfapaaGreatGAbsZPToSSDefs
import Derived.Test.YtihdgoiebmfapaaGreatGHADefsToFTDefs
import Derived.Test.YtihdgoiebmfapaaGreatAbsQ
import Derived.Test.YtihdgoiebmfapaaGreatAbsZQ
import Derived.Test.YtihdgoiebmfapaaGreatCFWalk
import Derived.Test.YtihdgoiebmfapaaGreatLAWalk
namespace Go.Proofs.YtihdgoiebmfapaaGreat
open Go Go.Abs RC
attribute [local irreducible] Go.Abs.D6
set_option maxRecDepth 100000
theorem Jd:([11,12,13,14,15,21,22,25,26,27,29,31,32,33,34,35,36,37,43,44,47,48,53,54,55,56,57,58,59,60,61,62,63,64,65,66,67,68,70,72,74,76,77,78,79,80,81,82,83,84,85,86,87,88,89,90,91,92,93,94,95,96,97,98,99,100,101,102,103,104,105,106,109,110,111,112,113,114,115,116,117,118,119,120,121,122,123,126,127,128,129,130,131,132,133,134,135,136,137,138,139,140,141,142,143,144,145,146,147].all λn=>Dl Tryz.prog n)=true:=by kernel_rfl
theorem hb (n:Nat)(h:[11,12,13,14,15,21,22,25,26,27,29,31,32,33,34,35,36,37,43,44,47,48,53,54,55,56,57,58,59,60,61,62,63,64,65,66,67,68,70,72,74,76,77,78,79,80,81,82,83,84,85,86,87,88,89,90,91,92,93,94,95,96,97,98,99,100,101,102,103,104,105,106,109,110,111,112,113,114,115,116,117,118,119,120,121,122,123,126,127,128,129,130,131,132,133,134,135,136,137,138,139,140,141,142,143,144,145,146,147].contains n=true:=by decide):Dl Tryz.prog n=true:=jq.1 Jd n (List.contains_iff_mem.1 h)
noncomputable abbrev Cw (z0:List Int)(z1:Int):Go.Abs.Row:=⟨0,72,2,[[ls E4 z0,i64 z1]]⟩
noncomputable abbrev J2:Go.Abs.Row:=⟨0,35,3,[[i64 0,i64 0,.zc]]⟩
noncomputable abbrev Fg (z0 z1:Int)(z2:List AE):Go.Abs.Row:=⟨0,35,3,[[i64 z0,i64 z1,ls Au z2]]⟩
noncomputable abbrev Oy:Go.Abs.Row:=⟨0,26,2,[[.zc,.zc]]⟩
noncomputable abbrev iL (z0:List AM):Go.Abs.Row:=⟨0,26,2,[[ls Aj z0,.zc]]⟩
noncomputable abbrev DW (z0:List Int)(z1:Int):Go.Abs.Row:=⟨0,72,2,[[ls E4 z0,i64 z1]]⟩
noncomputable abbrev LZ:Go.Abs.Row:=⟨0,26,2,[[.zc,.zc]]⟩
noncomputable abbrev gl (z0 z1:Int)(z2:List AE):Go.Abs.Row:=⟨0,35,3,[[i64 z0,i64 z1,ls Au z2]]⟩
noncomputable abbrev P5 (z0:Int):Go.Abs.Row:=⟨0,3,1,[[i64 z0]]⟩
noncomputable abbrev bj (z0:List AM)(z1:List Ac):Go.Abs.Row:=⟨0,26,2,[[ls Aj z0,ls BS z1]]⟩
noncomputable abbrev bk:Go.Abs.Row:=⟨0,80,3,[[i64 0,i64 0,.zc]]⟩
noncomputable abbrev aH:Go.Abs.Row:=⟨0,99,2,[[.zc,.zc]]⟩
noncomputable abbrev E9:Go.Abs.Row:=⟨0,35,3,[[i64 0,i64 0,.zc]]⟩
noncomputable abbrev Gz (z0:List AM)(z1:List Ac):Go.Abs.Row:=⟨0,26,2,[[ls Aj z0,ls BS z1]]⟩
noncomputable abbrev PI (z0 z1:Int)(z2:List AE):Go.Abs.Row:=⟨0,35,3,[[i64 z0,i64 z1,ls Au z2]]⟩
noncomputable abbrev T5:Go.Abs.Row:=⟨0,26,2,[[.zc,.zc]]⟩
noncomputable abbrev Ct (z0:List AM)(z1:List Ac):Go.Abs.Row:=⟨0,26,2,[[ls Aj z0,ls BS z1]]⟩
noncomputable abbrev Ot (z0 z1:Int)(z2:List AE):Go.Abs.Row:=⟨0,35,3,[[i64 z0,i64 z1,ls Au z2]]⟩
noncomputable abbrev Gx:Go.Abs.Row:=⟨0,26,2,[[.zc,.zc]]⟩
noncomputable abbrev cu:Go.Abs.Row:=⟨0,35,3,[[i64 0,i64 0,.zc]]⟩
noncomputable abbrev FI (z0:AE):=([i64 z0.op,i64 z0.num,ls Au z0.kids]:List AV)
noncomputable abbrev Pj (z0:Ac):=([ls eI z0.params,i64 z0.result,i64 z0.body.op,i64 z0.body.num,ls Au z0.body.kids]:List AV)
noncomputable abbrev aa (z0:_){α1:Type}(z1:List α1):=(⟨0,26,2,[[ls Aj z0,ow 1 0 z1]]⟩:Row)
noncomputable abbrev Me (z0:_):=((ro 0 37 5 BS z0):Row)
noncomputable abbrev BJ:=((.ptr 0 0 0 0):AV)
noncomputable abbrev DM (z0 z1 z2:_):=((.agg [i64 z0,i64 z1,ls Au z2]):AV)
noncomputable abbrev DL (z0:AE):=((ro 0 35 3 (BP 35) z0.kids):Row)
noncomputable abbrev CY:=((.ptr 2 0 0 0):AV)
noncomputable abbrev CS:=((.ptr 1 0 0 0):AV)
noncomputable abbrev CC:=(⟨1,35,3,[]⟩:Row)
noncomputable abbrev cG (z0:AP):=([ls Aj z0.decls,ls BS z0.funcs]:List AV)
noncomputable abbrev LO (z0:AE):=([i64 z0.op,i64 z0.num,ow 2 0 z0.kids]:List AV)
noncomputable abbrev HH:=((.ptr 3 0 0 0):AV)
noncomputable abbrev Bl (z0:_):=((ro 0 3 1 eI z0):Row)
noncomputable abbrev Bc (z0:_):=((.agg (FI z0)):AV)
noncomputable abbrev HG (z0:_){α1:Type}(z1:List α1):=((.agg [ls Aj z0,ow 1 0 z1]):AV)
noncomputable abbrev X1 (z0 z1:_)(z2:Ac):=(⟨0,37,5,hole z0 (DK 3 35) z1 [ow 5 0 z2.params,i64 z2.result,i64 z2.body.op,i64 z2.body.num,ow 6 0 z2.body.kids]⟩:Row)
noncomputable abbrev LW (z0:_):=(⟨0,99,2,[GB z0]⟩:Row)
noncomputable abbrev Da (z0:_):=((.Bh (FI z0) 0):AV)
noncomputable abbrev Mg (z0:AE):=([i64 z0.op,i64 z0.num,ow 4 0 z0.kids]:List AV)
noncomputable abbrev GW (z0:_):=((ro 0 35 3 Au z0):Row)
noncomputable abbrev Cs (z0:_):=((ls Aj z0):AV)
noncomputable abbrev Ha (z0:_):=((ro 0 35 3 (BP 35) z0):Row)
noncomputable abbrev Og (z0 z1:_):=((.Bh [i64 0,i64 0,ls CB [z0,z1]] 0):AV)
noncomputable abbrev RI:=([.sl (List.map Aj []),.sl (List.map BS [])]:List AV)
noncomputable abbrev Mf (z0:_):=((ro 0 37 5 (DK 3 35) z0):Row)
noncomputable abbrev G8 {α0:Type}(z0:List α0):=((i64 (Sh.len z0)):AV)
noncomputable abbrev NN:=(⟨1,80,3,[]⟩:Row)
noncomputable abbrev Ul (z0:AE):=([i64 z0.op,i64 z0.num,ow 3 0 z0.kids]:List AV)
noncomputable abbrev Hq:=(⟨0,35,3,[]⟩:Row)
noncomputable abbrev IQ (z0:_):=((ro 0 80 3 Aj z0):Row)
noncomputable abbrev P9 (z0:_):=((ro 0 80 3 (BZ 82 3) z0):Row)
noncomputable abbrev Pe (z0 z1:_){α2:Type}(z2:List α2):=(⟨0,35,3,[[i64 z0,i64 z1,ow 0 0 z2]]⟩:Row)
noncomputable abbrev GN (z0:_):=((ls Au z0):AV)
noncomputable abbrev X7 (z0:Ac):=((.agg [i64 z0.body.op,i64 z0.body.num,ls Au z0.body.kids]):AV)
noncomputable abbrev fJ {α0:Type}(z0:List α0){α1:Type}(z1:List α1):=(⟨0,26,2,[[ow 2 0 z0,ow 3 0 z1]]⟩:Row)
noncomputable abbrev Jx (z0:_):=((.agg (GB z0)):AV)
noncomputable abbrev K0 (z0:_):=((.ptr 1 0 (Int.toNat z0) 0):AV)
noncomputable abbrev cH (z0:Ac):=([ow 6 0 z0.params,i64 z0.result,i64 z0.body.op,i64 z0.body.num,ow 5 0 z0.body.kids]:List AV)
noncomputable abbrev Lv:=(⟨1,82,1,[]⟩:Row)
noncomputable abbrev RZ (z0:AE):=([i64 z0.op,i64 z0.num,ow 0 0 z0.kids]:List AV)
noncomputable abbrev Tu (z0 z1:_){α2:Type}(z2:List α2):=(⟨0,35,3,[[i64 z0,i64 z1,ow 1 0 z2]]⟩:Row)
noncomputable abbrev Su (z0:AE):=([i64 z0.op,i64 z0.num,ow 1 0 z0.kids]:List AV)
noncomputable abbrev QA (z0:Ac):=((ro 0 35 3 (BP 35) z0.body.kids):Row)
noncomputable abbrev T9 (z0:AE)(z1:_){α2:Type}(z2:List α2):=(⟨0,35,3,[[i64 z0.op,i64 z1,ow 1 0 z2]]⟩:Row)
noncomputable abbrev Ft (z0:_):=((.agg (Pj z0)):AV)
noncomputable abbrev eW (z0:AE):=([i64 z0.op,i64 z0.num,.dv 35 3 (List.map (BP 35) z0.kids)]:List AV)
noncomputable abbrev Ve (z0:AE):=([i64 z0.op,i64 z0.num,ow 5 0 z0.kids]:List AV)
noncomputable abbrev KA (z0:_):=((i64 (Sh.w (z0+1))):AV)
noncomputable abbrev LA (z0 z1 z2:_):=([i64 z0,i64 z1,GN z2]:List AV)
noncomputable abbrev Mh (z0 z1 z2 z3 z4 z5:_):=((ro 0 37 5 BS [z0,z1,z2,z3,z4,z5]):Row)
noncomputable abbrev Q0:=((.sl (List.map Au [])):AV)
noncomputable abbrev bx (z0:Ac):=((.agg [i64 z0.body.op,i64 z0.body.num,ow 6 0 z0.body.kids]):AV)
noncomputable abbrev T3:=((.sl (List.map CB [])):AV)
noncomputable abbrev JU (z0:_):=((.agg (CB z0)):AV)
noncomputable abbrev Qr:=((.sl (List.map eI [])):AV)
noncomputable abbrev LV:=((.ptr 4 0 0 0):AV)
noncomputable abbrev H5 (z0:_):=((.agg (cG z0)):AV)
noncomputable abbrev Xm:=([.sl (List.map Aj []),.zc]:List AV)
noncomputable abbrev UD (z0:_):=((.ptr 4 0 (Int.toNat z0) 0):AV)
noncomputable abbrev dK (z0:Ac):=((.agg [i64 z0.body.op,i64 z0.body.num,ow 5 0 z0.body.kids]):AV)
noncomputable abbrev Oq (z0 z1:_):=([Cs z0,ls BS z1]:List AV)
noncomputable abbrev Wj (z0 z1:_):=((.Dw [.agg (Aj z0),.bool z1]):AV)
noncomputable abbrev Xf (z0:AE):=((i64 (Sh.len z0.kids)):AV)
noncomputable abbrev eb (z0 z1:_):=([CC,E9,DL z0,⟨0,35,3,hole z1 (BP 35) 0 (LO z0)⟩]:List Row)
noncomputable abbrev Wd (z0:_){α1:Type}(z1:List α1)(z2 z3 z4:_):=([BJ,HG z0 z1,ls eI z2,i64 z3,i64 z4]:List AV)
noncomputable abbrev Zx (z0:AP):=((ls BS z0.funcs):AV)
noncomputable abbrev Q3 (z0:_):=((ro 0 35 3 Au [z0]):Row)
noncomputable abbrev U5 (z0:_):=(⟨0,80,3,[Aj z0]⟩:Row)
noncomputable abbrev TA:=([⟨1,3,1,[]⟩]:List Row)
noncomputable abbrev aF (z0 z1:_):=(⟨0,35,3,hole z0 (BP 35) 0 (Ul z1)⟩:Row)
noncomputable abbrev cJ:=((.own 0 0 (List.length ([]:List Int))):AV)
set_option maxHeartbeats 4000000
def tb:Ka Tryz.prog where
 t:=[(22,false,1),(23,false,1),(24,false,1),(26,true,2),(3,false,1),(32,false,1),(33,false,1),(35,true,3),(37,true,5),(5,false,1),(78,false,1),(80,true,3),(82,true,1),(93,false,1),(95,true,3),(99,true,2)]
 f:=[(26,0,0),(26,1,1),(35,0,0),(35,1,1),(35,2,2),(37,0,0),(37,1,1),(37,2,2),(72,0,0),(72,1,1),(80,0,0),(80,1,1),(80,2,2),(82,0,0),(95,0,0),(95,1,1),(95,2,2),(99,0,0),(99,1,1)]
 v:=[]
 b:=[4]
 s:=[119,22,23,24,32,33,78,93]
 ht:=by kernel_rfl
 hf:=by kernel_rfl
 hv:=by kernel_rfl
 hb:=by kernel_rfl
 hs:=by kernel_rfl
noncomputable abbrev CT (z0:List Int)(z1:Int):Go.Abs.Row:=⟨0,72,2,[[ls E4 z0,i64 z1]]⟩
noncomputable abbrev Iy:Go.Abs.Row:=⟨0,35,3,[[i64 0,i64 0,.zc]]⟩
noncomputable abbrev I0 (z0 z1:Int)(z2:List AE):Go.Abs.Row:=⟨0,35,3,[[i64 z0,i64 z1,ls Au z2]]⟩
noncomputable abbrev WO (z0:List AM)(z1:List Ac):Go.Abs.Row:=⟨0,26,2,[[ls Aj z0,ls BS z1]]⟩
noncomputable abbrev Ch (r:List (Go.Abs.Row)):=⟨1,3,1,[]⟩::⟨1,3,1,[]⟩::r
noncomputable abbrev NI (r:List (Go.Abs.Row)):=⟨0,3,1,[]⟩::⟨0,3,1,[]⟩::⟨0,3,1,[]⟩::r
noncomputable abbrev GH (z0:List Int)(z1:Int)(z2 z3:_)(r:List (Go.Abs.Row)):=(Cw z0 z1)::(Me z2)::(aa z3 z2)::J2::r
noncomputable abbrev QL (z0 z1 z2:_)(r:List (Nat×AV)):=(0,BJ)::(2,ls eI z0)::(3,i64 z1)::(4,i64 z2)::(6,CY)::(10,HH)::r
noncomputable abbrev Ge (z0:List Int)(z1:Int)(z2 z3:_)(r:List (Go.Abs.Row)):=(CT z0 z1)::(Me z2)::(aa z3 z2)::Iy::r
noncomputable abbrev N2 (z0 z1:_)(r:List (Nat×AV)):=(0,BJ)::(2,i64 z0)::(3,i64 z1)::(5,CY)::(8,HH)::r
noncomputable abbrev Sr (z0:AP)(z1:_)(r:List (Nat×AV)):=(1,.fn 35 [BJ])::(2,.Bh (cG z0) 0)::(4,CS)::(6,CY)::(7,i64 z1)::r
noncomputable abbrev Mb (z0:_)(r:List (Nat×AV)):=(0,BJ)::(2,i64 z0)::(4,CY)::(6,HH)::r
noncomputable abbrev Xk (z0 z1:_)(z2:AE)(z3:_)(r:List (Nat×AV)):=(1,i64 z0)::(2,i64 z1)::(3,BJ)::(6,CY)::(27,ls Au z2.kids)::(28,Xf z2)::(29,i64 z3)::r
noncomputable abbrev QG (z0 z1:_)(r:List (Nat×AV)):=(1,ls eI z0)::(3,ls (eS eI) z1)::(4,BJ)::r
noncomputable abbrev QD (z0 z1:_)(r:List (Nat×AV)):=(13,GN z0)::(14,G8 z0)::(15,i64 z1)::r
noncomputable abbrev bd (z0:_)(z1:AE)(r:List (Nat×AV)):=(1,ls eI z0)::(3,BJ)::(5,CS)::(7,.bool (decide (z1.num=0)))::(15,i64 z1.op)::r
noncomputable abbrev Tw (z0 z1:_)(r:List (Nat×AV)):=(0,Cs z0)::(2,i64 z1)::(3,.fn 35 [CS])::r
noncomputable abbrev CR (z0:List Int)(z1:Int)(z2:_)(r:List (Go.Abs.Row)):=(CT z0 z1)::(Me z2)::r
noncomputable abbrev OE (r:List (Nat×AV)):=(0,BJ)::(2,CS)::(3,HH)::r
noncomputable abbrev WU (z0:AE)(r:List (Nat×AV)):=(4,CS)::(65,i64 z0.op)::(67,i64 z0.num)::r
noncomputable abbrev Nf (z0 z1:_)(r:List (Nat×AV)):=(2,i64 z0)::(3,ls eI z1)::r
noncomputable abbrev Sw (z0:AP)(r:List (Nat×AV)):=(2,BJ)::(3,CS)::(11,Zx z0)::r
noncomputable abbrev Sm (z0 z1:_)(r:List (Go.Abs.Row)):=T5::(fJ z0 z1)::(P9 z0)::(Mf z1)::r
noncomputable abbrev QH {α0:Type}(z0:List α0)(z1:_)(r:List (Nat×AV)):=(13,G8 z0)::(14,i64 z1)::r
noncomputable abbrev JR (z0 z1:_)(r:List (Go.Abs.Row)):=(Me z0)::(aa z1 z0)::r
noncomputable abbrev aA (z0:_){α1:Type}(z1:List α1)(z2:_)(r:List (Nat×AV)):=(1,i64 z0)::(2,BJ)::(5,ow 1 0 z1)::(6,i64 z2)::r
noncomputable abbrev cg (z0:_)(r:List (Nat×AV)):=(13,i64 z0)::(16,.ptr 2 0 0 1)::(18,i64 z0)::r
noncomputable abbrev eC (z0:List Int)(z1:Int)(z2 z3:_)(r:List (Go.Abs.Row)):=(DW z0 z1)::(ro 1 37 5 BS z2)::⟨0,26,2,[[Cs z3,ow 1 1 z2]]⟩::r
noncomputable abbrev dE {α0:Type}(z0:List α0)(z1 z2:_)(r:List (Nat×AV)):=(3,ow 1 0 z0)::(63,ow 1 0 z0)::(64,i64 z1)::(66,i64 z2)::r
noncomputable abbrev gk (r:List (Go.Abs.Row)):=(ro 0 80 3 (BZ 82 3) ([]:List AM))::(ro 0 37 5 (DK 3 35) ([]:List Ac))::r
noncomputable abbrev ZF (z0 z1:_)(z2:AE)(r:List (Go.Abs.Row)):=(Bl z0)::(LW z1)::(PI z2.op z2.num z2.kids)::r
noncomputable abbrev Z8 (z0 z1:_)(z2:AE)(z3:List AM)(z4:List Ac)(r:List (Go.Abs.Row)):=⟨0,35,3,hole z0 (BP 35) z1 (LO z2)⟩::(Gz z3 z4)::r
noncomputable abbrev FA (z0:List Int)(z1:Int)(z2:_)(r:List (Go.Abs.Row)):=(Cw z0 z1)::(Me z2)::r
noncomputable abbrev P7 (z0:List Int)(z1:Int)(z2:List AM)(r:List (Go.Abs.Row)):=(Cw z0 z1)::Oy::NN::(iL z2)::r
noncomputable abbrev gy (z0 z1 z2 z3 z4:_)(r:List (Nat×AV)):=(0,BJ)::(3,Og z0 z1)::(4,Og z2 z3)::(23,.agg [i64 0,i64 0,ls CB [z4]])::(24,.agg [i64 1,i64 0,T3])::r
noncomputable abbrev cC (z0:_)(r:List (Nat×AV)):=(2,i64 z0)::(3,BJ)::(4,CS)::(6,CY)::r
noncomputable abbrev Xv (z0:AE)(r:List (Go.Abs.Row)):=(Ot z0.op z0.num z0.kids)::cu::r
noncomputable abbrev Xr (z0:List Int)(z1:Int)(z2:_)(r:List (Go.Abs.Row)):=(DW z0 z1)::(IQ z2)::⟨1,3,1,[]⟩::r
noncomputable abbrev fU (z0:_)(z1:Ac)(r:List (Nat×AV)):=(0,BJ)::(3,CY)::(4,HH)::(5,i64 z0)::(6,.Bh (Pj z1) 0)::r
noncomputable abbrev dP (z0 z1:_)(r:List (Go.Abs.Row)):=(Me z0)::⟨0,26,2,[[Cs z1,ow 2 0 z0]]⟩::r
noncomputable abbrev YM (z0:AE)(r:List (Nat×AV)):=(6,CS)::(82,ow 2 0 z0.kids)::r
noncomputable abbrev ZA (r:List (Go.Abs.Row)):=Lv::NN::⟨1,3,1,[]⟩::r
noncomputable abbrev hZ (z0:_)(z1:AE)(z2 z3:_)(r:List (Go.Abs.Row)):=CC::⟨0,35,3,hole z0 (BP 35) 0 (eW z1)⟩::(Tu z2 z3 z0)::E9::CC::⟨0,35,3,[Mg z1]⟩::r
noncomputable abbrev cV (z0:AE){α1:Type}(z1:List α1)(r:List (Nat×AV)):=(66,.Bh (FI z0) 1)::(70,ow 2 0 z1)::r
noncomputable abbrev cm (z0:_){α1:Type}(z1:List α1)(r:List (Nat×AV)):=(13,i64 z0)::(17,ow 4 0 z1)::(18,i64 z0)::r
noncomputable abbrev TN (r:List (Nat×AV)):=(4,CY)::(6,HH)::r
noncomputable abbrev cr (z0 z1:_)(r:List (Nat×AV)):=(1,i64 z0)::(2,i64 z1)::(3,BJ)::(6,CS)::r
noncomputable abbrev br (z0:AE)(r:List (Go.Abs.Row)):=(DL z0)::⟨0,35,3,[LO z0]⟩::r
noncomputable abbrev OL (z0:List Int)(z1:Int)(z2:_)(r:List (Go.Abs.Row)):=(Cw z0 z1)::J2::(GW z2)::r
noncomputable abbrev hH (z0:_)(r:List (Nat×AV)):=(25,.ptr 4 0 (Int.toNat z0) 2)::(31,UD z0)::(34,.fn 35 [BJ])::r
noncomputable abbrev gn (z0:AP)(r:List (Go.Abs.Row)):=(ro 0 80 3 (BZ 82 3) z0.decls)::(ro 0 37 5 (DK 3 35) z0.funcs)::r
noncomputable abbrev Yu (r:List (Go.Abs.Row)):=LZ::⟨1,37,5,[]⟩::r
noncomputable abbrev eV {α0:Type}(z0:List α0){α1:Type}(z1:List α1)(z2:_)(r:List (Nat×AV)):=(11,ow 4 0 z0)::(12,ow 5 0 z1)::(13,i64 z2)::r
noncomputable abbrev cW (z0:_)(z1:AE)(r:List (Go.Abs.Row)):=(LW z0)::(gl z1.op z1.num z1.kids)::r
noncomputable abbrev fa {α0:Type}(z0:List α0)(z1:_)(r:List (Nat×AV)):=(3,ow 1 0 z0)::(27,ow 1 0 z0)::(28,i64 z1)::r
theorem Oc:IW Tryz.prog 35=true:=by kernel_rfl
theorem Th:IW Tryz.prog 37=true:=by kernel_rfl
theorem jF:IW Tryz.prog 72=true:=by kernel_rfl
theorem Lh:IW Tryz.prog 80=true:=by kernel_rfl
theorem dp:IW Tryz.prog 82=true:=by kernel_rfl
theorem Oe:Js Tryz.prog 35=some [(0,1),(1,1),(2,1)]:=by kernel_rfl
theorem TZ:Js Tryz.prog 37=some [(0,1),(1,1),(2,3)]:=by kernel_rfl
theorem ie:Js Tryz.prog 72=some [(0,1),(1,1)]:=by kernel_rfl
theorem Lj:Js Tryz.prog 80=some [(0,1),(1,1),(2,1)]:=by kernel_rfl
theorem dR:Js Tryz.prog 82=some [(0,1)]:=by kernel_rfl
theorem Z2:aQ Tryz.prog 5 3=some .i64:=by kernel_rfl
theorem bU:D4 Tryz.prog 22=some ⟨5,1,1,[.int .u8 0]⟩:=by kernel_rfl
theorem DF:D4 Tryz.prog 23=some ⟨80,3,40,[.int .i64 0,.int .i64 0,.sl []]⟩:=by kernel_rfl
theorem Cu:D4 Tryz.prog 24=some ⟨37,5,72,[.sl [],.int .i64 0,.int .i64 0,.int .i64 0,.sl []]⟩:=by kernel_rfl
theorem BQ:D4 Tryz.prog 32=some ⟨3,1,8,[.int .i64 0]⟩:=by kernel_rfl
theorem BU:D4 Tryz.prog 33=some ⟨35,3,40,[.int .i64 0,.int .i64 0,.sl []]⟩:=by kernel_rfl
theorem Iv:D4 Tryz.prog 78=some ⟨82,1,24,[.sl []]⟩:=by kernel_rfl
theorem UM:HZ Tryz.prog 26 0=some 0:=by kernel_rfl
theorem KL:HZ Tryz.prog 26 1=some 1:=by kernel_rfl
theorem SP:HZ Tryz.prog 37 0=some 0:=by kernel_rfl
theorem ep:HZ Tryz.prog 80 0=some 0:=by kernel_rfl
theorem iq:DU Tryz.prog 22=true:=by kernel_rfl
theorem Fo:DU Tryz.prog 32=true:=by kernel_rfl
theorem PF:DU Tryz.prog 78=true:=by kernel_rfl
theorem YT:D7 Tryz.prog 23=some (false,1):=by kernel_rfl
theorem OY:D7 Tryz.prog 24=some (false,1):=by kernel_rfl
theorem D8:D7 Tryz.prog 26=some (true,2):=by kernel_rfl
theorem HU:D7 Tryz.prog 3=some (false,1):=by kernel_rfl
theorem JY:D7 Tryz.prog 32=some (false,1):=by kernel_rfl
theorem BE:D7 Tryz.prog 35=some (true,3):=by kernel_rfl
theorem LP:D7 Tryz.prog 37=some (true,5):=by kernel_rfl
theorem JZ:D7 Tryz.prog 80=some (true,3):=by kernel_rfl
theorem Of:D7 Tryz.prog 82=some (true,1):=by kernel_rfl
theorem DH:IC Tryz.prog 35=some [.int .i64 0,.int .i64 0,.zc]:=by kernel_rfl
theorem Li:IC Tryz.prog 37=some [.zc,.int .i64 0,.int .i64 0,.int .i64 0,.zc]:=by kernel_rfl
theorem jC:IC Tryz.prog 72=some [.zc,.int .i64 0]:=by kernel_rfl
theorem Gq:IC Tryz.prog 80=some [.int .i64 0,.int .i64 0,.zc]:=by kernel_rfl
theorem QY:IC Tryz.prog 82=some [.zc]:=by kernel_rfl
theorem Qz {p0:(List Int)}{r:(List Int)×Int}(h0:IN p0=some r):Ab Tryz.prog 26 [ls E4 p0] [] (λv st=>v=BJ/\st=[CT r.1 r.2]):=by
 unfold IN at h0;refine ai Tryz.func26 AA AA AA AA (zr tb AA AA (AG λk c=>bs h0 λg b h0=>?_));have h:∀(a:(List Int)),g=a->∀s,Wk 0 s ⟨11,Aa [(0,ls E4 a)],[]⟩->k s:=by
  intro a o s l;subst g;try dsimp only at h0
  refine c _ (AK l (sr AA λp d=>zq tb AA (zz (.agg [ls E4 a,i64 0]) (C9 jF ie jC AA AA) rfl (Bf (m:=0) AI AA AA AA AA AA (zq tb AA (dn d AA ?_))))));obtain rfl:=Sh.AB h0;exact rt [(2,BJ)]
 refine sr AA λq e=>zq tb AA (zl tb AA AA (zq tb AA (dn e AA ?_)));refine ci b AA ?_ ?_<;>clear b<;>intro t b
 ·exact AH AA (zq tb AA (bs b λn f b=>SA (i:=0) (j:=2000) AI bU AA AA AA (λ_=>AA) f (zq tb AA (AF (h n (Sh.AB b).symm _ (AJ AA))))))
 ·exact AL (h p0 (Sh.AB b).symm _ (AJ AA))
theorem Du {p0:(List Int)}{r:Db}(h0:FF p0=some r):Ab Tryz.prog 117 [ls eI p0] [] (λv st=>v=(JU r)/\st=[]):=by
 unfold FF at h0;refine Cj AA (ai Tryz.func117 AA AA AA AA (sr AA λc a=>Av (m:=0) AI QY AA AA (dn a AA (sr AA λd b=>zq tb AA (zz (.agg [ls eI p0]) (C9 dp dR QY AA AA) rfl (Am AI Of AA AA AA AA AA AA nq rfl (dn b AA ?_)))))));obtain rfl:=Sh.AB h0;exact Aq (Exists.intro _ (And.intro (Wk.refl _ _) (Ar (x:=.tmp 2) (off:=0) (cs:=[ls eI p0]) (vs:=[ls eI p0]) Of AA AA AA nq rfl _ AA)))
theorem Ay {s0_0:(List Int)}{s0_1 p1:Int}{r:Int×Int}(h0:Az s0_0 s0_1 p1=some r):Ab Tryz.prog 83 [BJ,i64 p1] [CT s0_0 s0_1] (λv st=>v=(i64 r.1)/\st=[CT s0_0 r.2]):=by
 unfold Az at h0;refine ai Tryz.func83 AA AA AA AA (zr tb AA AA (sr AA λR z=>zm tb 8 AA (Am AI HU AA AA AA AA AA AA oB rfl (dn z AA (AG λS A=>AG λI B=>bs h0 λG e h0=>?_)))));have H:∀(C:Bool),G=C->∀s,Wk 1 s ⟨99,Aa [(0,BJ),(1,i64 p1),(24,.bool C)],[⟨0,72,2,[[ls E4 s0_0,KA s0_1]]⟩]⟩->I s:=by
  intro C T s J;subst G;try dsimp only at h0
  refine B _ (AK J ?_);refine ci h0 AA ?_ ?_<;>clear h0<;>intro U h0
  ·refine zr tb AA AA ?_;obtain rfl:=Sh.AB h0;exact rt [(4,i64 0)]
  ·refine AL (A _ (zr tb AA AA (AG λK f=>sr AA λL g=>zm tb 5 AA (zl tb AA AA (zq tb AA (dn g AA ?_))))));refine ci h0 AA ?_ ?_<;>clear h0<;>intro M h0
   ·refine sr AA λN h=>zm tb 5 AA (bs h0 λD i h0=>zx bU i AA AA AA (zq tb AA (zz (i64 (Sh.wk .i64 D)) (aC Z2 AA) rfl (zq tb AA (bs h0 λj k h0=>zz (i64 j) (Rc AA AA k) rfl (zq tb AA (dn h AA ?_)))))));obtain rfl:=Sh.AB h0;exact rt [(4,i64 j)]
   ·refine AL (f _ (AG λO l=>Cd (by kernel_rfl) (by kernel_rfl) (by rfl) ?_));iterate 9 refine yq tb rfl ?_
    refine yl tb AA AA (bs h0 λE m h0=>yz (i64 E) (Rc AA AA m) rfl (bs h0 λb n h0=>yx bU n AA AA AA (yq tb AA (yz (i64 (Sh.wk .i64 b)) (aC Z2 AA) rfl ?_))));iterate 12 refine yq tb rfl ?_
    refine yl tb AA AA (bs h0 λF o h0=>yz (i64 F) (Rc AA AA o) rfl (bs h0 λc p h0=>yx bU p AA AA AA (yq tb AA (yz (i64 (Sh.wk .i64 c)) (aC Z2 AA) rfl ?_))));iterate 10 refine yq tb rfl ?_
    refine yl tb AA AA (bs h0 λd q h0=>yz (i64 d) (VT AA AA q) rfl ?_);iterate 3 refine yq tb rfl ?_
    refine Aw (l _ (sr AA λP t=>zm tb 2 AA (zz (i64 (Sh.w (Int.tdiv (Sh.w ((Sh.w ((Sh.w ((Sh.w ((Sh.wk .i64 b)*131))+(Sh.w ((Sh.wk .i64 c)*1117))))+(Sh.w ((Sh.w ((Sh.w (s0_1+1))-1))*29))))+(Sh.w (d*53)))) 64))) (UP AA AA (by decide)) rfl (zz (i64 (Sh.xor (Sh.w ((Sh.w ((Sh.w ((Sh.w ((Sh.wk .i64 b)*131))+(Sh.w ((Sh.wk .i64 c)*1117))))+(Sh.w ((Sh.w ((Sh.w (s0_1+1))-1))*29))))+(Sh.w (d*53)))) (Sh.w (Int.tdiv (Sh.w ((Sh.w ((Sh.w ((Sh.w ((Sh.wk .i64 b)*131))+(Sh.w ((Sh.wk .i64 c)*1117))))+(Sh.w ((Sh.w ((Sh.w (s0_1+1))-1))*29))))+(Sh.w (d*53)))) 64)))) (fI AA AA) rfl (zq tb AA (dn t AA (sr AA λQ u=>zm tb 2 AA (bs h0 λx y h0=>zz (i64 x) (Rc AA AA y) rfl (zq tb AA (dn u AA ?_))))))))));obtain rfl:=Sh.AB h0;exact rt [(4,i64 x)]
 refine AH AA (zm tb 3 AA ?_);rcases Sh.Ak e with ⟨a,e⟩|⟨a,e⟩
 ·refine zs a AA ?_;iterate 5 refine zs a rfl ?_
  exact zt a AA (AF (H true (Sh.AB e).symm _ (AJ AA)))
 ·refine zg tb a AA ?_;iterate 3 refine zg tb a rfl ?_
  exact Ba (v:=(G8 s0_0)) (CW AA AA a) rfl (Ci iq AA) (zg tb a AA (zf a AA (AF (H (decide ((Sh.len s0_0)=0)) (Sh.AB e).symm _ (AJ AA)))))
theorem MN {s0_0:(List Int)}{s0_1:Int}{r:(List AM)×Int}(h0:HA s0_0 s0_1=some r):Ab Tryz.prog 87 [BJ] [CT s0_0 s0_1] (λv st=>v=(ow 1 0 r.1)/\st=[CT s0_0 r.2,IQ r.1]):=by
 unfold HA at h0;refine ai Tryz.func87 AA AA AA AA (zr tb AA AA (sr AA λT F=>BF (m:=1) (l:=([]:List Int)) (enc:=eI) AI BQ (by decide) rfl AA AA AA AA AA (AR (Wk.BL (L:=[(0,BJ),(8,Qr)]) (st':=[CT s0_0 s0_1,⟨1,3,1,[]⟩]) (id:=1) rfl oI (AD λ_=>AA) ⟨.rfl,.BL AA,jf⟩ AA) (bs h0 λe G h0=>zc (v':=(JU e)) (hb 117) (Du G) rfl AA AA (BF (m:=2) (l:=[(0:Int),1]) (enc:=eI) AI BQ (by decide) rfl AA AA AA AA AA (AR (Wk.BL (L:=[(0,BJ),(9,JU e),(10,ls eI [(0:Int),1])]) (st':=((CT s0_0 s0_1)::Ch [])) (id:=2) rfl nr (AD λ_=>AA) ⟨.rfl,.rfl,.BL AA,jf⟩ AA) (bs h0 λf H h0=>zc (v':=(JU f)) (hb 117) (Du H) rfl AA AA (BF (m:=3) (l:=[e,f]) (enc:=CB) AI Iv (by decide) rfl AA AA AA AA AA (zz (.agg [i64 0,i64 0,ow 3 0 [e,f]]) (C9 Lh Lj Gq AA AA) rfl (Av (m:=4) AI Gq AA AA (AR (Wk.BL (L:=[(0,BJ),(3,LV),(13,.agg [i64 0,i64 0,ls CB [e,f]])]) (st':=((CT s0_0 s0_1)::Ch [Lv,⟨0,80,3,[[i64 0,i64 0,.zc]]⟩])) (id:=3) rfl oC (AD λ_=>AA) ⟨.rfl,.rfl,.agg ⟨.rfl,.rfl,.HJ AA,jf⟩,jf⟩ AA) (Am AI JZ AA AA AA AA AA AA nj rfl (AR (Wk.BL (L:=[(0,BJ),(3,Og e f)]) (st':=((CT s0_0 s0_1)::Ch [Lv,NN])) (id:=4) rfl nt (EN AA) (.same AA) rfl) (dn F AA (sr AA λU I=>BF (m:=5) (l:=([]:List Int)) (enc:=eI) AI BQ (by decide) rfl AA AA AA AA AA (AR (Wk.BL (L:=[(0,BJ),(3,Og e f),(14,Qr)]) (st':=((CT s0_0 s0_1)::Ch (ZA []))) (id:=5) rfl oD (AD λ_=>AA) ⟨.rfl,.rfl,.BL AA,jf⟩ AA) (bs h0 λg J h0=>zc (v':=(JU g)) (hb 117) (Du J) rfl AA AA (BF (m:=6) (l:=[(3:Int),0,3]) (enc:=eI) AI BQ (by decide) rfl AA AA AA AA AA (AR (Wk.BL (L:=[(0,BJ),(3,Og e f),(15,JU g),(16,ls eI [(3:Int),0,3])]) (st':=((CT s0_0 s0_1)::Ch (Lv::NN::Ch []))) (id:=6) rfl oH (AD λ_=>AA) ⟨.rfl,.rfl,.rfl,.BL AA,jf⟩ AA) (bs h0 λh K h0=>zc (v':=(JU h)) (hb 117) (Du K) rfl AA AA (BF (m:=7) (l:=[g,h]) (enc:=CB) AI Iv (by decide) rfl AA AA AA AA AA (zz (.agg [i64 0,i64 0,ow 7 0 [g,h]]) (C9 Lh Lj Gq AA AA) rfl (Av (m:=8) AI Gq AA AA (AR (Wk.BL (L:=[(0,BJ),(3,Og e f),(4,.ptr 8 0 0 0),(19,.agg [i64 0,i64 0,ls CB [g,h]])]) (st':=((CT s0_0 s0_1)::Ch (Lv::NN::Ch [Lv,⟨0,80,3,[[i64 0,i64 0,.zc]]⟩]))) (id:=7) rfl oL (AD λ_=>AA) ⟨.rfl,.rfl,.rfl,.agg ⟨.rfl,.rfl,.HJ AA,jf⟩,jf⟩ AA) (Am AI JZ AA AA AA AA AA AA nj rfl (AR (Wk.BL (L:=[(0,BJ),(3,Og e f),(4,Og g h)]) (st':=((CT s0_0 s0_1)::Ch (Lv::NN::Ch [Lv,NN]))) (id:=8) rfl (show 1<=8 by decide) (EN AA) (.same AA) rfl) (dn I AA (sr AA λV M=>BF (m:=9) (l:=[(1:Int),3]) (enc:=eI) AI BQ (by decide) rfl AA AA AA AA AA (AR (Wk.BL (L:=[(0,BJ),(3,Og e f),(4,Og g h),(20,ls eI [(1:Int),3])]) (st':=((CT s0_0 s0_1)::Ch (Lv::NN::Ch (ZA [])))) (id:=9) rfl (show 1<=9 by decide) (AD λ_=>AA) ⟨.rfl,.rfl,.rfl,.BL AA,jf⟩ AA) (bs h0 λi N h0=>zc (v':=(JU i)) (hb 117) (Du N) rfl AA AA (BF (m:=10) (l:=[i]) (enc:=CB) AI Iv (by decide) rfl AA AA AA AA AA (zz (.agg [i64 0,i64 0,ow 10 0 [i]]) (C9 Lh Lj Gq AA AA) rfl (zz (.agg [i64 1,i64 0,.zc]) (C9 Lh Lj Gq AA AA) rfl (BF (m:=11) (l:=[(1:Int),1,0]) (enc:=eI) AI BQ (by decide) rfl AA AA AA AA AA (AR (Wk.BL (L:=[(0,BJ),(3,Og e f),(4,Og g h),(23,.agg [i64 0,i64 0,ow 10 0 [i]]),(24,.agg [i64 1,i64 0,.zc]),(25,ls eI [(1:Int),1,0])]) (st':=((CT s0_0 s0_1)::Ch (Lv::NN::Ch (ZA [ro 0 82 1 CB [i],⟨1,3,1,[]⟩])))) (id:=11) rfl (show 1<=11 by decide) (AD λ_=>AA) ⟨.rfl,.rfl,.rfl,.agg ⟨.rfl,.rfl,.rfl,jf⟩,.rfl,.BL AA,jf⟩ AA) (bs h0 λa t h0=>zc (v':=(JU a)) (hb 117) (Du t) rfl AA AA (BF (m:=12) (l:=[(0:Int)]) (enc:=eI) AI BQ (by decide) rfl AA AA AA AA AA (AR (Wk.BL (L:=[(0,BJ),(3,Og e f),(4,Og g h),(23,.agg [i64 0,i64 0,ow 10 0 [i]]),(24,.agg [i64 1,i64 0,.zc]),(26,JU a),(27,ls eI [(0:Int)])]) (st':=((CT s0_0 s0_1)::Ch (Lv::NN::Ch (ZA ((ro 0 82 1 CB [i])::Ch []))))) (id:=12) rfl (show 1<=12 by decide) (AD λ_=>AA) ⟨.rfl,.rfl,.rfl,.agg ⟨.rfl,.rfl,.rfl,jf⟩,.rfl,.rfl,.BL AA,jf⟩ AA) (bs h0 λb u h0=>zc (v':=(JU b)) (hb 117) (Du u) rfl AA AA (BF (m:=13) (l:=[(3:Int)]) (enc:=eI) AI BQ (by decide) rfl AA AA AA AA AA (AR (Wk.BL (L:=[(0,BJ),(3,Og e f),(4,Og g h),(23,.agg [i64 0,i64 0,ow 10 0 [i]]),(24,.agg [i64 1,i64 0,.zc]),(26,JU a),(28,JU b),(29,ls eI [(3:Int)])]) (st':=((CT s0_0 s0_1)::Ch (Lv::NN::Ch (ZA ((ro 0 82 1 CB [i])::Ch [⟨1,3,1,[]⟩]))))) (id:=13) rfl (show 1<=13 by decide) (AD λ_=>AA) ⟨.rfl,.rfl,.rfl,.agg ⟨.rfl,.rfl,.rfl,jf⟩,.rfl,.rfl,.rfl,.BL AA,jf⟩ AA) (bs h0 λd w h0=>zc (v':=(JU d)) (hb 117) (Du w) rfl AA AA (BF (m:=14) (l:=[a,b,d]) (enc:=CB) AI Iv (by decide) rfl AA AA AA AA AA (zz (.agg [i64 0,i64 0,ow 14 0 [a,b,d]]) (C9 Lh Lj Gq AA AA) rfl (zz (.agg [i64 0,i64 1,.zc]) (C9 Lh Lj Gq AA AA) rfl (AR (Wk.BL (L:=[(0,BJ),(3,Og e f),(4,Og g h),(23,.agg [i64 0,i64 0,ls CB [i]]),(24,.agg [i64 1,i64 0,.zc]),(32,.agg [i64 0,i64 0,ow 14 0 [a,b,d]]),(33,.agg [i64 0,i64 1,.zc])]) (st':=((CT s0_0 s0_1)::Ch (Lv::NN::Ch (ZA (Lv::Ch [⟨1,3,1,[]⟩,ro 0 82 1 CB [a,b,d]]))))) (id:=10) rfl (show 1<=10 by decide) (AD λ_=>AA) ⟨.rfl,.rfl,.rfl,.agg ⟨.rfl,.rfl,.HJ AA,jf⟩,.rfl,.agg ⟨.rfl,.rfl,.rfl,jf⟩,.rfl,jf⟩ AA) (AR (Af (L:=(gy e f g h i [(32,.agg [i64 0,i64 0,ow 14 0 [a,b,d]]),(33,.agg [i64 0,i64 1,.zc])])) ⟨.rfl,.rfl,.rfl,.rfl,.agg ⟨.rfl,.rfl,.zc,jf⟩,.rfl,.rfl,jf⟩) (AR (Wk.BL (L:=(gy e f g h i [(32,.agg [i64 0,i64 0,ls CB [a,b,d]]),(33,.agg [i64 0,i64 1,.zc])])) (st':=((CT s0_0 s0_1)::Ch (Lv::NN::Ch (ZA (Lv::Ch [⟨1,3,1,[]⟩,Lv]))))) (id:=14) rfl (show 1<=14 by decide) (AD λ_=>AA) ⟨.rfl,.rfl,.rfl,.rfl,.rfl,.agg ⟨.rfl,.rfl,.HJ AA,jf⟩,.rfl,jf⟩ AA) (AR (Af (L:=(gy e f g h i [(32,.agg [i64 0,i64 0,ls CB [a,b,d]]),(33,.agg [i64 0,i64 1,T3])])) ⟨.rfl,.rfl,.rfl,.rfl,.rfl,.rfl,.agg ⟨.rfl,.rfl,.zc,jf⟩,jf⟩) (BF (m:=15) (l:=([AM.mk 0 0 [i],AM.mk 1 0 [],AM.mk 0 0 [a,b,d],AM.mk 0 1 []])) (enc:=Aj) AI DF (by decide) rfl AA AA AA AA AA (zq tb AA (dn M AA (sr AA λP y=>zq tb AA (zz (.agg [i64 0,i64 0,.zc]) (C9 Lh Lj Gq AA AA) rfl (zq tb AA (AR (Af (L:=[(0,BJ),(5,.own 15 0 (List.length ([AM.mk 0 0 [i],AM.mk 1 0 [],AM.mk 0 0 [a,b,d],AM.mk 0 1 []]))),(35,.agg [i64 0,i64 0,ls CB [e,f]]),(36,.agg [i64 0,i64 0,T3]),(37,.agg [i64 0,i64 0,ls CB [g,h]])]) ⟨.rfl,.rfl,.rfl,.agg ⟨.rfl,.rfl,.zc,jf⟩,.rfl,jf⟩) (BF (m:=16) (l:=([AM.mk 0 0 [e,f],AM.mk 0 0 [],AM.mk 0 0 [g,h]])) (enc:=Aj) AI DF (by decide) rfl AA AA AA AA AA (zq tb AA (dn y AA (sr AA λQ z=>zq tb AA (bs h0 λj A h0=>CM (rows0:=[CT s0_0 s0_1]) (rows1:=[CT s0_0 j.2]) (st':=((CT s0_0 j.2)::Ch (Lv::NN::Ch (ZA (Lv::Ch [⟨1,3,1,[]⟩,Lv,ro 0 80 3 Aj ([AM.mk 0 0 [i],AM.mk 1 0 [],AM.mk 0 0 [a,b,d],AM.mk 0 1 []]),ro 0 80 3 Aj ([AM.mk 0 0 [e,f],AM.mk 0 0 [],AM.mk 0 0 [g,h]])]))))) (v':=(i64 j.1)) [0] AI (hb 83) (Ay A) rfl (by decide) rfl AA (.raw AA AA .nil) rfl AA (.raw AA AA .nil) .nil AA AA ?_)))))))))))))))))))))))))))))))))))))))))))))))))))))))))))));refine zq tb AA (dn z AA (AG λO B=>bs h0 λC n h0=>?_));have D:∀(k:(List AM)),C=k->∀s,Wk 1 s ⟨51,Aa [(6,ow 1 0 k)],[CT s0_0 j.2,IQ k]⟩->O s:=by
  intro k W s R;subst C;try dsimp only at h0
  refine B _ (AK R (zr tb AA AA ?_));obtain rfl:=Sh.AB h0;exact rt [(2,ow 1 0 k)]
 refine zr tb AA AA ?_;refine ci n AA ?_ ?_<;>clear n<;>intro S n
 ·refine AH AA (zm tb 3 AA (bs n λo p n=>zz (.ptr 15 0 (Int.toNat j.1) 0) (Bz DF AA AA AA AA p) rfl (zz (.agg (Aj o)) (Ar JZ AA AA (CV p) nj rfl) rfl (BF (m:=17) (l:=[o]) (enc:=Aj) AI DF (by decide) rfl AA AA AA AA AA (bs n λq E n=>C8 (l2:=[o]) AI DF AA AA AA AA (HP AA AA) (λ_=>AA) E AA (zq tb AA ?_))))));exact AF (D q (Sh.AB n).symm _ (by refine Wk.trans (Dm (L:=[(6,ow 16 0 q)]) (st':=((CT s0_0 j.2)::⟨0,3,1,[]⟩::⟨0,3,1,[]⟩::⟨0,82,1,[]⟩::⟨0,80,3,[]⟩::⟨0,3,1,[]⟩::⟨0,3,1,[]⟩::⟨0,82,1,[]⟩::⟨0,80,3,[]⟩::⟨0,3,1,[]⟩::⟨0,82,1,[]⟩::NI [⟨0,82,1,[]⟩,ro 0 80 3 Aj ([AM.mk 0 0 [i],AM.mk 1 0 [],AM.mk 0 0 [a,b,d],AM.mk 0 1 []]),IQ q,ro 0 80 3 Aj [o]])) (.raw AA AA AA (.pure AA (by intro x c;cases c) (.pure AA (by intro x c;cases c) (.pure AA (by intro x c;cases c) (.pure AA (by intro x c;cases c) (.pure AA (by intro x c;cases c) (.pure AA (by intro x c;cases c) (.pure AA (by intro x c;cases c) (.pure AA (by intro x c;cases c) (.pure AA (by intro x c;cases c) (.pure AA (by intro x c;cases c) (.pure AA (by intro x c;cases c) (.pure AA (by intro x c;cases c) (.pure AA (by intro x c;cases c) (.pure AA (by intro x c;cases c) (.pure AA (AD λ_=>AA) (.pure AA (AD λ_=>AA) (.pure AA (AD λ_=>AA) .nil)))))))))))))))))) (.same AA)) ?_;exact AT [0,16] AA (by decide) rfl AA (.raw AA AA (.pure (AD λ_=>AA) .nil)) (.same AA)))
 ·exact AL (D ([AM.mk 0 0 [e,f],AM.mk 0 0 [],AM.mk 0 0 [g,h]]) (Sh.AB n).symm _ (AT [0,16] AA (by decide) rfl AA (.raw AA AA (.pure (AD λ_=>AA) .nil)) (.same AA)))
theorem Dh {p0:(List Int)}{p1:Int}{r:Ac}(h0:Ex p0 p1=some r):Ab Tryz.prog 88 [ls eI p0,i64 p1] [] (λv st=>v=(Ft r)/\st=[]):=by
 unfold Ex at h0;refine Cj AA (ai Tryz.func88 AA AA AA AA (sr AA λc a=>Av (m:=0) AI Li AA AA (dn a AA (sr AA λd b=>zm tb 2 AA (zz (.agg [ls eI p0,i64 p1,i64 0,i64 0,.zc]) (C9 Th TZ Li AA AA) rfl (Am AI LP AA AA AA AA AA AA nm rfl (dn b AA ?_)))))));obtain rfl:=Sh.AB h0;exact Aq (Exists.intro _ (And.intro ((Gg (id:=0) (cs:=[ls eI p0,i64 p1,i64 0,i64 0,.zc]) (cs':=[ls eI p0,i64 p1,i64 0,i64 0,Q0]) (st':=[⟨0,37,5,[[ls eI p0,i64 p1,i64 0,i64 0,Q0]]⟩]) rfl ⟨le.rfl,le.rfl,le.rfl,le.rfl,le.zc,jf⟩ AA AA).trans (Af (L:=[(4,BJ)]) (.same AA))) (Ar (x:=.tmp 4) (off:=0) (cs:=[ls eI p0,i64 p1,i64 0,i64 0,Q0]) (vs:=[ls eI p0,i64 p1,i64 0,i64 0,Q0]) LP AA AA AA nm rfl _ AA)))
theorem CE {s0_0:(List Int)}{s0_1:Int}{p1:(List Int)}{r:Int×Int}(h0:CA s0_0 s0_1 p1=some r):Ab Tryz.prog 70 [BJ,ls eI p1] [CT s0_0 s0_1] (λv st=>v=(i64 r.1)/\st=[CT s0_0 r.2]):=by
 unfold CA at h0;refine ai Tryz.func70 AA AA AA AA (zr tb AA AA (sr AA λf a=>zm tb 3 AA (zl tb AA AA (bs h0 λb c h0=>CM (rows0:=[CT s0_0 s0_1]) (rows1:=[CT s0_0 b.2]) (st':=[CT s0_0 b.2]) (v':=(i64 b.1)) [0] AI (hb 83) (Ay c) rfl (by decide) rfl AA (.raw AA AA .nil) rfl AA (.raw AA AA .nil) .nil AA AA (bs h0 λe d h0=>zx BQ d AA AA AA (zm tb 2 AA (dn a AA ?_)))))));obtain rfl:=Sh.AB h0;exact rt [(4,i64 e)]
theorem Sn {N:Nat}{p0:(List Int)}{p1 r:Int}(h0:Ji N p0 p1=some r):Ab Tryz.prog 118 [ls eI p0,i64 p1] [] (λv st=>v=(i64 r)/\st=[]):=by
 unfold Ji at h0;refine ai Tryz.func118 AA AA AA AA (zr tb AA AA (AG λk f=>zr tb AA AA ?_));obtain⟨g,a,h0⟩:=Sh.Bi h0;have l:∀(_:Unit),g=Sum.inr ()->∀s,Wk 0 s ⟨19,Aa [],[]⟩->k s:=by
  intro _ u s m;subst g;try dsimp only at h0
  refine f _ (AK m (zr tb AA AA ?_));obtain rfl:=Sh.AB h0;exact rt [(4,i64 (-1))]
 refine AU (Ax (σ:=Int) (λn v=>Ez p0 p1 n v=some g) (λe=>⟨19,Aa [(0,ls eI p0),(1,i64 p1),(5,i64 e)],[]⟩) N 0 a (AJ AA) (λ_ j=>by rw[Ez]at j;cases j) ?_);rintro n e a;try dsimp only at a⊢
 rw[Ez]at a;refine AG λx h=>sr AA λy i=>zm tb 2 AA (zl tb AA AA (zq tb AA (dn i AA ?_)));refine ci a AA ?_ ?_<;>clear a<;>intro z a
 ·refine AL (h _ (AG λo b=>AU (sr AA λp c=>zm tb 2 AA (bs a λq d a=>zx BQ d AA AA AA (zm tb 3 AA (dn c AA ?_))))));refine ci a AA ?_ ?_<;>clear a<;>intro t a
  ·refine zr tb AA AA ?_;obtain rfl:=Sh.AB a;try dsimp only[id]at h0
   obtain rfl:=Sh.AB h0;exact rt [(4,i64 e)]
  ·exact AL (b _ (AH AA (zm tb 3 AA (AF (xi (Sh.w (e+1)) a (AJ AA))))))
 ·exact BD (l () (Sh.AB a).symm _ (AJ AA))
theorem Dd {p0:Int}{r:AE}(h0:FK p0=some r):Ab Tryz.prog 115 [i64 p0] [] (λv st=>v=(Bc r)/\st=[]):=by
 unfold FK at h0;refine Cj AA (ai Tryz.func115 AA AA AA AA (sr AA λc a=>Av (m:=0) AI DH AA AA (dn a AA (sr AA λd b=>zq tb AA ?_))));refine BF (m:=1) (l:=([]:List AE)) (enc:=Au) AI BU (by decide) rfl AA (by simp only[List.map,Ai];rfl) rfl AA AA ?_;refine zz (.agg [i64 0,i64 p0,.own 1 0 (List.length ([]:List AE))]) (C9 Oc Oe DH AA AA) rfl (AR (Wk.BL (L:=[(2,BJ),(5,.agg [i64 0,i64 p0,Q0])]) (st':=[Iy,CC]) (id:=1) rfl oE (AD Ad) ⟨.rfl,.agg ⟨.rfl,.rfl,.HJ AA,jf⟩,jf⟩ AA) (Am AI BE AA AA AA AA AA AA nj rfl (dn b AA ?_)));obtain rfl:=Sh.AB h0;exact Aq (Exists.intro _ (And.intro (Wk.refl _ _) (Ar (x:=.tmp 2) (off:=0) (cs:=[i64 0,i64 p0,Q0]) (vs:=[i64 0,i64 p0,Q0]) BE AA AA AA nj rfl _ AA)))
theorem QF {N:Nat}{p0:(List Int)}{p1:Int}{r:(List Int)}(h0:Ht N p0 p1=some r):Ab Tryz.prog 144 [ls eI p0,i64 p1] [] (λv st=>v=(ow 0 0 r)/\st=[Bl r]):=by
 unfold Ht at h0;refine ai Tryz.func144 AA AA AA AA (zr tb AA AA (sr AA λM u=>BF (m:=0) (l:=([]:List Int)) (enc:=eI) AI BQ (by decide) rfl AA AA AA AA AA (zq tb AA (dn u AA (AG λC x=>zr tb AA AA (bs h0 λy a h0=>?_))))));have D:∀(f:(List Int)),y=f->∀s,Wk 0 s ⟨25,Aa [(5,ow 0 0 f)],[Bl f]⟩->C s:=by
  intro f E s z;subst y;try dsimp only at h0
  refine x _ (AK z (zr tb AA AA ?_));obtain rfl:=Sh.AB h0;exact rt [(4,ow 0 0 f)]
 refine AU (Ax (σ:=Int×(List Int)) (λn v=>Dt p0 p1 n v.1 v.2=some y) (λ(d,g)=>⟨25,Aa [(0,ls eI p0),(1,i64 p1),(5,ow 0 0 g),(6,i64 d)],[ro 0 3 1 eI g]⟩) N (0,[]) a (AJ AA) (λ_ B=>by rw[Dt]at B;cases B) ?_);rintro n ⟨d,g⟩ a;try dsimp only at a⊢
 rw[Dt]at a;refine AG λF h=>sr AA λG i=>zm tb 2 AA (zl tb AA AA (zq tb AA (dn i AA ?_)));refine ci a AA ?_ ?_<;>clear a<;>intro H a
 ·refine AL (h _ (AG λA j=>bs a λk c a=>?_));have o:∀(b:(List Int)),k=b->∀s,Wk 0 s ⟨25,Aa [(0,ls eI p0),(1,i64 p1),(5,ow 0 0 b),(6,i64 d)],[Bl b]⟩->A s:=by
   intro b E s z;subst k;try dsimp only at a
   exact j _ (AK z (AH AA (zm tb 3 AA (AF (xi (Sh.w (d+1),b) a (AJ AA))))))
  refine AU (sr AA λI p=>zm tb 2 AA (bs c λJ q c=>zx BQ q AA AA AA (zm tb 3 AA (dn p AA ?_))));refine ci c AA ?_ ?_<;>clear c<;>intro K c
  ·refine AH AA (zm tb 2 AA (BF (m:=1) (l:=[d]) (enc:=eI) AI BQ (by decide) rfl AA AA AA AA AA (bs c λe t c=>C8 (l2:=[d]) AI BQ AA AA AA AA (HP AA AA) (λ_=>AA) t AA (zq tb AA ?_))));exact AF (o e (Sh.AB c).symm _ (by refine Wk.trans (EX (L:=[(0,ls eI p0),(1,i64 p1),(5,ow 0 0 e),(6,i64 d)]) (st':=[Bl e,ro 0 3 1 eI [d]]) (.pure (AD λ_=>AA) (.pure (AD λ_=>AA) .nil)) (.same AA)) ?_;exact AT [0] AA (by decide) rfl AA (.pure (AD λ_=>AA) .nil) (.same AA)))
  ·exact AL (o g (Sh.AB c).symm _ (AJ AA))
 ·exact BD (D g (Sh.AB a).symm _ (AJ AA))
theorem D2 {p0 p1 p2:Int}{r:Bool}(h0:DX p0 p1 p2=some r):Ab Tryz.prog 72 [i64 p0,i64 p1,i64 p2] [] (λv st=>v=(.bool r)/\st=[]):=by
 unfold DX at h0;refine ai Tryz.func72 AA AA AA AA (zr tb AA AA (AG λg d=>bs h0 λe b h0=>?_));have f:∀(c:Bool),e=c->∀s,Wk 0 s ⟨15,Aa [(6,.bool c)],[]⟩->g s:=by
  intro c i s h;subst e;try dsimp only at h0
  refine d _ (AK h ?_);obtain rfl:=Sh.AB h0;exact rt [(6,.bool c)]
 refine AH AA (zm tb 4 AA ?_);rcases Sh.Ak b with ⟨a,b⟩|⟨a,b⟩
 ·exact zg tb a AA (zg tb a AA (zg tb a AA (zt a AA (zq tb AA (AF (f (decide (p0<=p2)) (Sh.AB b).symm _ (AJ AA)))))))
 ·exact zs a AA (zs a AA (zs a AA (zf a AA (zq tb AA (AF (f false (Sh.AB b).symm _ (AJ AA)))))))
theorem JT {p0:(List AM)}{p1:Int}{r:Bool}(h0:Gm p0 p1=some r):Ab Tryz.prog 102 [Cs p0,i64 p1] [] (λv st=>v=(.bool r)/\st=[]):=by
 unfold Gm at h0;refine ai Tryz.func102 AA AA AA AA (zr tb AA AA (AG λj d=>bs h0 λh b h0=>?_));have i:∀(c:Bool),h=c->∀s,Wk 0 s ⟨19,Aa [(4,.bool c)],[]⟩->j s:=by
  intro c l s k;subst h;try dsimp only at h0
  refine d _ (AK k ?_);obtain rfl:=Sh.AB h0;exact rt [(4,.bool c)]
 refine AH AA (zm tb 2 AA (zl tb AA AA (bs b λm e b=>zc (hb 72) (D2 e) rfl AA AA (zq tb AA ?_))));rcases Sh.Ak b with ⟨a,b⟩|⟨a,b⟩
 ·exact zg tb a AA (zg tb a AA (zg tb a AA (bs b λf g b=>Ba (v:=(.Bh (Aj f) 0)) (CW AA AA a) rfl (Ce DF AA AA g AA) (zg tb a AA (zg tb a AA (Ba (v:=(i64 (Sh.len f.cons))) (CW AA AA a) rfl (Ci PF AA) (zg tb a AA (zt a AA (zq tb AA (AF (i (decide ((Sh.len f.cons)=0)) (Sh.AB b).symm _ (AJ AA))))))))))))
 ·refine zs a AA ?_;iterate 7 refine zs a rfl ?_
  exact zf a AA (zq tb AA (AF (i false (Sh.AB b).symm _ (AJ AA))))
theorem NU {N:Nat}{p0:(List AM)}{p1 p2 r:Int}(h0:Ig N p0 p1 p2=some r):Ab Tryz.prog 128 [Cs p0,i64 p1,i64 p2] [] (λv st=>v=(i64 r)/\st=[]):=by
 unfold Ig at h0;refine ai Tryz.func128 AA AA AA AA (zr tb AA AA (AG λy m=>zr tb AA AA ?_));obtain⟨o,c,h0⟩:=Sh.Bi h0;have z:∀(_:Unit),o=Sum.inr ()->∀s,Wk 0 s ⟨41,Aa [],[]⟩->y s:=by
  intro _ A s p;subst o;try dsimp only at h0
  refine m _ (AK p (zr tb AA AA ?_));obtain rfl:=Sh.AB h0;exact rt [(6,i64 (-1))]
 refine AU (Ax (σ:=Int) (λn v=>Ew p0 p1 p2 n v=some o) (λi=>⟨41,Aa [(0,ls Aj p0),(1,i64 p1),(2,i64 p2),(7,i64 i)],[]⟩) N 0 c (AJ AA) (λ_ x=>by rw[Ew]at x;cases x) ?_);rintro n i c;try dsimp only at c⊢
 rw[Ew]at c;refine AG λD q=>sr AA λE t=>zm tb 2 AA (zl tb AA AA (zq tb AA (dn t AA ?_)));refine ci c AA ?_ ?_<;>clear c<;>intro F c
 ·refine AL (q _ (AG λB j=>AU (AG λu k=>bs c λl d c=>?_)));have f:∀(g:Bool),l=g->∀s,Wk 0 s ⟨41,Aa [(0,Cs p0),(1,i64 p1),(2,i64 p2),(7,i64 i),(38,.bool g)],[]⟩->u s:=by
   intro g A s p;subst l;try dsimp only at c
   refine k _ (AK p ?_);refine ci c AA ?_ ?_<;>clear c<;>intro C c
   ·refine zr tb AA AA ?_;obtain rfl:=Sh.AB c;try dsimp only[id]at h0
    obtain rfl:=Sh.AB h0;exact rt [(6,KA i)]
   ·exact AL (j _ (AH AA (zm tb 3 AA (AF (xi (Sh.w (i+1)) c (AJ AA))))))
  refine AH AA (zm tb 2 AA (bs d λh e d=>zx DF e AA AA AA (zm tb 2 AA (zl tb AA AA (zm tb 2 AA ?_)))));rcases Sh.Ak d with ⟨a,d⟩|⟨a,d⟩
  ·refine zg tb a AA (zg tb a AA (Ba (v:=(.Bh (Aj h) 0)) (CW AA AA a) rfl (Ce DF AA AA e AA) ?_));iterate 4 refine zg tb a rfl ?_
   refine zt a AA (zq tb AA ?_);rcases Sh.Ak d with ⟨b,d⟩|⟨b,d⟩
   ·refine zg tb b AA (zg tb b AA (Ba (v:=(.Bh (Aj h) 0)) (CW AA AA b) rfl (Ce DF AA AA e AA) ?_));iterate 4 refine zg tb b rfl ?_
    exact zt b AA (AF (f (decide (h.to=p2)) (Sh.AB d).symm _ (AJ AA)))
   ·refine zs b AA ?_;iterate 6 refine zs b rfl ?_
    exact zf b AA (AF (f false (Sh.AB d).symm _ (AJ AA)))
  ·refine zs a AA ?_;iterate 6 refine zs a rfl ?_
   refine zf a AA (zq tb AA ?_);iterate 7 refine zs rfl rfl ?_
   exact zf AA AA (AF (f false (Sh.AB d).symm _ (AJ AA)))
 ·exact BD (z () (Sh.AB c).symm _ (AJ AA))
theorem Mv {N:Nat}{p0:AP}{p1:Int}{r:(List Int)}(h0:Hr N p0 p1=some r):Ab Tryz.prog 147 [H5 p0,i64 p1] [] (λv st=>v=(ow 0 0 r)/\st=[Bl r]):=by
 unfold Hr at h0;refine ai Tryz.func147 AA AA AA AA (sr AA λZ H=>Bf (m:=0) AI AA AA AA AA AA (zq tb AA (dn H AA (sr AA λK2 I=>BF (m:=1) (l:=([]:List Int)) (enc:=eI) AI BQ (by decide) rfl AA AA AA AA AA (zq tb AA (dn I AA (AG λS J=>zr tb AA AA (bs h0 λK b h0=>?_))))))));have T:∀(k:(List Int)),K=k->∀s,Wk 0 s ⟨53,Aa [(5,ow 0 0 k)],[Bl k]⟩->S s:=by
  intro k Q s o;subst K;try dsimp only at h0
  refine J _ (AK o (zr tb AA AA ?_));obtain rfl:=Sh.AB h0;exact rt [(4,ow 0 0 k)]
 refine AU (Ax (σ:=Int×(List Int)) (λn v=>EZ N p0 p1 n v.1 v.2=some K) (λ(f,h)=>⟨53,Aa [(1,i64 p1),(2,.ptr 0 0 0 0),(5,ow 1 0 h),(6,i64 f)],[WO p0.decls p0.funcs,ro 0 3 1 eI h]⟩) N (0,[]) b (AJ AA) (λ_ R=>by rw[EZ]at R;cases R) ?_);rintro n ⟨f,h⟩ b;try dsimp only at b⊢
 rw[EZ]at b;refine AG λU p=>sr AA λV q=>zm tb 3 AA (zl tb AA AA (zq tb AA (dn q AA ?_)));refine ci b AA ?_ ?_<;>clear b<;>intro W b
 ·refine AL (p _ (AG λM t=>bs b λu c b=>?_));have x:∀(d:(List Int)),u=d->∀s,Wk 0 s ⟨53,Aa (aA p1 d f []),[WO p0.decls p0.funcs,Bl d]⟩->M s:=by
   intro d Q s o;subst u;try dsimp only at b
   exact t _ (AK o (AH AA (zm tb 3 AA (AF (xi (Sh.w (f+1),d) b (AJ AA))))))
  refine AU (sr AA λX y=>zm tb 3 AA (bs c λz e c=>zx Cu e AA AA AA (zm tb 2 AA (zl tb AA AA (zq tb AA (dn y AA (AG λO A=>bs c λB g c=>?_)))))));have C:∀(i:Bool),B=i->∀s,Wk 0 s ⟨53,Aa (aA p1 h f [(47,.bool i)]),[WO p0.decls p0.funcs,Bl h]⟩->O s:=by
   intro i Q s o;subst B;try dsimp only at c
   refine A _ (AK o ?_);refine ci c AA ?_ ?_<;>clear c<;>intro Y c
   ·refine AH AA (zm tb 2 AA (BF (m:=2) (l:=[f]) (enc:=eI) AI BQ (by decide) rfl AA AA AA AA AA (bs c λj D c=>C8 (l2:=[f]) AI BQ AA AA AA AA (HP AA AA) (λ_=>AA) D AA (zq tb AA ?_))));exact AF (x j (Sh.AB c).symm _ (by refine Wk.trans (EX (L:=(aA p1 j f [])) (st':=[WO p0.decls p0.funcs,Bl j,ro 0 3 1 eI [f]]) (.raw AA AA (.pure (AD λ_=>AA) (.pure (AD λ_=>AA) .nil))) (.same AA)) ?_;exact AT [0,1] AA (by decide) rfl AA (.raw AA AA (.pure (AD λ_=>AA) .nil)) (.same AA)))
   ·exact AL (x h (Sh.AB c).symm _ (AJ AA))
  refine Cd (by kernel_rfl) (by kernel_rfl) (by rfl) ?_;iterate 3 refine yq tb rfl ?_
  rcases Sh.Ak g with ⟨a,g⟩|⟨a,g⟩
  ·refine yg tb a AA ?_;iterate 4 refine yg tb a rfl ?_
   refine H6 (v:=(.Bh (BS z) 0)) (CW AA AA a) rfl (Ce Cu AA AA e AA) ?_;iterate 4 refine yg tb a rfl ?_
   refine bs g λP E g=>H6 (v:=(.Bh (eI P) 0)) (CW AA AA a) rfl (Ce BQ AA AA E AA) ?_;iterate 4 refine yg tb a rfl ?_
   refine H6 (v:=(.Bh (BS z) 0)) (CW AA AA a) rfl (Ce Cu AA AA e AA) ?_;iterate 2 refine yg tb a rfl ?_
   refine bs g λF G g=>BW (v:=(i64 F)) (CW AA AA a) (hb 128) (NU G) rfl AA AA ?_;iterate 2 refine yg tb a rfl ?_
   exact yt a AA (Aw (C (decide (F=p1)) (Sh.AB g).symm _ (AJ AA)))
  ·refine ys a AA ?_;iterate 20 refine ys a rfl ?_
   exact yf a AA (Aw (C false (Sh.AB g).symm _ (AJ AA)))
 ·exact BD (T h (Sh.AB b).symm _ (AT [1] AA (by decide) rfl AA (.pure (AD λ_=>AA) .nil) (.same AA)))
theorem Qk {N:Nat}{p0:(List Int)}{p1:Int}{r:Bool}(h0:Jz N p0 p1=some r):Ab Tryz.prog 74 [ls eI p0,i64 p1] [] (λv st=>v=(.bool r)/\st=[]):=by
 unfold Jz at h0;refine ai Tryz.func74 AA AA AA AA (zr tb AA AA (AG λk e=>zr tb AA AA ?_));obtain⟨f,a,h0⟩:=Sh.Bi h0;have l:∀(_:Unit),f=Sum.inr ()->∀s,Wk 0 s ⟨18,Aa [],[]⟩->k s:=by
  intro _ u s m;subst f;try dsimp only at h0
  refine e _ (AK m (zr tb AA AA ?_));obtain rfl:=Sh.AB h0;exact rt [(4,.bool false)]
 refine AU (Ax (σ:=Int) (λn v=>GJ p0 p1 n v=some f) (λg=>⟨18,Aa [(0,ls eI p0),(1,i64 p1),(5,i64 g)],[]⟩) N 0 a (AJ AA) (λ_ j=>by rw[GJ]at j;cases j) ?_);rintro n g a;try dsimp only at a⊢
 rw[GJ]at a;refine AG λx h=>sr AA λy i=>zm tb 2 AA (zl tb AA AA (zq tb AA (dn i AA ?_)));refine ci a AA ?_ ?_<;>clear a<;>intro z a
 ·refine AL (h _ (AG λo b=>AU (sr AA λp c=>zm tb 2 AA (bs a λq d a=>zx BQ d AA AA AA (zm tb 3 AA (dn c AA ?_))))));refine ci a AA ?_ ?_<;>clear a<;>intro t a
  ·refine zr tb AA AA ?_;obtain rfl:=Sh.AB a;try dsimp only[id]at h0
   obtain rfl:=Sh.AB h0;exact rt [(4,.bool true)]
  ·exact AL (b _ (AH AA (zm tb 3 AA (AF (xi (Sh.w (g+1)) a (AJ AA))))))
 ·exact BD (l () (Sh.AB a).symm _ (AJ AA))
theorem JW {N:Nat}{p0:AP}{p1:(List Int)}{p2:Int}{r:Bool}(h0:Gr N p0 p1 p2=some r):Ab Tryz.prog 145 [H5 p0,ls eI p1,i64 p2] [] (λv st=>v=(.bool r)/\st=[]):=by
 unfold Gr at h0;refine ai Tryz.func145 AA AA AA AA (sr AA λq e=>Bf (m:=0) AI AA AA AA AA AA (zq tb AA (dn e AA (AG λn f=>bs h0 λk a h0=>?_))));have g:∀(d:Bool),k=d->∀s,Wk 0 s ⟨24,Aa [(6,.bool d)],[]⟩->n s:=by
  intro d t s o;subst k;try dsimp only at h0
  refine f _ (AK o ?_);obtain rfl:=Sh.AB h0;exact rt [(6,.bool d)]
 refine AH AA (zm tb 3 AA (bs a λu h a=>zc (hb 102) (JT h) rfl AA AA (zm tb 2 AA ?_)));rcases Sh.Ak a with ⟨b,a⟩|⟨b,a⟩
 ·refine zs b AA ?_;iterate 4 refine zs b rfl ?_
  refine zt b AA (zq tb AA ?_);iterate 3 refine zs rfl rfl ?_
  exact zt AA AA (zq tb AA (AF (g true (Sh.AB a).symm _ (Bn _ AA))))
 ·refine zg tb b AA (zg tb b AA (bs a λl i a=>CL (v':=(ow 1 0 l)) (CW AA AA b) (hb 147) (Mv i) rfl AA ⟨(CQ λ_=>AA),jf⟩ AA AA (Ba (v:=(G8 l)) (CW AA AA b) rfl (Cr Fo AA AA AA) (zg tb b AA (zf b AA (zq tb AA ?_))))));rcases Sh.Ak a with ⟨c,a⟩|⟨c,a⟩
  ·exact zs c AA (zs c AA (zs c AA (zt c AA (zq tb AA (AF (g true (Sh.AB a).symm _ (Bn _ AA)))))))
  ·exact zg tb c AA (zg tb c AA (bs a λp j a=>zd c (hb 74) (Qk j) rfl AA AA AA (zf c AA (zq tb AA (AF (g p (Sh.AB a).symm _ (Bn _ AA)))))))
theorem CO {p0:Int}{r:AE}(h0:Ca p0=some r):Ab Tryz.prog 116 [i64 p0] [] (λv st=>v=(Bc r)/\st=[]):=by
 unfold Ca at h0;refine Cj AA (ai Tryz.func116 AA AA AA AA (sr AA λc a=>Av (m:=0) AI DH AA AA (dn a AA (sr AA λd b=>zq tb AA ?_))));refine BF (m:=1) (l:=([]:List AE)) (enc:=Au) AI BU (by decide) rfl AA (by simp only[List.map,Ai];rfl) rfl AA AA ?_;refine zz (.agg [i64 12,i64 p0,.own 1 0 (List.length ([]:List AE))]) (C9 Oc Oe DH AA AA) rfl (AR (Wk.BL (L:=[(2,BJ),(5,.agg [i64 12,i64 p0,Q0])]) (st':=[Iy,CC]) (id:=1) rfl oE (AD Ad) ⟨.rfl,.agg ⟨.rfl,.rfl,.HJ AA,jf⟩,jf⟩ AA) (Am AI BE AA AA AA AA AA AA nj rfl (dn b AA ?_)));obtain rfl:=Sh.AB h0;exact Aq (Exists.intro _ (And.intro (Wk.refl _ _) (Ar (x:=.tmp 2) (off:=0) (cs:=[i64 12,i64 p0,Q0]) (vs:=[i64 12,i64 p0,Q0]) BE AA AA AA nj rfl _ AA)))
theorem Io {N:Nat}{p0:(List AM)}{p1 r:Int}(h0:GM N p0 p1=some r):Ab Tryz.prog 106 [Cs p0,i64 p1] [] (λv st=>v=(i64 r)/\st=[]):=by
 unfold GM at h0;refine ai Tryz.func106 AA AA AA AA ?_;iterate 2 refine zr tb rfl rfl ?_
 refine AG λj e=>zr tb AA AA (bs h0 λf a h0=>?_);have k:∀(n7:Int),f=n7->∀s,Wk 0 s ⟨21,Aa [(5,i64 n7)],[]⟩->j s:=by
  intro n7 q s l;subst f;try dsimp only at h0
  refine e _ (AK l (zr tb AA AA ?_));obtain rfl:=Sh.AB h0;exact rt [(4,i64 n7)]
 refine AU (Ax (σ:=Int×Int) (λn v=>Eg p0 p1 n v.1 v.2=some f) (λ(n5,g)=>⟨21,Aa [(0,ls Aj p0),(1,i64 p1),(5,i64 n5),(6,i64 g)],[]⟩) N (0,0) a (AJ AA) (λ_ i=>by rw[Eg]at i;cases i) ?_);rintro n ⟨n5,g⟩ a;try dsimp only at a⊢
 rw[Eg]at a;refine AG λm b=>zr tb AA AA ?_;refine ci a AA ?_ ?_<;>clear a<;>intro o a
 ·exact AL (b _ (AG λp c=>AU (AH AA (zm tb 3 AA (bs a λh d a=>zx DF d AA AA AA (zm tb 2 AA (zl tb AA AA (zm tb 2 AA (dn c AA (AH AA (zm tb 3 AA (AF (xi (Sh.w (n5+(Sh.len h.cons)),Sh.w (g+1)) a (AJ AA))))))))))))))
 ·exact BD (k n5 (Sh.AB a).symm _ (AJ AA))
theorem IP {N:Nat}{p0:(List AM)}{p1:Int}{r:(List Int)}(h0:GI N p0 p1=some r):Ab Tryz.prog 104 [Cs p0,i64 p1] [] (λv st=>v=(ow 0 0 r)/\st=[Bl r]):=by
 unfold GI at h0;refine ai Tryz.func104 AA AA AA AA (zr tb AA AA (sr AA λK t=>BF (m:=0) (l:=([]:List Int)) (enc:=eI) AI BQ (by decide) rfl AA AA AA AA AA (zq tb AA (dn t AA (AG λM u=>sr AA λO x=>zm tb 2 AA (zl tb AA AA (bs h0 λB y h0=>zc (hb 72) (D2 y) rfl AA AA (zq tb AA (dn x AA ?_)))))))));refine ci h0 AA ?_ ?_<;>clear h0<;>intro C h0
 ·have P:B=false:=by simpa using C
  refine zr tb AA AA ?_;obtain rfl:=Sh.AB h0;exact rt [(4,cJ)]
 ·have Q:B=true:=by simpa using C
  refine AL (u _ (AG λz h=>zr tb AA AA (bs h0 λe a h0=>?_)));have A:∀(c:(List Int)),e=c->∀s,Wk 0 s ⟨35,Aa [(5,ow 0 0 c)],[Bl c]⟩->z s:=by
   intro c R s E;subst e;try dsimp only at h0
   refine h _ (AK E (zr tb AA AA ?_));obtain rfl:=Sh.AB h0;exact rt [(4,ow 0 0 c)]
  refine AU (Ax (σ:=Int×(List Int)) (λn v=>FR N p0 p1 n v.1 v.2=some e) (λ(b,d)=>⟨35,Aa [(0,ls Aj p0),(1,i64 p1),(5,ow 0 0 d),(6,i64 b)],[ro 0 3 1 eI d]⟩) N (0,[]) a (AJ AA) (λ_ D=>by rw[FR]at D;cases D) ?_);rintro n ⟨b,d⟩ a;try dsimp only at a⊢
  rw[FR]at a;refine AG λF i=>sr AA λG j=>zm tb 4 AA (bs a λH k a=>zx DF k AA AA AA (zm tb 2 AA (zl tb AA AA (zq tb AA (dn j AA ?_)))));refine ci a AA ?_ ?_<;>clear a<;>intro I a
  ·refine AL (i _ (AG λJ o=>AU (AH AA (zm tb 4 AA (bs a λf p a=>zc (hb 106) (Io p) rfl AA AA (zm tb 2 AA (BF (m:=1) (l:=[Sh.w (f+b)]) (enc:=eI) AI BQ (by decide) rfl AA AA AA AA AA (bs a λg q a=>C8 (l2:=[Sh.w (f+b)]) AI BQ AA AA AA AA (HP AA AA) (λ_=>AA) q AA (zq tb AA (dn o AA (AH AA (zm tb 3 AA ?_))))))))))));exact AF (xi (Sh.w (b+1),g) a (by refine Wk.trans (EX (L:=[(0,Cs p0),(1,i64 p1),(5,ow 0 0 g),(6,KA b)]) (st':=[Bl g,ro 0 3 1 eI [Sh.w (f+b)]]) (.pure (AD λ_=>AA) (.pure (AD λ_=>AA) .nil)) (.same AA)) ?_;exact AT [0] AA (by decide) rfl AA (.pure (AD λ_=>AA) .nil) (.same AA)))
  ·exact BD (A d (Sh.AB a).symm _ (AJ AA))
theorem Kr {N:Nat}{p0:(List AM)}{p1 r:Int}(h0:GF N p0 p1=some r):Ab Tryz.prog 97 [Cs p0,i64 p1] [] (λv st=>v=(i64 r)/\st=[]):=by
 unfold GF at h0;refine ai Tryz.func97 AA AA AA AA (zr tb AA AA (AG λo i=>zr tb AA AA ?_));obtain⟨j,a,h0⟩:=Sh.Bi h0;have p:∀(_:Unit),j=Sum.inr ()->∀s,Wk 0 s ⟨30,Aa [],[]⟩->o s:=by
  intro _ C s q;subst j;try dsimp only at h0
  refine i _ (AK q (zr tb AA AA ?_));obtain rfl:=Sh.AB h0;exact rt [(4,i64 (-1))]
 refine AU (Ax (σ:=Int) (λn v=>D1 N p0 p1 n v=some j) (λh=>⟨30,Aa [(0,ls Aj p0),(1,i64 p1),(5,i64 h)],[]⟩) N 0 a (AJ AA) (λ_ m=>by rw[D1]at m;cases m) ?_);rintro n h a;try dsimp only at a⊢
 rw[D1]at a;refine AG λD k=>sr AA λE l=>zm tb 2 AA (zl tb AA AA (zq tb AA (dn l AA ?_)));refine ci a AA ?_ ?_<;>clear a<;>intro F a
 ·refine AL (k _ (AG λt b=>AU (sr AA λu c=>zm tb 2 AA (bs a λx d a=>zc (hb 106) (Io d) rfl AA AA (zq tb AA (dn c AA (sr AA λy e=>zm tb 5 AA (bs a λz f a=>zx DF f AA AA AA (zm tb 2 AA (zl tb AA AA (zm tb 2 AA (bs a λA g a=>zc (hb 72) (D2 g) rfl AA AA (dn e AA ?_)))))))))))));refine ci a AA ?_ ?_<;>clear a<;>intro B a
  ·refine zr tb AA AA ?_;obtain rfl:=Sh.AB a;try dsimp only[id]at h0
   obtain rfl:=Sh.AB h0;exact rt [(4,KA h)]
  ·exact AL (b _ (AH AA (zm tb 3 AA (AF (xi (Sh.w (h+1)) a (AJ AA))))))
 ·exact BD (p () (Sh.AB a).symm _ (AJ AA))
theorem Eo {N:Nat}{p0:(List AM)}{p1:Int}{r:(List Int)}(h0:Bv N p0 p1=some r):Ab Tryz.prog 99 [Cs p0,i64 p1] [] (λv st=>v=(ls eI r)/\st=[]):=by
 unfold Bv at h0;refine ai Tryz.func99 AA AA AA AA (zr tb AA AA (sr AA λk c=>zm tb 2 AA (bs h0 λn d h0=>zc (hb 97) (Kr d) rfl AA AA (zq tb AA (dn c AA (AG λo e=>zr tb AA AA ?_))))));refine ci h0 AA ?_ ?_<;>clear h0<;>intro p h0
 ·refine sr AA λq f=>BF (m:=0) (l:=([]:List Int)) (enc:=eI) AI BQ (by decide) rfl AA AA AA AA AA (zq tb AA (dn f AA ?_));obtain rfl:=Sh.AB h0;exact Aq (Exists.intro ⟨27,Aa [(4,Qr)],[]⟩ (And.intro (by refine Wk.trans (Wk.BL (L:=[(4,Qr)]) (st':=TA) (id:=0) rfl np (AD λ_=>AA) ⟨.BL AA,jf⟩ AA) ?_;exact AT [] AA (by decide) rfl AA .nil (.same AA)) (And.intro AA AA)))
 ·refine AL (e _ (AG λs g=>Cd (by kernel_rfl) (by kernel_rfl) (by rfl) ?_));iterate 3 refine yq tb rfl ?_
  refine bs h0 λt h h0=>yx DF h AA AA AA ?_;iterate 6 refine yq tb rfl ?_
  refine bs h0 λi a h0=>BW (v:=(i64 i)) AI (hb 106) (Io a) rfl AA AA (yq tb AA (bs h0 λj b h0=>yx Iv b AA AA AA ?_));iterate 3 refine yq tb rfl ?_
  refine Aw (g _ ?_);obtain rfl:=Sh.AB h0;exact rt [(4,ls eI j.fields)]
theorem BV {p0 p1:Int}{p2:(List AE)}{r:AE}(h0:Be p0 p1 p2=some r):Ab Tryz.prog 114 (LA p0 p1 p2) [] (λv st=>v=(Bc r)/\st=[]):=by
 unfold Be at h0;refine Cj AA (ai Tryz.func114 AA AA AA AA (sr AA λc a=>Av (m:=0) AI DH AA AA (dn a AA (sr AA λd b=>zm tb 3 AA (zz (DM p0 p1 p2) (C9 Oc Oe DH AA AA) rfl (Am AI BE AA AA AA AA AA AA nj rfl (dn b AA ?_)))))));obtain rfl:=Sh.AB h0;exact Aq (Exists.intro _ (And.intro (Wk.refl _ _) (Ar (x:=.tmp 6) (off:=0) (cs:=(LA p0 p1 p2)) (vs:=(LA p0 p1 p2)) BE AA AA AA nj rfl _ AA)))
theorem Nl {s0_0:(List Int)}{s0_1:Int}{r:Int×Int}(h0:Ij s0_0 s0_1=some r):Ab Tryz.prog 143 [BJ] [CT s0_0 s0_1] (λv st=>v=(i64 r.1)/\st=[CT s0_0 r.2]):=by
 unfold Ij at h0;refine ai Tryz.func143 AA AA AA AA (zr tb AA AA (sr AA λj e=>zm tb 2 AA (bs h0 λb f h0=>CM (rows0:=[CT s0_0 s0_1]) (rows1:=[CT s0_0 b.2]) (st':=[CT s0_0 b.2]) (v':=(i64 b.1)) [0] AI (hb 83) (Ay f) rfl (by decide) rfl AA (.raw AA AA .nil) rfl AA (.raw AA AA .nil) .nil AA AA (zq tb AA (bs h0 λc g h0=>CM (rows0:=[CT s0_0 b.2]) (rows1:=[CT s0_0 c.2]) (st':=[CT s0_0 c.2]) (v':=(i64 c.1)) [0] AI (hb 83) (Ay g) rfl (by decide) rfl AA (.raw AA AA .nil) rfl AA (.raw AA AA .nil) .nil AA AA (zq tb AA (bs h0 λa h h0=>CM (rows0:=[CT s0_0 c.2]) (rows1:=[CT s0_0 a.2]) (st':=[CT s0_0 a.2]) (v':=(i64 a.1)) [0] AI (hb 83) (Ay h) rfl (by decide) rfl AA (.raw AA AA .nil) rfl AA (.raw AA AA .nil) .nil AA AA (fp (m:=1) (st':=[CT s0_0 a.2,ro 0 3 1 eI [b.1,c.1,0,1,2,-1,3,a.1,999,-998]]) (l:=[b.1,c.1,0,1,2,-1,3,a.1,999,-998]) (enc:=eI) AI BQ (by decide) rfl AA ⟨AA,AA,AA,⟨AA,AA,AA,⟨AA,AA,AA,⟨AA,AA,AA,⟨AA,AA,AA,⟨AA,AA,AA,⟨AA,AA,AA,⟨AA,AA,AA,⟨AA,AA,AA,⟨AA,AA,AA,jf⟩⟩⟩⟩⟩⟩⟩⟩⟩⟩ AA AA AA (AR (Wk.BL (L:=[(3,BJ),(10,ls eI [b.1,c.1,0,1,2,-1,3,a.1,999,-998])]) (st':=[CT s0_0 a.2,⟨1,3,1,[]⟩]) (id:=1) rfl oI (AD λ_=>AA) ⟨.rfl,.BL AA,jf⟩ AA) (bs h0 λd i h0=>CM (rows0:=[CT s0_0 a.2]) (rows1:=[CT s0_0 d.2]) (st':=[CT s0_0 d.2,⟨1,3,1,[]⟩]) (v':=(i64 d.1)) [0] AI (hb 70) (CE i) rfl (by decide) rfl AA (.raw AA AA .nil) rfl AA (.raw AA AA .nil) .nil AA AA (zq tb AA (dn e AA ?_))))))))))));obtain rfl:=Sh.AB h0;exact Aq (xr (AT (L:=[(2,i64 d.1)]) (st':=[CT s0_0 d.2]) [0] AA (by decide) rfl AA (.raw AA AA .nil) ⟨.rfl,jf⟩))
theorem P8 {N:Nat}{rec_spec_smallest:(List Int)->Int->(List Ac)->(List AM)->Int->Option (AE×Int)}(hrec_spec_smallest :∀{s0_0:(List Int)} {s0_1:Int} {s1:(List Ac)} {p1_0:(List AM)} {p2:Int} {r:AE×Int},rec_spec_smallest s0_0 s0_1 s1 p1_0 p2=some r->Ab Tryz.prog 146 [BJ,HG p1_0 s1,i64 p2] (CR s0_0 s0_1 s1 []) (λv st=>v=(DM r.1.op r.1.num r.1.kids)/\st=(CR s0_0 r.2 s1 []))){s0_0:(List Int)}{s0_1:Int}{s1:(List Ac)}{p1_0:(List AM)}{p2:Int}{r:AE×Int}(h0:Hh N rec_spec_smallest s0_0 s0_1 s1 p1_0 p2=some r):Ab Tryz.prog 146 [BJ,HG p1_0 s1,i64 p2] (CR s0_0 s0_1 s1 []) (λv st=>v=(DM r.1.op r.1.num r.1.kids)/\st=(CR s0_0 r.2 s1 [])):=by
 unfold Hh at h0;refine Ab.wk (r0:=(DM r.1.op r.1.num r.1.kids)) (st0:=(CR s0_0 r.2 s1 [I0 r.1.op r.1.num r.1.kids])) (ai Tryz.func146 AA AA AA AA (sr AA λK1 k4=>Bf (m:=2) AI AA AA AA AA AA (Av (m:=3) AI DH AA AA (dn k4 AA (sr AA λK2 k5=>zm tb 3 AA (bs h0 λP k6 h0=>CL (v':=(ow 4 0 P)) AI (hb 104) (IP k6) rfl AA ⟨(CQ λ_=>AA),jf⟩ AA AA (zq tb AA (dn k5 AA (AG λK4 k7=>sr AA λK5 k8=>zq tb AA (zz (G8 P) (Cr Fo AA AA AA) rfl (zq tb AA (dn k8 AA ?_)))))))))))) (Dc (L:=[(0,DM r.1.op r.1.num r.1.kids)]) (st':=(CR s0_0 r.2 s1 [])) [0,1] AA (by decide) rfl AA (.raw AA (.pure (AD λ_=>AA) jf)) (.same AA));refine ci h0 AA ?_ ?_<;>clear h0<;>intro b6 h0
 ·refine sr AA λK7 k9=>zq tb AA (bs h0 λc8 H h0=>zz (.ptr 4 0 (Int.toNat 0) 0) (Bz BQ AA AA AA AA H) rfl (zz (i64 c8) (By HU AA AA (CV H) rfl) rfl (zq tb AA (dn k9 AA (AG λK9 l0=>bs h0 λb0 a h0=>?_)))));have b1:∀(I:Int) (q:Int),b0=(I,q)->∀s,Wk 2 s ⟨118,Aa (Mb p2 [(7,ow 4 0 P),(8,i64 I)]),Ge s0_0 q s1 p1_0 [Bl P]⟩->K9 s:=by
   intro I q hq s t;subst b0;try dsimp only at h0
   refine l0 _ (AK t (AG λl1 b2=>bs h0 λb3 a h0=>?_));have b4:∀(g:Int),b3=g->∀s,Wk 2 s ⟨118,Aa ((0,BJ)::TN [(8,i64 g)]),Ge s0_0 q s1 p1_0 []⟩->l1 s:=by
    intro g hq s t;subst b3;try dsimp only at h0
    refine b2 _ (AK t (sr AA λl9 b5=>?_));refine BF (m:=4) (l:=([]:List AE)) (enc:=Au) AI BU (by decide) rfl AA (by simp only[List.map,Ai];rfl) rfl AA AA ?_;refine zq tb AA (dn b5 AA (sr AA λm0 b7=>zm tb 3 AA (bs h0 λJ b8 h0=>zc (hb 99) (Eo b8) rfl AA AA (zq tb AA (dn b7 AA (AG λl3 b9=>zr tb AA AA (bs h0 λT a h0=>?_)))))));have l4:∀(u:Int) (y:(List AE)),T=(u,y)->∀s,Wk 2 s ⟨118,Aa [(6,CY),(8,i64 g),(9,ow 3 0 y)],CR s0_0 u s1 [Iy,GW y]⟩->l3 s:=by
     intro u y hq s t;subst T;try dsimp only at h0
     refine b9 _ (AK t (sr AA λm1 c0=>zm tb 2 AA (AR (Wk.BL (L:=[(6,CY),(68,i64 g),(69,GN y)]) (st':=(CR s0_0 u s1 [Iy,CC])) (id:=3) rfl oJ (AD Ad) ⟨.rfl,.rfl,.BL AA,jf⟩ AA) (bs h0 λh c1 h0=>zc (v':=(Bc h)) (hb 114) (BV c1) rfl AA AA (Am AI BE AA AA AA AA AA AA nj rfl (dn c0 AA ?_))))));obtain rfl:=Sh.AB h0;exact Aq (Exists.intro _ (And.intro ((AT (L:=[(6,CY)]) (st':=(CR s0_0 u s1 [I0 h.op h.num h.kids])) [0,1,2] AA (by decide) rfl AA (.raw AA AA (.pure (AD λ_=>AA) (.raw AA AA .nil))) ⟨.rfl,jf⟩).trans (Af (L:=[(6,CY)]) ⟨.rfl,jf⟩)) (Ar (x:=.tmp 6) (off:=0) (cs:=(FI h)) (vs:=(FI h)) BE AA AA AA nj rfl _ ⟨AA,AA⟩)))
    refine AU (Ax (σ:=Int×Int×(List AE)) (λn v=>Cy s0_0 s1 p1_0 J rec_spec_smallest n v.1 v.2.1 v.2.2=some T) (λ(z,K,i)=>⟨118,Aa [(0,.ptr 0 0 0 0),(4,.ptr 2 0 0 0),(6,.ptr 3 0 0 0),(8,i64 g),(9,ow 4 0 i),(10,ls eI J),(11,i64 z)],[CT s0_0 K,ro 0 37 5 BS s1,⟨0,26,2,[[ls Aj p1_0,ow 1 0 s1]]⟩,Iy,ro 0 35 3 Au i]⟩) N (0,q,[]) a (AJ AA) (λ_ hv=>by rw[Cy]at hv;cases hv) ?_);rintro n ⟨z,K,i⟩ a;try dsimp only at a⊢
    rw[Cy]at a;refine AG λm2 c2=>sr AA λm3 c3=>zm tb 2 AA (zl tb AA AA (zq tb AA (dn c3 AA ?_)));refine ci a AA ?_ ?_<;>clear a<;>intro m4 a
    ·refine AL (c2 _ (AG λm5 c4=>AU (Bd (JR s1 p1_0 [Iy,GW i]) 9 (by kernel_rfl) (by kernel_rfl) (by kernel_rfl) (by rfl) (BM (ow 4 0 i) AI AA (λ_ _=>BT AA) (BM BJ AI AA (λ_ _=>BT AA) (BM (HG p1_0 s1) AI AA (λ_ _=>Ar D8 AA AA AA nk rfl) (BM (ls eI J) AI AA (λ_ _=>BT AA) (BM (i64 z) AI AA (λ_ _=>BT AA) (bs a λc5 c6 a=>BM (.Bh (eI c5) 0) AI AA (λ_ _=>Ce BQ AA AA c6 AA) (BM (i64 c5) AI AA (λ_ _=>Hg HU AA AA) (bs a λb c7 a=>Gd (rows0:=(CR s0_0 K s1 [])) (rows1:=(CR s0_0 b.2 s1 [])) (v':=(DM b.1.op b.1.num b.1.kids)) (y0:=(CT s0_0 b.2)) [0,1] AI (hb 146) (hrec_spec_smallest c7) rfl (by decide) rfl AA (.raw AA AA (.pure (AD λ_=>AA) .nil)) rfl AA (λ_=>(.raw AA AA (.pure (AD λ_=>AA) .nil))) (λ_=>AA) rfl ?_)))))))))));refine FQ AI (λx0 zz=>F3 (l:=[b.1]) (enc:=Au) AI BU (by decide) rfl AA AA (by simp only[List.map,Ai];rfl) rfl (AD Ad) (Aw AA)) ?_;exact E0 AA (bs a λU c9 a=>C8 (l2:=[b.1]) AI BU AA AA AA AA Lg DS c9 AA (zq tb AA (dn c4 AA (AH AA (zm tb 3 AA (AF (xi (Sh.w (z+1),b.2,U) a (Dm (L:=((0,BJ)::TN [(8,i64 g),(9,ow 4 0 U),(10,ls eI J),(11,KA z)])) (st':=(Ge s0_0 b.2 s1 p1_0 [GW U])) (.raw AA AA AA (.pure AA (AD λ_=>AA) (.raw AA AA AA (.raw AA AA AA (.pure AA (AD Ad) .nil))))) (.same AA)))))))))
    ·exact BD (l4 K i (Sh.AB a).symm _ (AT [0,1,3,4] AA (by decide) rfl AA (.raw AA AA (.pure (AD λ_=>AA) (.raw AA AA (.pure (AD Ad) .nil)))) (.same AA)))
   refine sr AA λm6 d0=>zm tb 3 AA (bs a λm7 d1 a=>zc (hb 99) (Eo d1) rfl AA AA (zq tb AA (bs a λm8 d2 a=>zc (hb 74) (Qk d2) rfl AA AA (dn d0 AA ?_))));refine ci a AA ?_ ?_<;>clear a<;>intro m9 a
   ·exact AH AA (zq tb AA (zz (.ptr 4 0 (Int.toNat 0) 0) (Bz BQ AA AA AA AA H) rfl (zz (i64 c8) (By HU AA AA (CV H) rfl) rfl (zq tb AA (AF (b4 c8 (Sh.AB a).symm _ (AT [0,1,2,3] AA (by decide) rfl AA (.raw AA AA (.pure (AD λ_=>AA) (.raw AA AA (.raw AA AA .nil)))) (.same AA))))))))
   ·exact AL (b4 I (Sh.AB a).symm _ (AT [0,1,2,3] AA (by decide) rfl AA (.raw AA AA (.pure (AD λ_=>AA) (.raw AA AA (.raw AA AA .nil)))) (.same AA)))
  refine AG λl5 d3=>bs a λd4 V a=>?_;have d5:∀(W:Bool) (A:Int),d4=(W,A)->∀s,Wk 2 s ⟨118,Aa (Mb p2 [(7,ow 4 0 P),(8,i64 c8),(34,.bool W)]),Ge s0_0 A s1 p1_0 [Bl P]⟩->l5 s:=by
   intro W A hq s t;subst d4;try dsimp only at a
   refine d3 _ (AK t ?_);refine ci a AA ?_ ?_<;>clear a<;>intro q0 a
   ·exact AH AA (zq tb AA (bs a λd6 Q a=>zz (.ptr 4 0 (Int.toNat 1) 0) (Bz BQ AA AA AA AA Q) rfl (zz (i64 d6) (By HU AA AA (CV Q) rfl) rfl (zq tb AA (AF (b1 d6 A (Sh.AB a).symm _ (AJ AA)))))))
   ·exact AL (b1 c8 A (Sh.AB a).symm _ (AJ AA))
  refine AH AA (zq tb AA (zz (G8 P) (Cr Fo AA AA AA) rfl (zm tb 2 AA ?_)));rcases Sh.Ak V with ⟨c,V⟩|⟨c,V⟩
  ·exact zg tb c AA (bs V λB d7 V=>CM (rows0:=[CT s0_0 s0_1]) (rows1:=[CT s0_0 B.2]) (st':=(Ge s0_0 B.2 s1 p1_0 [Bl P])) (v':=(i64 B.1)) [0] (CW AA AA c) (hb 83) (Ay d7) rfl (by decide) rfl AA (.raw AA AA .nil) rfl AA (.raw AA AA .nil) .nil AA AA (zg tb c AA (zt c AA (AF (d5 (decide (B.1=0)) B.2 (Sh.AB V).symm _ (AJ AA))))))
  ·exact zs c AA (zs c AA (zs c AA (zf c AA (AF (d5 false s0_1 (Sh.AB V).symm _ (AJ AA))))))
 ·refine AL (k7 _ (sr AA λq1 d8=>zm tb 2 AA (bs h0 λf d9 h0=>Lz (v':=(ow 5 0 f)) AI (hb 147) (Mv d9) rfl (.agg (.val AA (.own AA AA (λ_=>AA) .nil)) (.val AA .nil)) rfl (gF (λ_=>AA) jf) rfl AA (zq tb AA (dn d8 AA (AG λq2 g0=>AG λl6 g1=>bs h0 λg2 a h0=>?_))))));have g3:∀(X:Bool),g2=X->∀s,Wk 2 s ⟨118,Aa ((0,BJ)::TN [(12,ow 4 0 f),(80,.bool X)]),Ge s0_0 s0_1 s1 p1_0 [Bl f]⟩->l6 s:=by
   intro X hq s t;subst g2;try dsimp only at h0
   refine g1 _ (AK t ?_);refine ci h0 AA ?_ ?_<;>clear h0<;>intro q4 h0
   ·refine sr AA λq5 g4=>zm tb 3 AA (zz (G8 f) (Cr Fo AA AA AA) rfl (bs h0 λC g5 h0=>CM (rows0:=[CT s0_0 s0_1]) (rows1:=[CT s0_0 C.2]) (st':=(Ge s0_0 C.2 s1 p1_0 [Bl f])) (v':=(i64 C.1)) [0] AI (hb 83) (Ay g5) rfl (by decide) rfl AA (.raw AA AA .nil) rfl AA (.raw AA AA .nil) .nil AA AA (bs h0 λj R h0=>zz (UD C.1) (Bz BQ AA AA AA AA R) rfl (zz (i64 j) (By HU AA AA (CV R) rfl) rfl (zq tb AA (dn g4 AA (sr AA λq6 g6=>zm tb 3 AA (bs h0 λD S h0=>zz (K0 j) (Bz Cu AA AA AA AA S) rfl (zq tb AA (zz (ls eI D.params) (By JY AA AA (CV S) rfl) rfl (zq tb AA (dn g6 AA (sr AA λq7 g7=>?_)))))))))))));refine BF (m:=5) (l:=([]:List AE)) (enc:=Au) AI BU (by decide) rfl AA (by simp only[List.map,Ai];rfl) rfl AA AA ?_;refine zq tb AA (dn g7 AA (AG λl7 g8=>zr tb AA AA (bs h0 λY a h0=>?_)));have l8:∀(E:Int) (F:(List AE)),Y=(E,F)->∀s,Wk 2 s ⟨118,Aa [(6,CY),(13,i64 j),(15,ow 3 0 F)],CR s0_0 E s1 [Iy,GW F]⟩->l7 s:=by
     intro E F hq s t;subst Y;try dsimp only at h0
     refine g8 _ (AK t (sr AA λq8 g9=>zm tb 2 AA (AR (Wk.BL (L:=[(6,CY),(112,i64 j),(113,GN F)]) (st':=(CR s0_0 E s1 [Iy,CC])) (id:=3) rfl oJ (AD Ad) ⟨.rfl,.rfl,.BL AA,jf⟩ AA) (bs h0 λk h3 h0=>zc (v':=(Bc k)) (hb 114) (BV h3) rfl AA AA (Am AI BE AA AA AA AA AA AA nj rfl (dn g9 AA ?_))))));obtain rfl:=Sh.AB h0;exact Aq (Exists.intro _ (And.intro ((AT (L:=[(6,CY)]) (st':=(CR s0_0 E s1 [I0 k.op k.num k.kids])) [0,1,2] AA (by decide) rfl AA (.raw AA AA (.pure (AD λ_=>AA) (.raw AA AA .nil))) ⟨.rfl,jf⟩).trans (Af (L:=[(6,CY)]) ⟨.rfl,jf⟩)) (Ar (x:=.tmp 6) (off:=0) (cs:=(FI k)) (vs:=(FI k)) BE AA AA AA nj rfl _ ⟨AA,AA⟩)))
    refine AU (Ax (σ:=Int×Int×(List AE)) (λn v=>Dq D s0_0 s1 p1_0 rec_spec_smallest n v.1 v.2.1 v.2.2=some Y) (λ(G,M,o)=>⟨118,Aa [(0,.ptr 0 0 0 0),(4,.ptr 2 0 0 0),(6,.ptr 3 0 0 0),(13,i64 j),(14,ls eI D.params),(15,ow 4 0 o),(16,i64 G)],[CT s0_0 M,ro 0 37 5 BS s1,⟨0,26,2,[[ls Aj p1_0,ow 1 0 s1]]⟩,Iy,ro 0 35 3 Au o]⟩) N (0,C.2,[]) a (AT [0,1,2,3,5] AA (by decide) rfl AA (.raw AA AA (.pure (AD λ_=>AA) (.raw AA AA (.raw AA AA (.pure (AD Ad) .nil))))) (.same AA)) (λ_ hv=>by rw[Dq]at hv;cases hv) ?_);rintro n ⟨G,M,o⟩ a;try dsimp only at a⊢
    rw[Dq]at a;refine AG λq9 h4=>sr AA λt0 h5=>zm tb 3 AA (zl tb AA AA (zq tb AA (dn h5 AA ?_)));refine ci a AA ?_ ?_<;>clear a<;>intro t1 a
    ·refine AL (h4 _ (AG λt2 h6=>AU (Bd (JR s1 p1_0 [Iy,GW o]) 9 (by kernel_rfl) (by kernel_rfl) (by kernel_rfl) (by rfl) (BM (ow 4 0 o) AI AA (λ_ _=>BT AA) (BM BJ AI AA (λ_ _=>BT AA) (BM (HG p1_0 s1) AI AA (λ_ _=>Ar D8 AA AA AA nk rfl) (BM (ls eI D.params) AI AA (λ_ _=>BT AA) (BM (i64 G) AI AA (λ_ _=>BT AA) (bs a λh7 h8 a=>BM (.Bh (eI h7) 0) AI AA (λ_ _=>Ce BQ AA AA h8 AA) (BM (i64 h7) AI AA (λ_ _=>Hg HU AA AA) (bs a λd h9 a=>Gd (rows0:=(CR s0_0 M s1 [])) (rows1:=(CR s0_0 d.2 s1 [])) (v':=(DM d.1.op d.1.num d.1.kids)) (y0:=(CT s0_0 d.2)) [0,1] AI (hb 146) (hrec_spec_smallest h9) rfl (by decide) rfl AA (.raw AA AA (.pure (AD λ_=>AA) .nil)) rfl AA (λ_=>(.raw AA AA (.pure (AD λ_=>AA) .nil))) (λ_=>AA) rfl ?_)))))))))));refine FQ AI (λx0 zz=>F3 (l:=[d.1]) (enc:=Au) AI BU (by decide) rfl AA AA (by simp only[List.map,Ai];rfl) rfl (AD Ad) (Aw AA)) ?_;exact E0 AA (bs a λZ k0 a=>C8 (l2:=[d.1]) AI BU AA AA AA AA Lg DS k0 AA (zq tb AA (dn h6 AA (AH AA (zm tb 3 AA (AF (xi (Sh.w (G+1),d.2,Z) a (Dm (L:=((0,BJ)::TN [(13,i64 j),(14,ls eI D.params),(15,ow 4 0 Z),(16,KA G)])) (st':=(Ge s0_0 d.2 s1 p1_0 [GW Z])) (.raw AA AA AA (.pure AA (AD λ_=>AA) (.raw AA AA AA (.raw AA AA AA (.pure AA (AD Ad) .nil))))) (.same AA)))))))))
    ·exact BD (l8 M o (Sh.AB a).symm _ (AT [0,1,3,4] AA (by decide) rfl AA (.raw AA AA (.pure (AD λ_=>AA) (.raw AA AA (.pure (AD Ad) .nil)))) (.same AA)))
   ·refine AL (g0 _ (sr AA λt3 k1=>zq tb AA (bs h0 λO k2 h0=>CM (rows0:=[CT s0_0 s0_1]) (rows1:=[CT s0_0 O.2]) (st':=(Ge s0_0 O.2 s1 p1_0 [Bl f])) (v':=(i64 O.1)) [0] AI (hb 143) (Nl k2) rfl (by decide) rfl AA (.raw AA AA .nil) rfl AA (.raw AA AA .nil) .nil AA AA (bs h0 λp k3 h0=>zc (v':=(Bc p)) (hb 115) (Dd k3) rfl AA AA (Am AI BE AA AA AA AA AA AA nj rfl (dn k1 AA ?_))))));obtain rfl:=Sh.AB h0;exact Aq (Exists.intro _ (And.intro ((AT (L:=[(6,CY)]) (st':=(CR s0_0 O.2 s1 [I0 p.op p.num p.kids])) [0,1,3] AA (by decide) rfl AA (.raw AA AA (.pure (AD λ_=>AA) (.raw AA AA .nil))) ⟨.rfl,jf⟩).trans (Af (L:=[(6,CY)]) ⟨.rfl,jf⟩)) (Ar (x:=.tmp 6) (off:=0) (cs:=(FI p)) (vs:=(FI p)) BE AA AA AA nj rfl _ ⟨AA,AA⟩)))
  refine AH AA (zm tb 3 AA ?_);rcases Sh.Ak a with ⟨e,a⟩|⟨e,a⟩
  ·exact zg tb e AA (Ba (v:=(G8 f)) (CW AA AA e) rfl (Cr Fo AA AA AA) (zg tb e AA (zt e AA (AF (g3 (decide (0<(Sh.len f))) (Sh.AB a).symm _ (AT [0,1,2,3,5] AA (by decide) rfl AA (.raw AA AA (.pure (AD λ_=>AA) (.raw AA AA (.raw AA AA (.pure (AD λ_=>AA) .nil))))) (.same AA)))))))
  ·exact zs e AA (zs e AA (zs e AA (zf e AA (AF (g3 false (Sh.AB a).symm _ (AT [0,1,2,3,5] AA (by decide) rfl AA (.raw AA AA (.pure (AD λ_=>AA) (.raw AA AA (.raw AA AA (.pure (AD λ_=>AA) .nil))))) (.same AA)))))))
theorem QJ {N:Nat}:∀(n:Nat),∀{s0_0:(List Int)} {s0_1:Int} {s1:(List Ac)} {p1_0:(List AM)} {p2:Int} {r:AE×Int},De N n s0_0 s0_1 s1 p1_0 p2=some r->Ab Tryz.prog 146 [BJ,HG p1_0 s1,i64 p2] (CR s0_0 s0_1 s1 []) (λv st=>v=(DM r.1.op r.1.num r.1.kids)/\st=(CR s0_0 r.2 s1 [])):=by
 intro n
 induction n with
 | zero=>intro s0_0 s0_1 s1 p1_0 p2 r a;cases a
 | succ n ih=>
  intro s0_0 s0_1 s1 p1_0 p2 r a;rw[De]at a;exact P8 (λh=>ih h) a
theorem SL {N:Nat}:∀{s0_0:(List Int)} {s0_1:Int} {s1:(List Ac)} {p1_0:(List AM)} {p2:Int} {r:AE×Int},Mc N s0_0 s0_1 s1 p1_0 p2=some r->Ab Tryz.prog 146 [BJ,HG p1_0 s1,i64 p2] (CR s0_0 s0_1 s1 []) (λv st=>v=(DM r.1.op r.1.num r.1.kids)/\st=(CR s0_0 r.2 s1 [])):=by
 intro s0_0 s0_1 s1 p1_0 p2 r a;exact QJ N a
theorem Ic {N:Nat}{s0_0:(List Int)}{s0_1:Int}{s1:(List Ac)}{p1_0:(List AM)}{p2:(List Int)}{p3:Int}{r:AE×Int}(h0:Hd N s0_0 s0_1 s1 p1_0 p2 p3=some r):Ab Tryz.prog 136 [BJ,HG p1_0 s1,ls eI p2,i64 p3] (CR s0_0 s0_1 s1 []) (λv st=>v=(DM r.1.op r.1.num r.1.kids)/\st=(CR s0_0 r.2 s1 [])):=by
 unfold Hd at h0;refine Ab.wk (r0:=(DM r.1.op r.1.num r.1.kids)) (st0:=(CR s0_0 r.2 s1 [I0 r.1.op r.1.num r.1.kids])) (ai Tryz.func136 AA AA AA AA (sr AA λM y=>Bf (m:=2) AI AA AA AA AA AA (Av (m:=3) AI DH AA AA (dn y AA (sr AA λO z=>zm tb 2 AA (bs h0 λg A h0=>CL (v':=(ow 4 0 g)) AI (hb 144) (QF A) rfl AA ⟨(CQ λ_=>AA),jf⟩ AA AA (zq tb AA (dn z AA (AG λP B=>AG λH C=>bs h0 λG e h0=>?_))))))))) (Dc (L:=[(0,DM r.1.op r.1.num r.1.kids)]) (st':=(CR s0_0 r.2 s1 [])) [0,1] AA (by decide) rfl AA (.raw AA (.pure (AD λ_=>AA) jf)) (.same AA));have D:∀(E:Bool) (k:Int),G=(E,k)->∀s,Wk 2 s ⟨40,Aa [(0,BJ),(3,i64 p3),(5,CY),(8,HH),(9,ow 4 0 g),(27,.bool E)],Ge s0_0 k s1 p1_0 [Bl g]⟩->H s:=by
  intro E k Q s I;subst G;try dsimp only at h0
  refine C _ (AK I ?_);refine ci h0 AA ?_ ?_<;>clear h0<;>intro R h0
  ·refine sr AA λJ n=>zm tb 3 AA (zz (G8 g) (Cr Fo AA AA AA) rfl (bs h0 λh o h0=>CM (rows0:=[CT s0_0 k]) (rows1:=[CT s0_0 h.2]) (st':=(Ge s0_0 h.2 s1 p1_0 [Bl g])) (v':=(i64 h.1)) [0] AI (hb 83) (Ay o) rfl (by decide) rfl AA (.raw AA AA .nil) rfl AA (.raw AA AA .nil) .nil AA AA (bs h0 λF i h0=>zz (UD h.1) (Bz BQ AA AA AA AA i) rfl (zz (i64 F) (By HU AA AA (CV i) rfl) rfl (bs h0 λf p h0=>zc (v':=(Bc f)) (hb 116) (CO p) rfl AA AA (Am AI BE AA AA AA AA AA AA nj rfl (dn n AA ?_)))))));obtain rfl:=Sh.AB h0;exact Aq (Exists.intro _ (And.intro ((AT (L:=[(8,CY)]) (st':=(CR s0_0 h.2 s1 [I0 f.op f.num f.kids])) [0,1,3] AA (by decide) rfl AA (.raw AA AA (.pure (AD λ_=>AA) (.raw AA AA .nil))) ⟨.rfl,jf⟩).trans (Af (L:=[(8,CY)]) ⟨.rfl,jf⟩)) (Ar (x:=.tmp 8) (off:=0) (cs:=(FI f)) (vs:=(FI f)) BE AA AA AA nj rfl _ ⟨AA,AA⟩)))
  ·refine AL (B _ (sr AA λK q=>zm tb 3 AA (bs h0 λa t h0=>CM (rows0:=(CR s0_0 k s1 [])) (rows1:=(CR s0_0 a.2 s1 [])) (st':=(Ge s0_0 a.2 s1 p1_0 [Bl g])) (v':=(DM a.1.op a.1.num a.1.kids)) [0,1] AI (hb 146) (SL t) rfl (by decide) rfl AA (.raw AA AA (.pure (AD λ_=>AA) .nil)) rfl AA (.raw AA AA (.pure (AD λ_=>AA) .nil)) .nil AA AA (Am AI BE AA AA AA AA AA AA nj rfl (dn q AA ?_)))));obtain rfl:=Sh.AB h0;exact Aq (Exists.intro _ (And.intro ((AT (L:=[(8,CY)]) (st':=(CR s0_0 a.2 s1 [I0 a.1.op a.1.num a.1.kids])) [0,1,3] AA (by decide) rfl AA (.raw AA AA (.pure (AD λ_=>AA) (.raw AA AA .nil))) ⟨.rfl,jf⟩).trans (Af (L:=[(8,CY)]) ⟨.rfl,jf⟩)) (Ar (x:=.tmp 8) (off:=0) (cs:=(LA a.1.op a.1.num a.1.kids)) (vs:=(LA a.1.op a.1.num a.1.kids)) BE AA AA AA nj rfl _ ⟨AA,AA⟩)))
 refine AH AA (zq tb AA (zz (G8 g) (Cr Fo AA AA AA) rfl (zm tb 2 AA ?_)));rcases Sh.Ak e with ⟨b,e⟩|⟨b,e⟩
 ·refine zg tb b AA (bs e λd u e=>CM (rows0:=[CT s0_0 s0_1]) (rows1:=[CT s0_0 d.2]) (st':=(Ge s0_0 d.2 s1 p1_0 [Bl g])) (v':=(i64 d.1)) [0] (CW AA AA b) (hb 83) (Ay u) rfl (by decide) rfl AA (.raw AA AA .nil) rfl AA (.raw AA AA .nil) .nil AA AA (zg tb b AA (zg tb b AA ?_)));rcases Sh.Ak e with ⟨c,e⟩|⟨c,e⟩
  ·refine zs c AA ?_;iterate 4 refine zs c rfl ?_
   exact Ba (v:=(.bool true)) (CW AA AA b) rfl (KY AA c AA) (zt b AA (AF (D true d.2 (Sh.AB e).symm _ (AJ AA))))
  ·exact zg tb c AA (BF (m:=5) (l:=([]:List Int)) (enc:=eI) (CW AA AA c) BQ (by decide) rfl AA AA AA AA AA (zg tb c AA (AR (Wk.BL (L:=[(0,BJ),(3,i64 p3),(5,CY),(8,HH),(9,ow 4 0 g),(16,.bool (decide (0<(Sh.len g)))),(20,.bool (decide (0<d.1))),(21,HG p1_0 s1),(22,Qr),(23,i64 p3)]) (st':=(Ge s0_0 d.2 s1 p1_0 [Bl g,⟨1,3,1,[]⟩])) (id:=5) rfl ny (AD λ_=>AA) ⟨.rfl,.rfl,.rfl,.rfl,.rfl,.rfl,.rfl,.agg ⟨.rfl,.rfl,jf⟩,.BL AA,.rfl,jf⟩ AA) (bs e λj w e=>Lz (v':=(.bool j)) (CW AA AA c) (hb 145) (JW w) rfl (.agg (.val AA (.own AA AA (λ_=>AA) .nil)) (.val AA (.val AA .nil))) rfl jf AA AA (zg tb c AA (Ba (v:=(.bool (!j))) (CW AA AA b) rfl (Ku AA c AA) (zt b AA (AF (D (!j) d.2 (Sh.AB e).symm _ (AT [0,1,2,3,4] AA (by decide) rfl AA (.raw AA AA (.pure (AD λ_=>AA) (.raw AA AA (.raw AA AA (.pure (AD λ_=>AA) .nil))))) (.same AA)))))))))))
 ·refine zs b AA ?_;iterate 3 refine zs b rfl ?_
  iterate 5 refine zn rfl ?_
  exact zs b AA (zf b AA (AF (D false s0_1 (Sh.AB e).symm _ (AJ AA))))
theorem Sl {N:Nat}{s0_0:(List Int)}{s0_1:Int}{s1:(List Ac)}{p1_0:(List AM)}{p2:(List Int)}{r:Int×Int}(h0:Jn N s0_0 s0_1 s1 p1_0 p2=some r):Ab Tryz.prog 138 [BJ,HG p1_0 s1,ls eI p2] (CR s0_0 s0_1 s1 []) (λv st=>v=(i64 r.1)/\st=(CR s0_0 r.2 s1 [])):=by
 unfold Jn at h0;refine ai Tryz.func138 AA AA AA AA (sr AA λt f=>Bf (m:=2) AI AA AA AA AA AA (zq tb AA (dn f AA (sr AA λu g=>zq tb AA (BF (m:=3) (l:=[(1:Int),1,3,0,2,4,3]) (enc:=eI) AI BQ (by decide) rfl AA AA AA AA AA (AR (Wk.BL (L:=[(2,ls eI p2),(4,CY),(8,BJ),(9,ls eI [(1:Int),1,3,0,2,4,3])]) (st':=(CR s0_0 s0_1 s1 [aa p1_0 s1,⟨1,3,1,[]⟩])) (id:=3) rfl oJ (AD λ_=>AA) ⟨.rfl,.rfl,.rfl,.BL AA,jf⟩ AA) (bs h0 λc h h0=>CM (rows0:=[CT s0_0 s0_1]) (rows1:=[CT s0_0 c.2]) (st':=(CR s0_0 c.2 s1 [aa p1_0 s1,⟨1,3,1,[]⟩])) (v':=(i64 c.1)) [0] AI (hb 70) (CE h) rfl (by decide) rfl AA (.raw AA AA .nil) rfl AA (.raw AA AA .nil) .nil AA AA (zq tb AA (dn g AA (AG λw i=>AG λp j=>bs h0 λn b h0=>?_))))))))));have o:∀(k:Bool),n=k->∀s,Wk 2 s ⟨24,Aa [(7,i64 c.1),(22,.bool k)],CR s0_0 c.2 s1 []⟩->p s:=by
  intro k x s q;subst n;try dsimp only at h0
  refine j _ (AK q ?_);refine ci h0 AA ?_ ?_<;>clear h0<;>intro y h0
  ·refine zr tb AA AA ?_;obtain rfl:=Sh.AB h0;exact rt [(6,i64 1)]
  ·refine AL (i _ (zr tb AA AA ?_));obtain rfl:=Sh.AB h0;exact rt [(6,i64 c.1)]
 refine AH AA (zm tb 3 AA (zl tb AA AA (zm tb 2 AA ?_)));rcases Sh.Ak b with ⟨a,b⟩|⟨a,b⟩
 ·refine zs a AA ?_;iterate 4 refine zs a rfl ?_
  exact zt a AA (AF (o true (Sh.AB b).symm _ (AT [0,1] AA (by decide) rfl AA (.raw AA AA (.pure (AD λ_=>AA) .nil)) (.same AA))))
 ·exact zg tb a AA (zg tb a AA (zg tb a AA (bs b λd e b=>Lz (v':=(.bool d)) (CW AA AA a) (hb 145) (JW e) rfl (.agg (.val AA (.own AA AA (λ_=>AA) .nil)) (.val AA (.val AA .nil))) rfl jf AA AA (zg tb a AA (zf a AA (AF (o (!d) (Sh.AB b).symm _ (AT [0,1] AA (by decide) rfl AA (.raw AA AA (.pure (AD λ_=>AA) .nil)) (.same AA)))))))))
theorem KT {p0:(List Int)}{r:(List Int)}(h0:FJ p0=some r):Ab Tryz.prog 62 [ls eI p0] [] (λv st=>v=(ow 0 0 r)/\st=[Bl r]):=by
 unfold FJ at h0;refine ai Tryz.func62 AA AA AA AA (zr tb AA AA (sr AA λd a=>BF (m:=0) (l:=([]:List Int)) (enc:=eI) AI BQ (by decide) rfl AA AA AA AA AA (zq tb AA (bs h0 λc b h0=>C8 (l2:=p0) AI BQ AA AA AA AA Lg (λ_=>AA) b AA (zq tb AA (dn a AA ?_))))));obtain rfl:=Sh.AB h0;exact Aq (xr (EX (L:=[(2,ow 0 0 c)]) (st':=[Bl c]) (.pure (AD λ_=>AA) .nil) (.same AA)))
theorem FP {p0:(List Int)}{p1:(List Int)}{r:(List Int)}(h0:Ec p0 p1=some r):Ab Tryz.prog 85 [ls eI p0,ls eI p1] [] (λv st=>v=(ow 0 0 r)/\st=[Bl r]):=by
 unfold Ec at h0;refine ai Tryz.func85 AA AA AA AA (zr tb AA AA (sr AA λf a=>zq tb AA (bs h0 λe b h0=>CL (v':=(ow 0 0 e)) AI (hb 62) (KT b) rfl AA ⟨(CQ λ_=>AA),jf⟩ AA AA (zq tb AA (bs h0 λd c h0=>C8 (l2:=p1) AI BQ AA AA AA AA Lg (λ_=>AA) c AA (zq tb AA (dn a AA ?_)))))));obtain rfl:=Sh.AB h0;exact Aq (xr (EX (L:=[(4,ow 0 0 d)]) (st':=[Bl d]) (.pure (AD λ_=>AA) .nil) (.same AA)))
theorem IM {N:Nat}{rec_spec_gen:(List Int)->Int->(List Ac)->(List AM)->(List Int)->Int->Int->Option (AE×Int)}(hrec_spec_gen :∀{s0_0:(List Int)} {s0_1:Int} {s1:(List Ac)} {p1_0:(List AM)} {p2:(List Int)} {p3:Int} {p4:Int} {r:AE×Int},rec_spec_gen s0_0 s0_1 s1 p1_0 p2 p3 p4=some r->Ab Tryz.prog 134 (Wd p1_0 s1 p2 p3 p4) (CR s0_0 s0_1 s1 []) (λv st=>v=(DM r.1.op r.1.num r.1.kids)/\st=(CR s0_0 r.2 s1 []))){s0_0:(List Int)}{s0_1:Int}{s1:(List Ac)}{p1_0:(List AM)}{p2:(List Int)}{p3:(List Int)}{p4:Int}{r:(List AE)×Int}(h0:Fs N rec_spec_gen s0_0 s0_1 s1 p1_0 p2 p3 p4=some r):Ab Tryz.prog 139 [BJ,HG p1_0 s1,ls eI p2,ls eI p3,i64 p4] (CR s0_0 s0_1 s1 []) (λv st=>v=(ow 2 0 r.1)/\st=(CR s0_0 r.2 s1 [GW r.1])):=by
 unfold Fs at h0;refine ai Tryz.func139 AA AA AA AA (sr AA λK x=>Bf (m:=2) AI AA AA AA AA AA (zq tb AA (dn x AA (sr AA λM y=>?_))));refine BF (m:=3) (l:=([]:List AE)) (enc:=Au) AI BU (by decide) rfl AA (by simp only[List.map,Ai];rfl) rfl AA AA ?_;refine zq tb AA (dn y AA (AG λE z=>zr tb AA AA (bs h0 λc b h0=>?_)));have A:∀(B:Int) (f:(List AE)),c=(B,f)->∀s,Wk 2 s ⟨36,Aa [(11,ow 2 0 f)],CR s0_0 B s1 [GW f]⟩->E s:=by
  intro B f O s F;subst c;try dsimp only at h0
  refine z _ (AK F (zr tb AA AA ?_));obtain rfl:=Sh.AB h0;exact rt [(10,ow 2 0 f)]
 refine AU (Ax (σ:=Int×Int×(List AE)) (λn v=>FU s0_0 s1 p1_0 p2 p3 p4 rec_spec_gen n v.1 v.2.1 v.2.2=some c) (λ(g,u,e)=>⟨36,Aa [(0,.ptr 0 0 0 0),(2,ls eI p2),(3,ls eI p3),(4,i64 p4),(6,.ptr 2 0 0 0),(11,ow 3 0 e),(12,i64 g)],[CT s0_0 u,ro 0 37 5 BS s1,⟨0,26,2,[[ls Aj p1_0,ow 1 0 s1]]⟩,ro 0 35 3 Au e]⟩) N (0,s0_1,[]) b (AJ AA) (λ_ D=>by rw[FU]at D;cases D) ?_);rintro n ⟨g,u,e⟩ b;try dsimp only at b⊢
 rw[FU]at b;refine AG λG h=>sr AA λH i=>zm tb 2 AA (zl tb AA AA (zq tb AA (dn i AA ?_)));refine ci b AA ?_ ?_<;>clear b<;>intro I b
 ·refine AL (h _ (AG λJ j=>AU (Bd (JR s1 p1_0 [GW e]) 14 (by kernel_rfl) (by kernel_rfl) (by kernel_rfl) (by rfl) (BM (ow 3 0 e) AI AA (λ_ _=>BT AA) (BM BJ AI AA (λ_ _=>BT AA) (BM (HG p1_0 s1) AI AA (λ_ _=>Ar D8 AA AA AA nk rfl) (BM (ls eI p2) AI AA (λ_ _=>BT AA) (BM (ls eI p3) AI AA (λ_ _=>BT AA) (BM (i64 g) AI AA (λ_ _=>BT AA) (bs b λk o b=>BM (.Bh (eI k) 0) AI AA (λ_ _=>Ce BQ AA AA o AA) (BM (i64 k) AI AA (λ_ _=>Hg HU AA AA) (BM (i64 p4) AI AA (λ_ _=>BT AA) (BM (ls eI p3) AI AA (λ_ _=>BT AA) (BM (G8 p3) AI AA (λ_ _=>Ci Fo AA) (bs b λC p b=>BM (i64 C) AI AA (λ_ _=>VT AA AA p) (bs b λa q b=>Gd (rows0:=(CR s0_0 u s1 [])) (rows1:=(CR s0_0 a.2 s1 [])) (v':=(DM a.1.op a.1.num a.1.kids)) (y0:=(CT s0_0 a.2)) [0,1] AI (hb 134) (hrec_spec_gen q) rfl (by decide) rfl AA (.raw AA AA (.pure (AD λ_=>AA) .nil)) rfl AA (λ_=>(.raw AA AA (.pure (AD λ_=>AA) .nil))) (λ_=>AA) rfl ?_))))))))))))))));refine FQ AI (λP zz=>F3 (l:=[a.1]) (enc:=Au) AI BU (by decide) rfl AA AA (by simp only[List.map,Ai];rfl) rfl (AD Ad) (Aw AA)) ?_;exact E0 AA (bs b λd t b=>C8 (l2:=[a.1]) AI BU AA AA AA AA Lg DS t AA (zq tb AA (dn j AA (AH AA (zm tb 3 AA (AF (xi (Sh.w (g+1),a.2,d) b (Dm (L:=[(0,BJ),(2,ls eI p2),(3,ls eI p3),(4,i64 p4),(6,CY),(11,ow 3 0 d),(12,KA g)]) (st':=(CR s0_0 a.2 s1 [aa p1_0 s1,GW d])) (.raw AA AA AA (.pure AA (AD λ_=>AA) (.raw AA AA AA (.pure AA (AD Ad) .nil)))) (.same AA)))))))))
 ·exact BD (A u e (Sh.AB b).symm _ (AT [0,1,3] AA (by decide) rfl AA (.raw AA AA (.pure (AD λ_=>AA) (.pure (AD Ad) .nil))) (.same AA)))
theorem Rz {N:Nat}{rec_spec_gen:(List Int)->Int->(List Ac)->(List AM)->(List Int)->Int->Int->Option (AE×Int)}(hrec_spec_gen :∀{s0_0:(List Int)} {s0_1:Int} {s1:(List Ac)} {p1_0:(List AM)} {p2:(List Int)} {p3:Int} {p4:Int} {r:AE×Int},rec_spec_gen s0_0 s0_1 s1 p1_0 p2 p3 p4=some r->Ab Tryz.prog 134 (Wd p1_0 s1 p2 p3 p4) (CR s0_0 s0_1 s1 []) (λv st=>v=(DM r.1.op r.1.num r.1.kids)/\st=(CR s0_0 r.2 s1 []))){s0_0:(List Int)}{s0_1:Int}{s1:(List Ac)}{p1_0:(List AM)}{p2:(List Int)}{p3 p4:Int}{r:AE×Int}(h0:JE N rec_spec_gen s0_0 s0_1 s1 p1_0 p2 p3 p4=some r):Ab Tryz.prog 140 (Wd p1_0 s1 p2 p3 p4) (CR s0_0 s0_1 s1 []) (λv st=>v=(DM r.1.op r.1.num r.1.kids)/\st=(CR s0_0 r.2 s1 [])):=by
 unfold JE at h0;refine Ab.wk (r0:=(DM r.1.op r.1.num r.1.kids)) (st0:=(CR s0_0 r.2 s1 [I0 r.1.op r.1.num r.1.kids])) (ai Tryz.func140 AA AA AA AA (sr AA λK1 U=>Bf (m:=2) AI AA AA AA AA AA (Av (m:=3) AI DH AA AA (dn U AA (sr AA λK2 V=>zq tb AA (BF (m:=4) (l:=[(1:Int),1,3,4]) (enc:=eI) AI BQ (by decide) rfl AA AA AA AA AA (AR (Wk.BL (L:=(QL p2 p3 p4 [(15,BJ),(16,ls eI [(1:Int),1,3,4])])) (st':=(Ge s0_0 s0_1 s1 p1_0 [⟨1,3,1,[]⟩])) (id:=4) rfl nv (AD λ_=>AA) ⟨.rfl,.rfl,.rfl,.rfl,.rfl,.rfl,.rfl,.BL AA,jf⟩ AA) (bs h0 λo W h0=>CM (rows0:=[CT s0_0 s0_1]) (rows1:=[CT s0_0 o.2]) (st':=(Ge s0_0 o.2 s1 p1_0 [⟨1,3,1,[]⟩])) (v':=(i64 o.1)) [0] AI (hb 70) (CE W) rfl (by decide) rfl AA (.raw AA AA .nil) rfl AA (.raw AA AA .nil) .nil AA AA (zq tb AA (dn V AA (AG λK4 X=>bs h0 λo6 a h0=>?_))))))))))) (Dc (L:=[(0,DM r.1.op r.1.num r.1.kids)]) (st':=(CR s0_0 r.2 s1 [])) [0,1] AA (by decide) rfl AA (.raw AA (.pure (AD λ_=>AA) jf)) (.same AA));have M6:∀(q:Int),o6=q->∀s,Wk 2 s ⟨69,Aa (QL p2 p3 p4 [(11,i64 q)]),Ge s0_0 o.2 s1 p1_0 []⟩->K4 s:=by
  intro q hq s A;subst o6;try dsimp only at h0
  refine X _ (AK A (sr AA λK7 Y=>zm tb 3 AA (bs h0 λh Z h0=>CL (v':=(ow 4 0 h)) AI (hb 104) (IP Z) rfl AA ⟨(CQ λ_=>AA),jf⟩ AA AA (zq tb AA (dn Y AA (sr AA λK9 b0=>zm tb 4 AA (bs h0 λd B h0=>CM (rows0:=(CR s0_0 o.2 s1 [])) (rows1:=(CR s0_0 d.2 s1 [])) (st':=(Ge s0_0 d.2 s1 p1_0 [Bl h])) (v':=(DM d.1.op d.1.num d.1.kids)) [0,1] AI (hb 136) (Ic B) rfl (by decide) rfl AA (.raw AA AA (.pure (AD λ_=>AA) .nil)) rfl AA (.raw AA AA (.pure (AD λ_=>AA) .nil)) .nil AA AA ?_)))))));refine BF (m:=5) (l:=[d.1]) (enc:=Au) AI BU (by decide) rfl AA (by simp only[List.map,Ai];rfl) rfl AA AA ?_;refine zq tb AA (dn b0 AA (AG λb1 C=>zr tb AA AA (bs h0 λt a h0=>?_)));have b2:∀(i:Int) (j:(List AE)),t=(i,j)->∀s,Wk 2 s ⟨69,Aa [(10,CY),(11,i64 q),(13,ow 3 0 j)],CR s0_0 i s1 [Iy,GW j]⟩->b1 s:=by
   intro i j hq s A;subst t;try dsimp only at h0
   refine C _ (AK A (sr AA λb8 D=>zm tb 2 AA (AR (Wk.BL (L:=[(10,CY),(66,i64 q),(67,GN j)]) (st':=(CR s0_0 i s1 [Iy,CC])) (id:=3) rfl oJ (AD Ad) ⟨.rfl,.rfl,.BL AA,jf⟩ AA) (bs h0 λe E h0=>zc (v':=(Bc e)) (hb 114) (BV E) rfl AA AA (Am AI BE AA AA AA AA AA AA nj rfl (dn D AA ?_))))));obtain rfl:=Sh.AB h0;exact Aq (Exists.intro _ (And.intro ((AT (L:=[(10,CY)]) (st':=(CR s0_0 i s1 [I0 e.op e.num e.kids])) [0,1,2] AA (by decide) rfl AA (.raw AA AA (.pure (AD λ_=>AA) (.raw AA AA .nil))) ⟨.rfl,jf⟩).trans (Af (L:=[(10,CY)]) ⟨.rfl,jf⟩)) (Ar (x:=.tmp 10) (off:=0) (cs:=(FI e)) (vs:=(FI e)) BE AA AA AA nj rfl _ ⟨AA,AA⟩)))
  refine AU (Ax (σ:=Int×Int×(List AE)) (λn v=>D5 N s0_0 s1 p1_0 p2 p3 p4 h rec_spec_gen n v.1 v.2.1 v.2.2=some t) (λ(f,k,g)=>⟨69,Aa [(0,.ptr 0 0 0 0),(2,ls eI p2),(3,i64 p3),(4,i64 p4),(6,.ptr 2 0 0 0),(10,.ptr 3 0 0 0),(11,i64 q),(12,ow 4 0 h),(13,ow 5 0 g),(14,i64 f)],[CT s0_0 k,ro 0 37 5 BS s1,⟨0,26,2,[[ls Aj p1_0,ow 1 0 s1]]⟩,Iy,ro 0 3 1 eI h,ro 0 35 3 Au g]⟩) N (0,d.2,[d.1]) a (AJ AA) (λ_ hv=>by rw[D5]at hv;cases hv) ?_);rintro n ⟨f,k,g⟩ a;try dsimp only at a⊢
  rw[D5]at a;refine AG λb9 F=>sr AA λc0 G=>zm tb 2 AA (zz (G8 h) (Cr Fo AA AA AA) rfl (zq tb AA (dn G AA ?_)));refine ci a AA ?_ ?_<;>clear a<;>intro c1 a
  ·refine AL (F _ (AG λc2 H=>AU (Bd (JR s1 p1_0 [Iy,Bl h,GW g]) 20 (by kernel_rfl) (by kernel_rfl) (by kernel_rfl) (by rfl) (BM (ow 5 0 g) AI AA (λ_ _=>BT AA) (BM BJ AI AA (λ_ _=>BT AA) (BM (HG p1_0 s1) AI AA (λ_ _=>Ar D8 AA AA AA nk rfl) (BM (ls eI p2) AI AA (λ_ _=>BT AA) (BM CY AI AA (λ_ _=>Ey UM AA AA oM rfl) (BM (Cs p1_0) AI AA (λ_ _=>By YT AA AA AA AA) (BM (ow 4 0 h) AI AA (λ_ _=>BT AA) (BM (i64 f) AI AA (λ_ _=>BT AA) (bs a λb3 p a=>BM (UD f) AI AA (λ_ _=>Bz BQ AA AA AA AA p) (BM (i64 b3) AI AA (λ_ _=>By HU AA AA (CV p) rfl) (bs a λb4 I a=>FQ AI (λx0 zz=>BW (v:=(ls eI b4)) AI (hb 99) (Eo I) rfl AA AA (Aw AA)) (bs a λJ K a=>?_)))))))))))))));refine FQ AI (λx0 zz=>BW (v:=(ls eI J)) AI (hb 85) (Ab.wk (FP K) (by refine Wk.trans (Wk.BL (L:=[(0,ls eI J)]) (st':=TA) (id:=0) rfl np (AD λ_=>AA) ⟨.BL AA,jf⟩ AA) ?_;exact AT [] AA (by decide) rfl AA .nil (.same AA))) rfl AA AA (Aw AA)) ?_;refine BM (i64 p3) AI AA (λ_ _=>BT AA) (BM (i64 p4) AI AA (λ_ _=>BT AA) (BM (i64 (Sh.w (p4-2))) AI AA (λ_ _=>ON AA AA) (BM (ow 4 0 h) AI AA (λ_ _=>BT AA) (BM (G8 h) AI AA (λ_ _=>Cr Fo AA AA AA) (bs a λb5 M a=>BM (i64 b5) AI AA (λ_ _=>VT AA AA M) (bs a λb O a=>Gd (rows0:=(CR s0_0 k s1 [])) (rows1:=(CR s0_0 b.2 s1 [])) (v':=(DM b.1.op b.1.num b.1.kids)) (y0:=(CT s0_0 b.2)) [0,1] AI (hb 134) (hrec_spec_gen O) rfl (by decide) rfl AA (.raw AA AA (.pure (AD λ_=>AA) .nil)) rfl AA (λ_=>(.raw AA AA (.pure (AD λ_=>AA) .nil))) (λ_=>AA) rfl ?_))))));refine FQ AI (λx0 zz=>F3 (l:=[b.1]) (enc:=Au) AI BU (by decide) rfl AA AA (by simp only[List.map,Ai];rfl) rfl (AD Ad) (Aw AA)) ?_;exact E0 AA (bs a λu P a=>C8 (l2:=[b.1]) AI BU AA AA AA AA Lg DS P AA (zq tb AA (dn H AA (AH AA (zm tb 3 AA (AF (xi (Sh.w (f+1),b.2,u) a (Dm (L:=(QL p2 p3 p4 [(11,i64 q),(12,ow 4 0 h),(13,ow 5 0 u),(14,KA f)])) (st':=(Ge s0_0 b.2 s1 p1_0 [Bl h,GW u])) (.raw AA AA AA (.pure AA (AD λ_=>AA) (.raw AA AA AA (.raw AA AA AA (.pure AA (AD λ_=>AA) (.pure AA (AD Ad) .nil)))))) (.same AA)))))))))
  ·exact BD (b2 k g (Sh.AB a).symm _ (AT [0,1,3,5] AA (by decide) rfl AA (.raw AA AA (.pure (AD λ_=>AA) (.raw AA AA (.pure (AD Ad) .nil)))) (.same AA)))
 refine AG λb6 Q=>bs a λR y a=>?_;have S:∀(z:Bool),R=z->∀s,Wk 2 s ⟨69,Aa (QL p2 p3 p4 [(11,i64 o.1),(28,.bool z)]),Ge s0_0 o.2 s1 p1_0 []⟩->b6 s:=by
  intro z hq s A;subst R;try dsimp only at a
  refine Q _ (AK A ?_);refine ci a AA ?_ ?_<;>clear a<;>intro c3 a
  ·exact AH AA (zq tb AA (AF (M6 1 (Sh.AB a).symm _ (AJ AA))))
  ·exact AL (M6 o.1 (Sh.AB a).symm _ (AJ AA))
 refine AH AA (zm tb 3 AA (zl tb AA AA (zm tb 2 AA ?_)));rcases Sh.Ak y with ⟨c,y⟩|⟨c,y⟩
 ·refine zs c AA ?_;iterate 3 refine zs c rfl ?_
  exact zt c AA (AF (S true (Sh.AB y).symm _ (AT [0,1,2,3] AA (by decide) rfl AA (.raw AA AA (.pure (AD λ_=>AA) (.raw AA AA (.raw AA AA .nil)))) (.same AA))))
 ·exact zg tb c AA (zg tb c AA (zg tb c AA (bs y λb7 T y=>zd c (hb 102) (JT T) rfl AA AA AA (zf c AA (AF (S b7 (Sh.AB y).symm _ (AT [0,1,2,3] AA (by decide) rfl AA (.raw AA AA (.pure (AD λ_=>AA) (.raw AA AA (.raw AA AA .nil)))) (.same AA))))))))
theorem Rr {N:Nat}{p0:AP}{p1:Int}{r:(List Int)}(h0:I4 N p0 p1=some r):Ab Tryz.prog 141 [H5 p0,i64 p1] [] (λv st=>v=(ow 0 0 r)/\st=[Bl r]):=by
 unfold I4 at h0;refine ai Tryz.func141 AA AA AA AA (sr AA λK1 S=>Bf (m:=0) AI AA AA AA AA AA (zq tb AA (dn S AA (sr AA λK2 T=>BF (m:=1) (l:=([]:List Int)) (enc:=eI) AI BQ (by decide) rfl AA AA AA AA AA (zq tb AA (dn T AA (AG λK3 U=>zr tb AA AA (bs h0 λV c h0=>?_))))))));have M8:∀(y:(List Int)),V=y->∀s,Wk 0 s ⟨57,Aa [(5,ow 0 0 y)],[Bl y]⟩->K3 s:=by
  intro y W s q;subst V;try dsimp only at h0
  refine U _ (AK q (zr tb AA AA ?_));obtain rfl:=Sh.AB h0;exact rt [(4,ow 0 0 y)]
 refine AU (Ax (σ:=Int×(List Int)) (λn v=>Ei N p0 p1 n v.1 v.2=some V) (λ(f,g)=>⟨57,Aa [(1,i64 p1),(2,.ptr 0 0 0 0),(5,ow 1 0 g),(6,i64 f)],[WO p0.decls p0.funcs,ro 0 3 1 eI g]⟩) N (1,[]) c (AJ AA) (λ_ z=>by rw[Ei]at z;cases z) ?_);rintro n ⟨f,g⟩ c;try dsimp only at c⊢
 rw[Ei]at c;refine AG λb2 A=>sr AA λb3 B=>zm tb 3 AA (zl tb AA AA (zq tb AA (dn B AA ?_)));refine ci c AA ?_ ?_<;>clear c<;>intro b4 c
 ·refine AL (A _ (AG λX C=>bs c λD d c=>?_));have E:∀(h:(List Int)),D=h->∀s,Wk 0 s ⟨57,Aa (aA p1 h f []),[WO p0.decls p0.funcs,Bl h]⟩->X s:=by
   intro h W s q;subst D;try dsimp only at c
   exact C _ (AK q (AH AA (zm tb 3 AA (AF (xi (Sh.w (f+1),h) c (AJ AA))))))
  refine AU (sr AA λb5 F=>zm tb 3 AA (bs d λt i d=>zx Cu i AA AA AA (zm tb 5 AA (dn F AA (AG λY G=>zr tb AA AA (bs d λu e d=>?_))))));have Z:∀(j:Bool),u=j->∀s,Wk 0 s ⟨57,Aa (aA p1 g f [(7,.bool j)]),[WO p0.decls p0.funcs,Bl g]⟩->Y s:=by
   intro j W s q;subst u;try dsimp only at d
   refine G _ (AK q (zr tb AA AA ?_));refine ci d AA ?_ ?_<;>clear d<;>intro b6 d
   ·refine AH AA (zm tb 2 AA (BF (m:=2) (l:=[f]) (enc:=eI) AI BQ (by decide) rfl AA AA AA AA AA (bs d λx H d=>C8 (l2:=[f]) AI BQ AA AA AA AA (HP AA AA) (λ_=>AA) H AA (zq tb AA ?_))));exact AF (E x (Sh.AB d).symm _ (by refine Wk.trans (EX (L:=(aA p1 x f [])) (st':=[WO p0.decls p0.funcs,Bl x,ro 0 3 1 eI [f]]) (.raw AA AA (.pure (AD λ_=>AA) (.pure (AD λ_=>AA) .nil))) (.same AA)) ?_;exact AT [0,1] AA (by decide) rfl AA (.raw AA AA (.pure (AD λ_=>AA) .nil)) (.same AA)))
   ·exact AL (E g (Sh.AB d).symm _ (AJ AA))
  refine AU (Ax (σ:=Bool×Int) (λn v=>EW N t p0 n v.1 v.2=some u) (λ(k,o)=>⟨57,Aa [(1,i64 p1),(2,.ptr 0 0 0 0),(5,ow 1 0 g),(6,i64 f),(7,.bool k),(8,i64 o)],[WO p0.decls p0.funcs,ro 0 3 1 eI g]⟩) N (decide (t.result=p1),0) e (AJ AA) (λ_ z=>by rw[EW]at z;cases z) ?_);rintro n ⟨k,o⟩ e;try dsimp only at e⊢
  rw[EW]at e;refine AG λb7 I=>sr AA λb8 J=>zm tb 4 AA (zx Cu i AA AA AA (zm tb 2 AA (zl tb AA AA (zq tb AA (dn J AA ?_)))));refine ci e AA ?_ ?_<;>clear e<;>intro b9 e
  ·refine AL (I _ (AG λb0 K=>bs e λM p e=>?_));have O:∀(b:Bool),M=b->∀s,Wk 0 s ⟨57,Aa (aA p1 g f [(7,.bool b),(8,i64 o)]),[WO p0.decls p0.funcs,Bl g]⟩->b0 s:=by
    intro b W s q;subst M;try dsimp only at e
    exact K _ (AK q (AH AA (zm tb 3 AA (AF (xi (b,Sh.w (o+1)) e (AJ AA))))))
   refine AU (Bu 15 (by kernel_rfl) (by kernel_rfl) (by rfl) ?_);iterate 2 refine yq tb rfl ?_
   rcases Sh.Ak p with ⟨a,p⟩|⟨a,p⟩
   ·refine yg tb a AA (F3 (l:=([]:List Int)) (enc:=eI) (CW AA AA a) BQ (by decide) rfl AA AA AA AA (AD λ_=>AA) ?_);iterate 3 refine yg tb a rfl ?_
    refine H6 (v:=(.Bh (BS t) 0)) (CW AA AA a) rfl (Ce Cu AA AA i AA) ?_;iterate 3 refine yg tb a rfl ?_
    exact bs p λb1 P p=>H6 (v:=(.Bh (eI b1) 0)) (CW AA AA a) rfl (Ce BQ AA AA P AA) (yg tb a AA (bs p λQ R p=>BW (v:=(.bool Q)) (CW AA AA a) (hb 145) (JW R) rfl AA AA (yt a AA (Aw (zq tb AA (AF (O Q (Sh.AB p).symm _ (AJ AA))))))))
   ·refine ys a AA ?_;iterate 11 refine ys a rfl ?_
    exact yf a AA (Aw (zq tb AA (AF (O false (Sh.AB p).symm _ (AJ AA)))))
  ·exact BD (Z k (Sh.AB e).symm _ (AJ AA))
 ·exact BD (M8 g (Sh.AB c).symm _ (AT [1] AA (by decide) rfl AA (.pure (AD λ_=>AA) .nil) (.same AA)))
theorem R4 {N:Nat}{rec_spec_gen:(List Int)->Int->(List Ac)->(List AM)->(List Int)->Int->Int->Option (AE×Int)}(hrec_spec_gen :∀{s0_0:(List Int)} {s0_1:Int} {s1:(List Ac)} {p1_0:(List AM)} {p2:(List Int)} {p3:Int} {p4:Int} {r:AE×Int},rec_spec_gen s0_0 s0_1 s1 p1_0 p2 p3 p4=some r->Ab Tryz.prog 134 (Wd p1_0 s1 p2 p3 p4) (CR s0_0 s0_1 s1 []) (λv st=>v=(DM r.1.op r.1.num r.1.kids)/\st=(CR s0_0 r.2 s1 []))){s0_0:(List Int)}{s0_1:Int}{s1:(List Ac)}{p1_0:(List AM)}{p2:(List Int)}{p3 p4:Int}{r:AE×Int}(h0:JH N rec_spec_gen s0_0 s0_1 s1 p1_0 p2 p3 p4=some r):Ab Tryz.prog 142 (Wd p1_0 s1 p2 p3 p4) (CR s0_0 s0_1 s1 []) (λv st=>v=(DM r.1.op r.1.num r.1.kids)/\st=(CR s0_0 r.2 s1 [])):=by
 unfold JH at h0;refine Ab.wk (r0:=(DM r.1.op r.1.num r.1.kids)) (st0:=(CR s0_0 r.2 s1 [I0 r.1.op r.1.num r.1.kids])) (ai Tryz.func142 AA AA AA AA (sr AA λK1 d4=>Bf (m:=2) AI AA AA AA AA AA (Av (m:=3) AI DH AA AA (dn d4 AA (AG λK2 d5=>?_))))) (Dc (L:=[(0,DM r.1.op r.1.num r.1.kids)]) (st':=(CR s0_0 r.2 s1 [])) [0,1] AA (by decide) rfl AA (.raw AA (.pure (AD λ_=>AA) jf)) (.same AA));obtain⟨o4,y,h0⟩:=Sh.Bi h0;have M4:∀(I:Int),o4=Sum.inr I->∀s,Wk 2 s ⟨120,Aa (QL p2 p3 p4 []),Ge s0_0 I s1 p1_0 []⟩->K2 s:=by
  intro I hq s K;subst o4;try dsimp only at h0
  refine d5 _ (AK K (sr AA λK5 d6=>zm tb 3 AA (bs h0 λz d7 h0=>CL (v':=(ow 4 0 z)) AI (hb 104) (IP d7) rfl AA ⟨(CQ λ_=>AA),jf⟩ AA AA (zq tb AA (dn d6 AA (AG λK7 d8=>sr AA λK8 d9=>zq tb AA (zz (G8 z) (Cr Fo AA AA AA) rfl (zq tb AA (dn d9 AA ?_)))))))));refine ci h0 AA ?_ ?_<;>clear h0<;>intro b9 h0
  ·refine sr AA λg5 M=>zm tb 3 AA (zz (G8 z) (Cr Fo AA AA AA) rfl (bs h0 λA O h0=>CM (rows0:=[CT s0_0 I]) (rows1:=[CT s0_0 A.2]) (st':=(Ge s0_0 A.2 s1 p1_0 [Bl z])) (v':=(i64 A.1)) [0] AI (hb 83) (Ay O) rfl (by decide) rfl AA (.raw AA AA .nil) rfl AA (.raw AA AA .nil) .nil AA AA (bs h0 λD C h0=>zz (UD A.1) (Bz BQ AA AA AA AA C) rfl (zz (i64 D) (By HU AA AA (CV C) rfl) rfl (zq tb AA (dn M AA (AG λg6 P=>Bd (JR s1 p1_0 [Iy,Bl z]) 12 (by kernel_rfl) (by kernel_rfl) (by kernel_rfl) (by rfl) (BM (i64 D) AI AA (λ_ _=>BT AA) (BM BJ AI AA (λ_ _=>BT AA) (BM (HG p1_0 s1) AI AA (λ_ _=>Ar D8 AA AA AA nk rfl) (BM (ls eI p2) AI AA (λ_ _=>BT AA) (BM CY AI AA (λ_ _=>Ey UM AA AA oM rfl) (BM (Cs p1_0) AI AA (λ_ _=>By YT AA AA AA AA) (BM (i64 D) AI AA (λ_ _=>BT AA) (bs h0 λg0 Q h0=>FQ AI (λJ zz=>BW (v:=(ls eI g0)) AI (hb 99) (Eo Q) rfl AA AA (Aw AA)) (BM (i64 p4) AI AA (λ_ _=>BT AA) (BM (i64 (Sh.w (p4-1))) AI AA (λ_ _=>ON AA AA) (bs h0 λk R h0=>?_))))))))))))))))));refine Gd (rows0:=(CR s0_0 A.2 s1 [])) (rows1:=(CR s0_0 k.2 s1 [])) (v':=(GN k.1)) (y0:=(CT s0_0 k.2)) [0,1] AI (hb 139) (Ab.wk (IM hrec_spec_gen R) (by refine Wk.trans (Wk.BL (L:=[(0,GN k.1)]) (st':=(CR s0_0 k.2 s1 [CC])) (id:=2) rfl oN (AD Ad) ⟨.BL AA,jf⟩ AA) ?_;exact AT [0,1] AA (by decide) rfl AA (.raw AA AA (.pure (AD λ_=>AA) .nil)) (.same AA))) rfl (by decide) rfl AA (.raw AA AA (.pure (AD λ_=>AA) .nil)) rfl AA (λ_=>(.raw AA AA (.pure (AD λ_=>AA) .nil))) (λ_=>AA) rfl ?_;refine bs h0 λo S h0=>FQ AI (λJ zz=>BW (v:=(Bc o)) AI (hb 114) (BV S) rfl AA AA (Aw AA)) (E0 AA (Am AI BE AA AA AA AA AA AA nj rfl (dn P AA ?_)));obtain rfl:=Sh.AB h0;exact Aq (Exists.intro _ (And.intro ((AT (L:=[(10,CY)]) (st':=(CR s0_0 k.2 s1 [I0 o.op o.num o.kids])) [0,1,3] AA (by decide) rfl AA (.raw AA AA (.pure (AD λ_=>AA) (.raw AA AA .nil))) ⟨.rfl,jf⟩).trans (Af (L:=[(10,CY)]) ⟨.rfl,jf⟩)) (Ar (x:=.tmp 10) (off:=0) (cs:=(FI o)) (vs:=(FI o)) BE AA AA AA nj rfl _ ⟨AA,AA⟩)))
  ·refine AL (d8 _ (AG λg7 T=>zr tb AA AA ?_));refine ci h0 AA ?_ ?_<;>clear h0<;>intro g8 h0
   ·refine sr AA λg9 U=>zm tb 4 AA (bs h0 λa V h0=>CM (rows0:=(CR s0_0 I s1 [])) (rows1:=(CR s0_0 a.2 s1 [])) (st':=(Ge s0_0 a.2 s1 p1_0 [Bl z])) (v':=(DM a.1.op a.1.num a.1.kids)) [0,1] AI (hb 136) (Ic V) rfl (by decide) rfl AA (.raw AA AA (.pure (AD λ_=>AA) .nil)) rfl AA (.raw AA AA (.pure (AD λ_=>AA) .nil)) .nil AA AA (Am AI BE AA AA AA AA AA AA nj rfl (dn U AA ?_)));obtain rfl:=Sh.AB h0;exact Aq (Exists.intro _ (And.intro ((AT (L:=[(10,CY)]) (st':=(CR s0_0 a.2 s1 [I0 a.1.op a.1.num a.1.kids])) [0,1,3] AA (by decide) rfl AA (.raw AA AA (.pure (AD λ_=>AA) (.raw AA AA .nil))) ⟨.rfl,jf⟩).trans (Af (L:=[(10,CY)]) ⟨.rfl,jf⟩)) (Ar (x:=.tmp 10) (off:=0) (cs:=(LA a.1.op a.1.num a.1.kids)) (vs:=(LA a.1.op a.1.num a.1.kids)) BE AA AA AA nj rfl _ ⟨AA,AA⟩)))
   ·refine AL (T _ (AG λh4 W=>sr AA λh5 X=>zq tb AA (bs h0 λg Y h0=>CM (rows0:=[CT s0_0 I]) (rows1:=[CT s0_0 g.2]) (st':=(Ge s0_0 g.2 s1 p1_0 [Bl z])) (v':=(i64 g.1)) [0] AI (hb 83) (Ay Y) rfl (by decide) rfl AA (.raw AA AA .nil) rfl AA (.raw AA AA .nil) .nil AA AA (zq tb AA (dn X AA ?_)))));refine ci h0 AA ?_ ?_<;>clear h0<;>intro h6 h0
    ·refine sr AA λh7 Z=>zm tb 3 AA (BF (m:=5) (l:=[(0:Int)]) (enc:=eI) AI BQ (by decide) rfl AA AA AA AA AA (zm tb 2 AA (AR (Wk.BL (L:=[(10,HH),(101,BJ),(102,HG p1_0 s1),(103,ls eI p2),(104,ls eI [(0:Int)]),(106,i64 (Sh.w (p4-1)))]) (st':=(Ge s0_0 g.2 s1 p1_0 [Bl z,⟨1,3,1,[]⟩])) (id:=5) rfl ny (AD λ_=>AA) ⟨.rfl,.rfl,.agg ⟨.rfl,.rfl,jf⟩,.rfl,.BL AA,.rfl,jf⟩ AA) (bs h0 λc b0 h0=>F8 (rowsP:=(CR s0_0 g.2 s1 [])) (rows0:=(CR s0_0 g.2 s1 [])) (rows1:=(CR s0_0 c.2 s1 [])) (rows2:=[GW c.1]) (rows1':=(CR s0_0 c.2 s1 [])) (rows2':=[GW c.1]) (st':=(Ge s0_0 c.2 s1 p1_0 [Bl z,⟨1,3,1,[]⟩,GW c.1])) (v':=(ow 6 0 c.1)) [0,1] AI (hb 139) (IM hrec_spec_gen b0) rfl (by decide) rfl AA (.raw AA AA (.pure (AD λ_=>AA) .nil)) rfl AA (.raw AA AA (.pure (AD λ_=>AA) .nil)) (.pure (AD Ad) .nil) rfl AA (AR (Wk.BL (L:=[(10,HH),(107,GN c.1)]) (st':=(Ge s0_0 c.2 s1 p1_0 [Bl z,⟨1,3,1,[]⟩,CC])) (id:=6) rfl oF (AD Ad) ⟨.rfl,.BL AA,jf⟩ AA) (bs h0 λp b1 h0=>zc (v':=(Bc p)) (hb 114) (BV b1) rfl AA AA (Am AI BE AA AA AA AA AA AA nj rfl (dn Z AA ?_))))))));obtain rfl:=Sh.AB h0;exact Aq (Exists.intro _ (And.intro ((AT (L:=[(10,CY)]) (st':=(CR s0_0 c.2 s1 [I0 p.op p.num p.kids])) [0,1,3] AA (by decide) rfl AA (.raw AA AA (.pure (AD λ_=>AA) (.raw AA AA .nil))) ⟨.rfl,jf⟩).trans (Af (L:=[(10,CY)]) ⟨.rfl,jf⟩)) (Ar (x:=.tmp 10) (off:=0) (cs:=(FI p)) (vs:=(FI p)) BE AA AA AA nj rfl _ ⟨AA,AA⟩)))
    ·refine AL (W _ (AG λh8 b2=>Bd (JR s1 p1_0 [Iy,Bl z]) 11 (by kernel_rfl) (by kernel_rfl) (by kernel_rfl) (by rfl) (BM BJ AI AA (λ_ _=>BT AA) (FQ AI (λJ zz=>F3 (l:=[(1:Int),2,3,4]) (enc:=eI) AI BQ (by decide) rfl AA AA AA AA (AD λ_=>AA) (Aw AA)) (bs h0 λB b3 h0=>Gd (rows0:=[CT s0_0 g.2]) (rows1:=[CT s0_0 B.2]) (v':=(i64 B.1)) (y0:=(CT s0_0 B.2)) [0] AI (hb 70) (CE b3) rfl (by decide) rfl AA (.raw AA AA .nil) rfl AA (λ_=>(.raw AA AA .nil)) (λ_=>AA) rfl (BM BJ AI AA (λ_ _=>BT AA) (BM (HG p1_0 s1) AI AA (λ_ _=>Ar D8 AA AA AA nk rfl) (BM (ls eI p2) AI AA (λ_ _=>BT AA) (FQ AI (λJ zz=>F3 (l:=[(0:Int),0]) (enc:=eI) AI BQ (by decide) rfl AA AA AA AA (AD λ_=>AA) (Aw AA)) (BM (i64 p4) AI AA (λ_ _=>BT AA) (BM (i64 (Sh.w (p4-1))) AI AA (λ_ _=>ON AA AA) (bs h0 λq b4 h0=>?_))))))))))));refine Gd (rows0:=(CR s0_0 B.2 s1 [])) (rows1:=(CR s0_0 q.2 s1 [])) (v':=(GN q.1)) (y0:=(CT s0_0 q.2)) [0,1] AI (hb 139) (Ab.wk (IM hrec_spec_gen b4) (by refine Wk.trans (Wk.BL (L:=[(0,GN q.1)]) (st':=(CR s0_0 q.2 s1 [CC])) (id:=2) rfl oN (AD Ad) ⟨.BL AA,jf⟩ AA) ?_;exact AT [0,1] AA (by decide) rfl AA (.raw AA AA (.pure (AD λ_=>AA) .nil)) (.same AA))) rfl (by decide) rfl AA (.raw AA AA (.pure (AD λ_=>AA) .nil)) rfl AA (λ_=>(.raw AA AA (.pure (AD λ_=>AA) .nil))) (λ_=>AA) rfl ?_;refine bs h0 λt b5 h0=>FQ AI (λJ zz=>BW (v:=(Bc t)) AI (hb 114) (BV b5) rfl AA AA (Aw AA)) (E0 AA (Am AI BE AA AA AA AA AA AA nj rfl (dn b2 AA ?_)));obtain rfl:=Sh.AB h0;exact Aq (Exists.intro _ (And.intro ((AT (L:=[(10,CY)]) (st':=(CR s0_0 q.2 s1 [I0 t.op t.num t.kids])) [0,1,3] AA (by decide) rfl AA (.raw AA AA (.pure (AD λ_=>AA) (.raw AA AA .nil))) ⟨.rfl,jf⟩).trans (Af (L:=[(10,CY)]) ⟨.rfl,jf⟩)) (Ar (x:=.tmp 10) (off:=0) (cs:=(FI t)) (vs:=(FI t)) BE AA AA AA nj rfl _ ⟨AA,AA⟩)))
 refine sr AA λh9 b6=>zq tb AA (bs y λd b7 y=>CM (rows0:=[CT s0_0 s0_1]) (rows1:=[CT s0_0 d.2]) (st':=(Ge s0_0 d.2 s1 p1_0 [])) (v':=(i64 d.1)) [0] AI (hb 83) (Ay b7) rfl (by decide) rfl AA (.raw AA AA .nil) rfl AA (.raw AA AA .nil) .nil AA AA (zq tb AA (dn b6 AA ?_)));refine ci y AA ?_ ?_<;>clear y<;>intro k0 y
 ·refine zr tb AA AA (AW.fin λg1 b8=>?_);obtain⟨E,b,y⟩:=Sh.Bi y;have g2:∀(_:Unit),E=Sum.inr ()->∀s,Wk 2 s ⟨120,Aa (QL p2 p3 p4 []),Ge s0_0 d.2 s1 p1_0 []⟩->g1 s:=by
   intro _ hq s K;subst E;try dsimp only at y
   exact b8 _ (M4 d.2 (Sh.AB y).symm _ (K.trans (Af (L:=(QL p2 p3 p4 [])) (.same AA))))
  refine AU (Ax (σ:=Int) (λn v=>Ee N s0_0 s1 p1_0 p2 p3 p4 d rec_spec_gen n v=some E) (λa38=>⟨120,Aa [(0,.ptr 0 0 0 0),(2,ls eI p2),(3,i64 p3),(4,i64 p4),(6,.ptr 2 0 0 0),(10,.ptr 3 0 0 0),(11,i64 a38)],[CT s0_0 d.2,ro 0 37 5 BS s1,⟨0,26,2,[[ls Aj p1_0,ow 1 0 s1]]⟩,Iy]⟩) N 1 b (AJ AA) (λ_ hv=>by rw[Ee]at hv;cases hv) ?_);rintro n a38 b;try dsimp only at b⊢
  rw[Ee]at b;refine AG λk1 c0=>sr AA λk2 c1=>zm tb 3 AA (zl tb AA AA (zq tb AA (dn c1 AA ?_)));refine ci b AA ?_ ?_<;>clear b<;>intro k3 b
  ·refine AL (c0 _ (AG λk4 c2=>AU (AG λg3 c3=>bs b λc4 h b=>?_)));have F:∀(G:Bool),c4=G->∀s,Wk 2 s ⟨120,Aa (QL p2 p3 p4 [(11,i64 a38),(44,.bool G)]),Ge s0_0 d.2 s1 p1_0 []⟩->g3 s:=by
    intro G hq s K;subst c4;try dsimp only at b
    refine c3 _ (AK K ?_);refine ci b AA ?_ ?_<;>clear b<;>intro k5 b
    ·refine AG λk6 c5=>Bd (JR s1 p1_0 [Iy]) 20 (by kernel_rfl) (by kernel_rfl) (by kernel_rfl) (by rfl) (BM BJ AI AA (λ_ _=>BT AA) (BM (HG p1_0 s1) AI AA (λ_ _=>Ar D8 AA AA AA nk rfl) (BM (ls eI p2) AI AA (λ_ _=>BT AA) (BM (i64 a38) AI AA (λ_ _=>BT AA) (bs b λi c6 b=>Gd (rows0:=(CR s0_0 d.2 s1 [])) (rows1:=(CR s0_0 i.2 s1 [])) (v':=(DM i.1.op i.1.num i.1.kids)) (y0:=(CT s0_0 i.2)) [0,1] AI (hb 136) (Ic c6) rfl (by decide) rfl AA (.raw AA AA (.pure (AD λ_=>AA) .nil)) rfl AA (λ_=>(.raw AA AA (.pure (AD λ_=>AA) .nil))) (λ_=>AA) rfl (BM BJ AI AA (λ_ _=>BT AA) (BM (HG p1_0 s1) AI AA (λ_ _=>Ar D8 AA AA AA nk rfl) (BM (ls eI p2) AI AA (λ_ _=>BT AA) (BM CY AI AA (λ_ _=>Ey UM AA AA oM rfl) (BM (Cs p1_0) AI AA (λ_ _=>By YT AA AA AA AA) (BM (i64 a38) AI AA (λ_ _=>BT AA) (BM (i64 (Sh.w (a38-1))) AI AA (λ_ _=>ON AA AA) (bs b λH c7 b=>BM (.Bh (Aj H) 0) AI AA (λ_ _=>Ce DF AA AA c7 AA) (BM (.Bh (Aj H) 0) AI AA (λ_ _=>IG ep AA AA) (BM (i64 H.from_) AI AA (λ_ _=>Hg HU AA AA) (BM (i64 p4) AI AA (λ_ _=>BT AA) (BM (i64 (Sh.w (p4-2))) AI AA (λ_ _=>ON AA AA) (bs b λj c8 b=>Gd (rows0:=(CR s0_0 i.2 s1 [])) (rows1:=(CR s0_0 j.2 s1 [])) (v':=(DM j.1.op j.1.num j.1.kids)) (y0:=(CT s0_0 j.2)) [0,1] AI (hb 134) (hrec_spec_gen c8) rfl (by decide) rfl AA (.raw AA AA (.pure (AD λ_=>AA) .nil)) rfl AA (λ_=>(.raw AA AA (.pure (AD λ_=>AA) .nil))) (λ_=>AA) rfl ?_))))))))))))))))));refine FQ AI (λJ zz=>F3 (l:=[i.1,j.1]) (enc:=Au) AI BU (by decide) rfl AA AA (by simp only[List.map,Ai];rfl) rfl (AD Ad) (Aw AA)) ?_;refine bs b λu c9 b=>FQ AI (λJ zz=>BW (v:=(Bc u)) AI (hb 114) (BV c9) rfl AA AA (Aw AA)) (E0 AA (Am AI BE AA AA AA AA AA AA nj rfl (dn c5 AA ?_)));obtain rfl:=Sh.AB b;try dsimp only[id]at y
     obtain rfl:=Sh.AB y;try dsimp only[id]at h0
     obtain rfl:=Sh.AB h0;exact Aq (Exists.intro _ (And.intro ((AT (L:=[(10,CY)]) (st':=(CR s0_0 j.2 s1 [I0 u.op u.num u.kids])) [0,1,3] AA (by decide) rfl AA (.raw AA AA (.pure (AD λ_=>AA) (.raw AA AA .nil))) ⟨.rfl,jf⟩).trans (Af (L:=[(10,CY)]) ⟨.rfl,jf⟩)) (Ar (x:=.tmp 10) (off:=0) (cs:=(FI u)) (vs:=(FI u)) BE AA AA AA nj rfl _ ⟨AA,AA⟩)))
    ·exact AL (c2 _ (AH AA (zm tb 3 AA (AF (xi (Sh.w (a38+1)) b (AJ AA))))))
   refine AH AA (zm tb 3 AA (bs h λk7 d0 h=>zc (hb 102) (JT d0) rfl AA AA (zq tb AA ?_)));rcases Sh.Ak h with ⟨e,h⟩|⟨e,h⟩
   ·refine zg tb e AA ?_;iterate 3 refine zg tb e rfl ?_
    refine bs h λg4 d1 h=>Ba (v:=(.Bh (Aj g4) 0)) (CW AA AA e) rfl (Ce DF AA AA d1 AA) ?_;iterate 4 refine zg tb e rfl ?_
    refine zt e AA (zq tb AA ?_);rcases Sh.Ak h with ⟨f,h⟩|⟨f,h⟩
    ·exact zg tb f AA (zg tb f AA (zg tb f AA (bs h λd2 d3 h=>Lz (v':=(.bool d2)) (CW AA AA f) (hb 145) (JW d3) rfl (.agg (.val AA (.own AA AA (λ_=>AA) .nil)) (.val AA (.val AA .nil))) rfl jf AA AA (zt f AA (AF (F d2 (Sh.AB h).symm _ (AJ AA)))))))
    ·refine zs f AA ?_;iterate 3 refine zs f rfl ?_
     exact zf f AA (AF (F false (Sh.AB h).symm _ (AJ AA)))
   ·refine zs e AA ?_;iterate 8 refine zs e rfl ?_
    refine zf e AA (zq tb AA ?_);iterate 4 refine zs rfl rfl ?_
    exact zf AA AA (AF (F false (Sh.AB h).symm _ (AJ AA)))
  ·exact BD (g2 () (Sh.AB b).symm _ (AJ AA))
 ·exact AL (M4 d.2 (Sh.AB y).symm _ (AJ AA))
theorem Vh {N:Nat}{rec_spec_gen:(List Int)->Int->(List Ac)->(List AM)->(List Int)->Int->Int->Option (AE×Int)}(hrec_spec_gen :∀{s0_0:(List Int)} {s0_1:Int} {s1:(List Ac)} {p1_0:(List AM)} {p2:(List Int)} {p3:Int} {p4:Int} {r:AE×Int},rec_spec_gen s0_0 s0_1 s1 p1_0 p2 p3 p4=some r->Ab Tryz.prog 134 (Wd p1_0 s1 p2 p3 p4) (CR s0_0 s0_1 s1 []) (λv st=>v=(DM r.1.op r.1.num r.1.kids)/\st=(CR s0_0 r.2 s1 []))){s0_0:(List Int)}{s0_1:Int}{s1:(List Ac)}{p1_0:(List AM)}{p2:(List Int)}{p3 p4:Int}{r:AE×Int}(h0:LF N rec_spec_gen s0_0 s0_1 s1 p1_0 p2 p3 p4=some r):Ab Tryz.prog 134 (Wd p1_0 s1 p2 p3 p4) (CR s0_0 s0_1 s1 []) (λv st=>v=(DM r.1.op r.1.num r.1.kids)/\st=(CR s0_0 r.2 s1 [])):=by
 unfold LF at h0;refine Ab.wk (r0:=(DM r.1.op r.1.num r.1.kids)) (st0:=(CR s0_0 r.2 s1 [I0 r.1.op r.1.num r.1.kids])) (ai Tryz.func134 AA AA AA AA (sr AA λK1 c8=>Bf (m:=2) AI AA AA AA AA AA (Av (m:=3) AI DH AA AA (dn c8 AA (AG λK2 c9=>zr tb AA AA ?_))))) (Dc (L:=[(0,DM r.1.op r.1.num r.1.kids)]) (st':=(CR s0_0 r.2 s1 [])) [0,1] AA (by decide) rfl AA (.raw AA (.pure (AD λ_=>AA) jf)) (.same AA));refine ci h0 AA ?_ ?_<;>clear h0<;>intro b4 h0
 ·refine sr AA λK5 d0=>zm tb 4 AA (bs h0 λh d1 h0=>CM (rows0:=(CR s0_0 s0_1 s1 [])) (rows1:=(CR s0_0 h.2 s1 [])) (st':=(Ge s0_0 h.2 s1 p1_0 [])) (v':=(DM h.1.op h.1.num h.1.kids)) [0,1] AI (hb 136) (Ic d1) rfl (by decide) rfl AA (.raw AA AA (.pure (AD λ_=>AA) .nil)) rfl AA (.raw AA AA (.pure (AD λ_=>AA) .nil)) .nil AA AA (Am AI BE AA AA AA AA AA AA nj rfl (dn d0 AA ?_)));obtain rfl:=Sh.AB h0;exact Aq (Exists.intro _ (And.intro ((AT (L:=[(10,CY)]) (st':=(CR s0_0 h.2 s1 [I0 h.1.op h.1.num h.1.kids])) [0,1,3] AA (by decide) rfl AA (.raw AA AA (.pure (AD λ_=>AA) (.raw AA AA .nil))) ⟨.rfl,jf⟩).trans (Af (L:=[(10,CY)]) ⟨.rfl,jf⟩)) (Ar (x:=.tmp 10) (off:=0) (cs:=(LA h.1.op h.1.num h.1.kids)) (vs:=(LA h.1.op h.1.num h.1.kids)) BE AA AA AA nj rfl _ ⟨AA,AA⟩)))
 ·refine AL (c9 _ (AG λK7 d2=>?_));obtain⟨o9,a,h0⟩:=Sh.Bi h0;have M9:∀(f8:Int),o9=Sum.inr f8->∀s,Wk 2 s ⟨114,Aa (QL p2 p3 p4 []),Ge s0_0 f8 s1 p1_0 []⟩->K7 s:=by
   intro f8 hq s B;subst o9;try dsimp only at h0
   refine d2 _ (AK B (sr AA λg1 G=>zm tb 5 AA (bs h0 λc H h0=>CM (rows0:=(CR s0_0 f8 s1 [])) (rows1:=(CR s0_0 c.2 s1 [])) (st':=(Ge s0_0 c.2 s1 p1_0 [])) (v':=(DM c.1.op c.1.num c.1.kids)) [0,1] AI (hb 142) (R4 hrec_spec_gen H) rfl (by decide) rfl AA (.raw AA AA (.pure (AD λ_=>AA) .nil)) rfl AA (.raw AA AA (.pure (AD λ_=>AA) .nil)) .nil AA AA (Am AI BE AA AA AA AA AA AA nj rfl (dn G AA ?_)))));obtain rfl:=Sh.AB h0;exact Aq (Exists.intro _ (And.intro ((AT (L:=[(10,CY)]) (st':=(CR s0_0 c.2 s1 [I0 c.1.op c.1.num c.1.kids])) [0,1,3] AA (by decide) rfl AA (.raw AA AA (.pure (AD λ_=>AA) (.raw AA AA .nil))) ⟨.rfl,jf⟩).trans (Af (L:=[(10,CY)]) ⟨.rfl,jf⟩)) (Ar (x:=.tmp 10) (off:=0) (cs:=(LA c.1.op c.1.num c.1.kids)) (vs:=(LA c.1.op c.1.num c.1.kids)) BE AA AA AA nj rfl _ ⟨AA,AA⟩)))
  refine sr AA λg2 I=>zq tb AA (bs a λb J a=>CM (rows0:=[CT s0_0 s0_1]) (rows1:=[CT s0_0 b.2]) (st':=(Ge s0_0 b.2 s1 p1_0 [])) (v':=(i64 b.1)) [0] AI (hb 83) (Ay J) rfl (by decide) rfl AA (.raw AA AA .nil) rfl AA (.raw AA AA .nil) .nil AA AA (dn I AA (AU (zr tb AA AA ?_))));refine ci a AA ?_ ?_<;>clear a<;>intro g3 a
  ·refine sr AA λg4 K=>zm tb 4 AA (bs a λd M a=>CM (rows0:=(CR s0_0 b.2 s1 [])) (rows1:=(CR s0_0 d.2 s1 [])) (st':=(Ge s0_0 d.2 s1 p1_0 [])) (v':=(DM d.1.op d.1.num d.1.kids)) [0,1] AI (hb 136) (Ic M) rfl (by decide) rfl AA (.raw AA AA (.pure (AD λ_=>AA) .nil)) rfl AA (.raw AA AA (.pure (AD λ_=>AA) .nil)) .nil AA AA (Am AI BE AA AA AA AA AA AA nj rfl (dn K AA ?_)));obtain rfl:=Sh.AB a;try dsimp only[id]at h0
   obtain rfl:=Sh.AB h0;exact Aq (Exists.intro _ (And.intro ((AT (L:=[(10,CY)]) (st':=(CR s0_0 d.2 s1 [I0 d.1.op d.1.num d.1.kids])) [0,1,3] AA (by decide) rfl AA (.raw AA AA (.pure (AD λ_=>AA) (.raw AA AA .nil))) ⟨.rfl,jf⟩).trans (Af (L:=[(10,CY)]) ⟨.rfl,jf⟩)) (Ar (x:=.tmp 10) (off:=0) (cs:=(LA d.1.op d.1.num d.1.kids)) (vs:=(LA d.1.op d.1.num d.1.kids)) BE AA AA AA nj rfl _ ⟨AA,AA⟩)))
  ·refine AG λd3 O=>bs a λP f a=>?_;have Q:∀(C:Bool),P=C->∀s,Wk 2 s ⟨114,Aa (QL p2 p3 p4 [(22,i64 b.1),(30,.bool C)]),Ge s0_0 b.2 s1 p1_0 []⟩->d3 s:=by
    intro C hq s B;subst P;try dsimp only at a
    refine O _ (AK B ?_);refine ci a AA ?_ ?_<;>clear a<;>intro g5 a
    ·refine sr AA λg6 R=>zm tb 3 AA (bs a λi S a=>CM (rows0:=(CR s0_0 b.2 s1 [])) (rows1:=(CR s0_0 i.2 s1 [])) (st':=(Ge s0_0 i.2 s1 p1_0 [])) (v':=(i64 i.1)) [0,1] AI (hb 138) (Sl S) rfl (by decide) rfl AA (.raw AA AA (.pure (AD λ_=>AA) .nil)) rfl AA (.raw AA AA (.pure (AD λ_=>AA) .nil)) .nil AA AA (zq tb AA (dn R AA (AG λg7 T=>Bd (JR s1 p1_0 [Iy]) 19 (by kernel_rfl) (by kernel_rfl) (by kernel_rfl) (by rfl) (BM BJ AI AA (λ_ _=>BT AA) (BM (HG p1_0 s1) AI AA (λ_ _=>Ar D8 AA AA AA nk rfl) (BM (ls eI p2) AI AA (λ_ _=>BT AA) (BM (i64 i.1) AI AA (λ_ _=>BT AA) (BM (i64 p4) AI AA (λ_ _=>BT AA) (BM (i64 (Sh.w (Int.tdiv p4 2))) AI AA (λ_ _=>UP AA AA (by decide)) (bs a λj U a=>Gd (rows0:=(CR s0_0 i.2 s1 [])) (rows1:=(CR s0_0 j.2 s1 [])) (v':=(DM j.1.op j.1.num j.1.kids)) (y0:=(CT s0_0 j.2)) [0,1] AI (hb 134) (hrec_spec_gen U) rfl (by decide) rfl AA (.raw AA AA (.pure (AD λ_=>AA) .nil)) rfl AA (λ_=>(.raw AA AA (.pure (AD λ_=>AA) .nil))) (λ_=>AA) rfl (BM BJ AI AA (λ_ _=>BT AA) (BM (HG p1_0 s1) AI AA (λ_ _=>Ar D8 AA AA AA nk rfl) (BM (ls eI p2) AI AA (λ_ _=>BT AA) (BM (i64 i.1) AI AA (λ_ _=>BT AA) (FQ AI (λx0 zz=>F3 (l:=[i.1]) (enc:=eI) AI BQ (by decide) rfl AA AA AA AA (AD λ_=>AA) (Aw AA)) (bs a λV W a=>?_)))))))))))))))));refine FQ AI (λx0 zz=>BW (v:=(ls eI V)) AI (hb 85) (Ab.wk (FP W) (by refine Wk.trans (Wk.BL (L:=[(0,ls eI V)]) (st':=TA) (id:=0) rfl np (AD λ_=>AA) ⟨.BL AA,jf⟩ AA) ?_;exact AT [] AA (by decide) rfl AA .nil (.same AA))) rfl AA AA (Aw AA)) ?_;refine BM (i64 p3) AI AA (λ_ _=>BT AA) (BM (i64 p4) AI AA (λ_ _=>BT AA) (BM (i64 (Sh.w (Int.tdiv p4 2))) AI AA (λ_ _=>UP AA AA (by decide)) (bs a λk X a=>Gd (rows0:=(CR s0_0 j.2 s1 [])) (rows1:=(CR s0_0 k.2 s1 [])) (v':=(DM k.1.op k.1.num k.1.kids)) (y0:=(CT s0_0 k.2)) [0,1] AI (hb 134) (hrec_spec_gen X) rfl (by decide) rfl AA (.raw AA AA (.pure (AD λ_=>AA) .nil)) rfl AA (λ_=>(.raw AA AA (.pure (AD λ_=>AA) .nil))) (λ_=>AA) rfl ?_)));refine FQ AI (λx0 zz=>F3 (l:=[j.1,k.1]) (enc:=Au) AI BU (by decide) rfl AA AA (by simp only[List.map,Ai];rfl) rfl (AD Ad) (Aw AA)) ?_;refine bs a λn Y a=>FQ AI (λx0 zz=>BW (v:=(Bc n)) AI (hb 114) (BV Y) rfl AA AA (Aw AA)) (E0 AA (Am AI BE AA AA AA AA AA AA nj rfl (dn T AA ?_)));obtain rfl:=Sh.AB a;try dsimp only[id]at h0
     obtain rfl:=Sh.AB h0;exact Aq (Exists.intro _ (And.intro ((AT (L:=[(10,CY)]) (st':=(CR s0_0 k.2 s1 [I0 n.op n.num n.kids])) [0,1,3] AA (by decide) rfl AA (.raw AA AA (.pure (AD λ_=>AA) (.raw AA AA .nil))) ⟨.rfl,jf⟩).trans (Af (L:=[(10,CY)]) ⟨.rfl,jf⟩)) (Ar (x:=.tmp 10) (off:=0) (cs:=(FI n)) (vs:=(FI n)) BE AA AA AA nj rfl _ ⟨AA,AA⟩)))
    ·refine zr tb AA AA ?_;refine ci a AA ?_ ?_<;>clear a<;>intro g8 a
     ·refine sr AA λg9 Z=>zm tb 5 AA (BF (m:=4) (l:=[0,p3,p3]) (enc:=eI) AI BQ (by decide) rfl AA AA AA AA AA (zm tb 2 AA (AR (Wk.BL (L:=[(10,HH),(58,BJ),(59,HG p1_0 s1),(60,ls eI p2),(63,ls eI [0,p3,p3]),(65,i64 (Sh.w (p4-1)))]) (st':=(Ge s0_0 b.2 s1 p1_0 [⟨1,3,1,[]⟩])) (id:=4) rfl nv (AD λ_=>AA) ⟨.rfl,.rfl,.agg ⟨.rfl,.rfl,jf⟩,.rfl,.BL AA,.rfl,jf⟩ AA) (bs a λg b0 a=>F8 (rowsP:=(CR s0_0 b.2 s1 [])) (rows0:=(CR s0_0 b.2 s1 [])) (rows1:=(CR s0_0 g.2 s1 [])) (rows2:=[GW g.1]) (rows1':=(CR s0_0 g.2 s1 [])) (rows2':=[GW g.1]) (st':=(Ge s0_0 g.2 s1 p1_0 [⟨1,3,1,[]⟩,GW g.1])) (v':=(ow 5 0 g.1)) [0,1] AI (hb 139) (IM hrec_spec_gen b0) rfl (by decide) rfl AA (.raw AA AA (.pure (AD λ_=>AA) .nil)) rfl AA (.raw AA AA (.pure (AD λ_=>AA) .nil)) (.pure (AD Ad) .nil) rfl AA (AR (Wk.BL (L:=[(10,HH),(66,GN g.1)]) (st':=(Ge s0_0 g.2 s1 p1_0 [⟨1,3,1,[]⟩,CC])) (id:=5) rfl ny (AD Ad) ⟨.rfl,.BL AA,jf⟩ AA) (bs a λo b1 a=>zc (v':=(Bc o)) (hb 114) (BV b1) rfl AA AA (Am AI BE AA AA AA AA AA AA nj rfl (dn Z AA ?_))))))));obtain rfl:=Sh.AB a;try dsimp only[id]at h0
      obtain rfl:=Sh.AB h0;exact Aq (Exists.intro _ (And.intro ((AT (L:=[(10,CY)]) (st':=(CR s0_0 g.2 s1 [I0 o.op o.num o.kids])) [0,1,3] AA (by decide) rfl AA (.raw AA AA (.pure (AD λ_=>AA) (.raw AA AA .nil))) ⟨.rfl,jf⟩).trans (Af (L:=[(10,CY)]) ⟨.rfl,jf⟩)) (Ar (x:=.tmp 10) (off:=0) (cs:=(FI o)) (vs:=(FI o)) BE AA AA AA nj rfl _ ⟨AA,AA⟩)))
     ·refine AG λd4 b2=>bs a λb3 f a=>?_;have D:∀(E:Bool),b3=E->∀s,Wk 2 s ⟨114,Aa (QL p2 p3 p4 [(22,i64 b.1),(68,.bool E)]),Ge s0_0 b.2 s1 p1_0 []⟩->d4 s:=by
       intro E hq s B;subst b3;try dsimp only at a
       refine b2 _ (AK B ?_);refine ci a AA ?_ ?_<;>clear a<;>intro h3 a
       ·refine sr AA λh4 b5=>zm tb 5 AA (bs a λe b6 a=>CM (rows0:=(CR s0_0 b.2 s1 [])) (rows1:=(CR s0_0 e.2 s1 [])) (st':=(Ge s0_0 e.2 s1 p1_0 [])) (v':=(DM e.1.op e.1.num e.1.kids)) [0,1] AI (hb 140) (Rz hrec_spec_gen b6) rfl (by decide) rfl AA (.raw AA AA (.pure (AD λ_=>AA) .nil)) rfl AA (.raw AA AA (.pure (AD λ_=>AA) .nil)) .nil AA AA (Am AI BE AA AA AA AA AA AA nj rfl (dn b5 AA ?_)));obtain rfl:=Sh.AB a;try dsimp only[id]at h0
        obtain rfl:=Sh.AB h0;exact Aq (Exists.intro _ (And.intro ((AT (L:=[(10,CY)]) (st':=(CR s0_0 e.2 s1 [I0 e.1.op e.1.num e.1.kids])) [0,1,3] AA (by decide) rfl AA (.raw AA AA (.pure (AD λ_=>AA) (.raw AA AA .nil))) ⟨.rfl,jf⟩).trans (Af (L:=[(10,CY)]) ⟨.rfl,jf⟩)) (Ar (x:=.tmp 10) (off:=0) (cs:=(LA e.1.op e.1.num e.1.kids)) (vs:=(LA e.1.op e.1.num e.1.kids)) BE AA AA AA nj rfl _ ⟨AA,AA⟩)))
       ·refine AG λd5 b7=>bs a λb8 f a=>?_;have b9:∀(F:Bool),b8=F->∀s,Wk 2 s ⟨114,Aa (QL p2 p3 p4 [(78,.bool F)]),Ge s0_0 b.2 s1 p1_0 []⟩->d5 s:=by
         intro F hq s B;subst b8;try dsimp only at a
         refine b7 _ (AK B ?_);refine ci a AA ?_ ?_<;>clear a<;>intro h5 a
         ·refine sr AA λh6 c0=>zm tb 2 AA (bs a λt c1 a=>Lz (v':=(ow 4 0 t)) AI (hb 141) (Rr c1) rfl (.agg (.val AA (.own AA AA (λ_=>AA) .nil)) (.val AA .nil)) rfl (gF (λ_=>AA) jf) rfl AA (zq tb AA (dn c0 AA (sr AA λh7 c2=>zq tb AA (zz (G8 t) (Cr Fo AA AA AA) rfl (zq tb AA (dn c2 AA ?_)))))));refine ci a AA ?_ ?_<;>clear a<;>intro h8 a
          ·refine sr AA λh9 c3=>zm tb 3 AA (zz (G8 t) (Cr Fo AA AA AA) rfl (bs a λu c4 a=>CM (rows0:=[CT s0_0 b.2]) (rows1:=[CT s0_0 u.2]) (st':=(Ge s0_0 u.2 s1 p1_0 [Bl t])) (v':=(i64 u.1)) [0] AI (hb 83) (Ay c4) rfl (by decide) rfl AA (.raw AA AA .nil) rfl AA (.raw AA AA .nil) .nil AA AA (bs a λy z a=>zz (UD u.1) (Bz BQ AA AA AA AA z) rfl (zz (i64 y) (By HU AA AA (CV z) rfl) rfl (zq tb AA (dn c3 AA (AG λk0 c5=>Bd (JR s1 p1_0 [Iy,Bl t]) 14 (by kernel_rfl) (by kernel_rfl) (by kernel_rfl) (by rfl) (BM (i64 y) AI AA (λ_ _=>BT AA) (BM BJ AI AA (λ_ _=>BT AA) (BM (HG p1_0 s1) AI AA (λ_ _=>Ar D8 AA AA AA nk rfl) (BM (ls eI p2) AI AA (λ_ _=>BT AA) (BM (.ptr 2 0 0 1) AI AA (λ_ _=>Ey KL AA AA ns rfl) (BM (ow 1 0 s1) AI AA (λ_ _=>By OY AA AA AA AA) (BM (i64 y) AI AA (λ_ _=>BT AA) (bs a λd6 A a=>BM (K0 y) AI AA (λ_ _=>Bz Cu AA AA AA AA A) (BM (K0 y) AI AA (λ_ _=>Ey SP AA AA (show 0+0<=5 by decide) rfl) (BM (ls eI d6.params) AI AA (λ_ _=>By JY AA AA (CV A) rfl) (BM (i64 p4) AI AA (λ_ _=>BT AA) (BM (i64 (Sh.w (p4-1))) AI AA (λ_ _=>ON AA AA) (bs a λp c6 a=>?_))))))))))))))))))));refine Gd (rows0:=(CR s0_0 u.2 s1 [])) (rows1:=(CR s0_0 p.2 s1 [])) (v':=(GN p.1)) (y0:=(CT s0_0 p.2)) [0,1] AI (hb 139) (Ab.wk (IM hrec_spec_gen c6) (by refine Wk.trans (Wk.BL (L:=[(0,GN p.1)]) (st':=(CR s0_0 p.2 s1 [CC])) (id:=2) rfl oN (AD Ad) ⟨.BL AA,jf⟩ AA) ?_;exact AT [0,1] AA (by decide) rfl AA (.raw AA AA (.pure (AD λ_=>AA) .nil)) (.same AA))) rfl (by decide) rfl AA (.raw AA AA (.pure (AD λ_=>AA) .nil)) rfl AA (λ_=>(.raw AA AA (.pure (AD λ_=>AA) .nil))) (λ_=>AA) rfl ?_;refine bs a λq c7 a=>FQ AI (λx0 zz=>BW (v:=(Bc q)) AI (hb 114) (BV c7) rfl AA AA (Aw AA)) (E0 AA (Am AI BE AA AA AA AA AA AA nj rfl (dn c5 AA ?_)));obtain rfl:=Sh.AB a;try dsimp only[id]at h0
           obtain rfl:=Sh.AB h0;exact Aq (Exists.intro _ (And.intro ((AT (L:=[(10,CY)]) (st':=(CR s0_0 p.2 s1 [I0 q.op q.num q.kids])) [0,1,3] AA (by decide) rfl AA (.raw AA AA (.pure (AD λ_=>AA) (.raw AA AA .nil))) ⟨.rfl,jf⟩).trans (Af (L:=[(10,CY)]) ⟨.rfl,jf⟩)) (Ar (x:=.tmp 10) (off:=0) (cs:=(FI q)) (vs:=(FI q)) BE AA AA AA nj rfl _ ⟨AA,AA⟩)))
          ·exact AL (M9 b.2 (Sh.AB a).symm _ (AT [0,1,2,3] AA (by decide) rfl AA (.raw AA AA (.pure (AD λ_=>AA) (.raw AA AA (.raw AA AA .nil)))) (.same AA)))
         ·exact AL (M9 b.2 (Sh.AB a).symm _ (AJ AA))
        refine zr tb AA AA ?_;refine ci f AA ?_ ?_<;>clear f<;>intro d7 f
        ·exact AL (b9 true (Sh.AB f).symm _ (Af (L:=(QL p2 p3 p4 [(78,.bool true)])) ⟨.rfl,.rfl,.rfl,.rfl,.rfl,.rfl,.of (kf AV.bool d7),jf⟩))
        ·exact AH AA (zm tb 2 AA (AF (b9 (decide (b.1=8)) (Sh.AB f).symm _ (AJ AA))))
      refine zr tb AA AA ?_;refine ci f AA ?_ ?_<;>clear f<;>intro d8 f
      ·exact AL (D true (Sh.AB f).symm _ (Af (L:=(QL p2 p3 p4 [(22,i64 b.1),(68,.bool true)])) ⟨.rfl,.rfl,.rfl,.rfl,.rfl,.rfl,.rfl,.of (kf AV.bool d8),jf⟩))
      ·refine zr tb AA AA ?_;refine ci f AA ?_ ?_<;>clear f<;>intro d9 f
       ·exact AL (D true (Sh.AB f).symm _ (Af (L:=(QL p2 p3 p4 [(22,i64 b.1),(68,.bool true)])) ⟨.rfl,.rfl,.rfl,.rfl,.rfl,.rfl,.rfl,.of (kf AV.bool d9),jf⟩))
       ·exact AH AA (zm tb 2 AA (AF (D (decide (b.1=6)) (Sh.AB f).symm _ (AJ AA))))
   refine zr tb AA AA ?_;refine ci f AA ?_ ?_<;>clear f<;>intro g0 f
   ·exact AL (Q true (Sh.AB f).symm _ (Af (L:=(QL p2 p3 p4 [(22,i64 b.1),(30,.bool true)])) ⟨.rfl,.rfl,.rfl,.rfl,.rfl,.rfl,.rfl,.of (kf AV.bool g0),jf⟩))
   ·exact AH AA (zm tb 2 AA (AF (Q (decide (b.1=2)) (Sh.AB f).symm _ (AJ AA))))
theorem Ug {N:Nat}:∀(n:Nat),∀{s0_0:(List Int)} {s0_1:Int} {s1:(List Ac)} {p1_0:(List AM)} {p2:(List Int)} {p3:Int} {p4:Int} {r:AE×Int},JD N n s0_0 s0_1 s1 p1_0 p2 p3 p4=some r->Ab Tryz.prog 134 (Wd p1_0 s1 p2 p3 p4) (CR s0_0 s0_1 s1 []) (λv st=>v=(DM r.1.op r.1.num r.1.kids)/\st=(CR s0_0 r.2 s1 [])):=by
 intro n
 induction n with
 | zero=>intro s0_0 s0_1 s1 p1_0 p2 p3 p4 r a;cases a
 | succ n ih=>
  intro s0_0 s0_1 s1 p1_0 p2 p3 p4 r a;rw[JD]at a;exact Vh (λh=>ih h) a
theorem Fq {N:Nat}:∀{s0_0:(List Int)} {s0_1:Int} {s1:(List Ac)} {p1_0:(List AM)} {p2:(List Int)} {p3:Int} {p4:Int} {r:AE×Int},Gt N s0_0 s0_1 s1 p1_0 p2 p3 p4=some r->Ab Tryz.prog 134 (Wd p1_0 s1 p2 p3 p4) (CR s0_0 s0_1 s1 []) (λv st=>v=(DM r.1.op r.1.num r.1.kids)/\st=(CR s0_0 r.2 s1 [])):=by
 intro s0_0 s0_1 s1 p1_0 p2 p3 p4 r a;exact Ug N a
theorem Sa {N:Nat}{s0_0:(List Int)}{s0_1 p1:Int}{r:AE×Int}(h0:Jm N s0_0 s0_1 p1=some r):Ab Tryz.prog 135 [BJ,i64 p1] [CT s0_0 s0_1] (λv st=>v=(DM r.1.op r.1.num r.1.kids)/\st=[CT s0_0 r.2]):=by
 unfold Jm at h0;refine Ab.wk (r0:=(DM r.1.op r.1.num r.1.kids)) (st0:=[CT s0_0 r.2,I0 r.1.op r.1.num r.1.kids]) (ai Tryz.func135 AA AA AA AA (sr AA λK1 Z=>Av (m:=1) AI DH AA AA (dn Z AA (sr AA λK2 b0=>?_)))) (Dc (L:=[(0,DM r.1.op r.1.num r.1.kids)]) (st':=[CT s0_0 r.2]) [0] AA (by decide) rfl AA (.raw AA jf) (.same AA));refine BF (m:=2) (l:=([]:List AE)) (enc:=Au) AI BU (by decide) rfl AA (by simp only[List.map,Ai];rfl) rfl AA AA ?_;refine AR (Wk.BL (L:=[(0,BJ),(1,i64 p1),(4,CS),(10,Q0)]) (st':=[CT s0_0 s0_1,Iy,CC]) (id:=2) rfl nr (AD Ad) ⟨.rfl,.rfl,.rfl,.BL AA,jf⟩ AA) (bs h0 λA b1 h0=>zc (v':=(Bc A)) (hb 114) (BV b1) rfl AA AA (Av (m:=3) AI DH AA AA (Am AI BE AA AA AA AA AA AA nj rfl (AR (Wk.BL (L:=[(0,BJ),(1,i64 p1),(4,CS),(5,Da A)]) (st':=[CT s0_0 s0_1,Iy,CC,CC]) (id:=3) rfl oC (EN AA) (.same AA) rfl) (dn b0 AA (AG λK4 b2=>zr tb AA AA ?_))))));refine ci h0 AA ?_ ?_<;>clear h0<;>intro b6 h0
 ·refine sr AA λK7 b3=>?_;refine BF (m:=4) (l:=([]:List AE)) (enc:=Au) AI BU (by decide) rfl AA (by simp only[List.map,Ai];rfl) rfl AA AA ?_;refine AR (Wk.BL (L:=[(0,BJ),(4,CS),(14,Q0)]) (st':=[CT s0_0 s0_1,Iy,CC,CC,CC]) (id:=4) rfl nt (AD Ad) ⟨.rfl,.rfl,.BL AA,jf⟩ AA) (bs h0 λk b4 h0=>zc (v':=(Bc k)) (hb 114) (BV b4) rfl AA AA (Av (m:=5) AI DH AA AA (Am AI BE AA AA AA AA AA AA nj rfl (AR (Wk.BL (L:=[(0,BJ),(4,CS),(6,Da k)]) (st':=[CT s0_0 s0_1,Iy,CC,CC,CC,CC]) (id:=5) rfl oD (EN AA) (.same AA) rfl) (dn b3 AA (AG λK9 b5=>?_))))));refine AK (Dm (L:=[(0,BJ),(4,CS),(6,Da k)]) (st':=[CT s0_0 s0_1,Iy,Hq,Hq,Hq,Hq]) (.raw AA AA AA (.raw AA AA AA (.pure AA (by intro x a;cases a) (.pure AA (by intro x a;cases a) (.pure AA (by intro x a;cases a) (.pure AA (by intro x a;cases a) .nil)))))) (.same AA)) ?_;refine Bd [Iy,Hq,Hq,Hq,Hq] 8 (by kernel_rfl) (by kernel_rfl) (by kernel_rfl) (by rfl) (BM (Bc k) AI AA (λ_ _=>HT BE AA nj rfl) (BM BJ AI AA (λ_ _=>BT AA) (bs h0 λc D h0=>Gd (rows0:=[CT s0_0 s0_1]) (rows1:=[CT s0_0 c.2]) (v':=(i64 c.1)) (y0:=(CT s0_0 c.2)) [0] AI (hb 83) (Ay D) rfl (by decide) rfl AA (.raw AA AA .nil) rfl AA (λ_=>(.raw AA AA .nil)) (λ_=>AA) rfl (bs h0 λE F h0=>FQ AI (λB zz=>BW (v:=(Bc E)) AI (hb 115) (Dd F) rfl AA AA (Aw AA)) (BM (Bc k) AI AA (λ_ _=>HT BE AA nj rfl) ?_)))));refine FQ AI (λB zz=>F3 (l:=[k,E,k]) (enc:=Au) AI BU (by decide) rfl AA AA (by simp only[List.map,Ai];rfl) rfl (AD Ad) (Aw AA)) ?_;refine bs h0 λo G h0=>FQ AI (λB zz=>BW (v:=(Bc o)) AI (hb 114) (BV G) rfl AA AA (Aw AA)) (Yk DH AA (E0 AA (Am AI BE AA AA AA AA AA AA nj rfl (AR (Wk.BL (L:=[(0,BJ),(4,CS),(6,Da k),(7,Da o)]) (st':=[CT s0_0 c.2,Iy,Hq,Hq,Hq,Hq,CC]) (id:=6) rfl oH (EN AA) (.same AA) rfl) (dn b5 AA (AG λb9 H=>?_))))));refine AK (Dm (L:=[(0,BJ),(4,CS),(6,Da k),(7,Da o)]) (st':=[CT s0_0 c.2,Iy,Hq,Hq,Hq,Hq,Hq]) (.raw AA AA AA (.raw AA AA AA (.pure AA (by intro x a;cases a) (.pure AA (by intro x a;cases a) (.pure AA (by intro x a;cases a) (.pure AA (by intro x a;cases a) (.pure AA (by intro x a;cases a) .nil))))))) (.same AA)) ?_;refine Bd [Iy,Hq,Hq,Hq,Hq,Hq] 7 (by kernel_rfl) (by kernel_rfl) (by kernel_rfl) (by rfl) (BM (Bc o) AI AA (λ_ _=>HT BE AA nj rfl) (BM BJ AI AA (λ_ _=>BT AA) (bs h0 λq I h0=>Gd (rows0:=[CT s0_0 c.2]) (rows1:=[CT s0_0 q.2]) (v':=(i64 q.1)) (y0:=(CT s0_0 q.2)) [0] AI (hb 83) (Ay I) rfl (by decide) rfl AA (.raw AA AA .nil) rfl AA (λ_=>(.raw AA AA .nil)) (λ_=>AA) rfl (bs h0 λJ K h0=>FQ AI (λB zz=>BW (v:=(Bc J)) AI (hb 115) (Dd K) rfl AA AA (Aw AA)) (BM (Bc k) AI AA (λ_ _=>HT BE AA nj rfl) ?_)))));refine FQ AI (λB zz=>F3 (l:=[o,J,k]) (enc:=Au) AI BU (by decide) rfl AA AA (by simp only[List.map,Ai];rfl) rfl (AD Ad) (Aw AA)) ?_;refine bs h0 λd M h0=>FQ AI (λB zz=>BW (v:=(Bc d)) AI (hb 114) (BV M) rfl AA AA (Aw AA)) (E0 AA (Am AI BE AA AA AA AA AA AA nj rfl (dn H AA ?_)));obtain rfl:=Sh.AB h0;exact Aq (Exists.intro _ (And.intro ((AT (L:=[(4,CS)]) (st':=[CT s0_0 q.2,I0 d.op d.num d.kids]) [0,1] AA (by decide) rfl AA (.raw AA AA (.raw AA AA .nil)) ⟨.rfl,jf⟩).trans (Af (L:=[(4,CS)]) ⟨.rfl,jf⟩)) (Ar (x:=.tmp 4) (off:=0) (cs:=(FI d)) (vs:=(FI d)) BE AA AA AA nj rfl _ ⟨AA,AA⟩)))
 ·refine AL (b2 _ (sr AA λc0 O=>zq tb AA (Av (m:=4) AI DH AA AA (Am AI BE AA AA AA AA AA AA nj rfl (dn O AA (AG λb7 P=>sr AA λc1 Q=>zq tb AA (bs h0 λp R h0=>CM (rows0:=[CT s0_0 s0_1]) (rows1:=[CT s0_0 p.2]) (st':=[CT s0_0 p.2,Iy,CC,CC,I0 A.op A.num A.kids]) (v':=(i64 p.1)) [0] AI (hb 83) (Ay R) rfl (by decide) rfl AA (.raw AA AA .nil) rfl AA (.raw AA AA .nil) .nil AA AA (zm tb 2 AA (dn Q AA (bs h0 λC b h0=>?_))))))))));have b8:∀(t:Int) (e:Int) (f:Int) (g:(List AE)),C=(t,e,f,g)->∀s,Wk 1 s ⟨45,Aa [(4,CS),(8,CY)],[CT s0_0 t,Iy,I0 e f g]⟩->b7 s:=by
   intro t e f g hq s hw;subst C;try dsimp only at h0
   refine P _ (AK hw (sr AA λc2 S=>zq tb AA (Am AI BE AA AA AA AA AA AA nj rfl (dn S AA ?_))));obtain rfl:=Sh.AB h0;exact Aq (Exists.intro _ (And.intro ((AT (L:=[(4,CS)]) (st':=[CT s0_0 t,I0 e f g]) [0,1] AA (by decide) rfl AA (.raw AA AA (.raw AA AA .nil)) ⟨.rfl,jf⟩).trans (Af (L:=[(4,CS)]) ⟨.rfl,jf⟩)) (Ar (x:=.tmp 4) (off:=0) (cs:=(LA e f g)) (vs:=(LA e f g)) BE AA AA AA nj rfl _ ⟨AA,AA⟩)))
  refine AU (Ax (σ:=Int×Int×Int×Int×(List AE)) (λn v=>FY s0_0 n v.1 v.2.1 v.2.2.1 v.2.2.2.1 v.2.2.2.2=some C) (λ(n21,u,h,i,j)=>⟨45,Aa [(0,.ptr 0 0 0 0),(4,.ptr 1 0 0 0),(8,.ptr 2 0 0 0),(9,i64 n21)],[CT s0_0 u,Iy,I0 h i j]⟩) N (Sh.w (1+p.1),p.2,A.op,A.num,A.kids) b (AT [0,1,4] AA (by decide) rfl AA (.raw AA AA (.raw AA AA (.raw AA AA .nil))) (.same AA)) (λ_ hv=>by rw[FY]at hv;cases hv) ?_);rintro n ⟨n21,u,h,i,j⟩ b;try dsimp only at b⊢
  rw[FY]at b;refine AG λc3 T=>zr tb AA AA ?_;refine ci b AA ?_ ?_<;>clear b<;>intro c4 b
  ·refine AL (T _ (AG λc5 U=>AU (Bd [Iy,I0 h i j] 6 (by kernel_rfl) (by kernel_rfl) (by kernel_rfl) (by rfl) (BM BJ AI AA (λ_ _=>BT AA) (bs b λy V b=>Gd (rows0:=[CT s0_0 u]) (rows1:=[CT s0_0 y.2]) (v':=(i64 y.1)) (y0:=(CT s0_0 y.2)) [0] AI (hb 143) (Nl V) rfl (by decide) rfl AA (.raw AA AA .nil) rfl AA (λ_=>(.raw AA AA .nil)) (λ_=>AA) rfl (bs b λW X b=>FQ AI (λB zz=>BW (v:=(Bc W)) AI (hb 115) (Dd X) rfl AA AA (Aw AA)) (BM (DM h i j) AI AA (λ_ _=>Ar BE AA AA AA nj rfl) ?_)))))));refine FQ AI (λB zz=>F3 (l:=[W,AE.mk h i j]) (enc:=Au) AI BU (by decide) rfl AA AA (by simp only[List.map,Ai];rfl) rfl (AD Ad) (Aw AA)) ?_;exact bs b λz Y b=>FQ AI (λB zz=>BW (v:=(Bc z)) AI (hb 114) (BV Y) rfl AA AA (Aw AA)) (E0 AA (Am AI BE AA AA AA AA AA AA nj rfl (dn U AA (AH AA (zm tb 3 AA (AF (xi (Sh.w (n21-1),y.2,z.op,z.num,z.kids) b (AJ AA))))))))
  ·exact BD (b8 u h i j (Sh.AB b).symm _ (AJ AA))
theorem SN {N:Nat}{s0_0:(List Int)}{s0_1:Int}{s1:(List Ac)}{p1_0:(List AM)}{r:AE×Int}(h0:I5 N s0_0 s0_1 s1 p1_0=some r):Ab Tryz.prog 119 [BJ,HG p1_0 s1] (CR s0_0 s0_1 s1 []) (λv st=>v=(DM r.1.op r.1.num r.1.kids)/\st=(CR s0_0 r.2 s1 [])):=by
 unfold I5 at h0;refine Ab.wk (r0:=(DM r.1.op r.1.num r.1.kids)) (st0:=(CR s0_0 r.2 s1 [I0 r.1.op r.1.num r.1.kids])) (ai Tryz.func119 AA AA AA AA (sr AA λM z=>Bf (m:=2) AI AA AA AA AA AA (Av (m:=3) AI DH AA AA (dn z AA (sr AA λO A=>zq tb AA (BF (m:=4) (l:=[(1:Int),1,3]) (enc:=eI) AI BQ (by decide) rfl AA AA AA AA AA (AR (Wk.BL (L:=[(0,BJ),(3,CY),(4,HH),(7,BJ),(8,ls eI [(1:Int),1,3])]) (st':=(Ge s0_0 s0_1 s1 p1_0 [⟨1,3,1,[]⟩])) (id:=4) rfl nv (AD λ_=>AA) ⟨.rfl,.rfl,.rfl,.rfl,.BL AA,jf⟩ AA) (bs h0 λf B h0=>CM (rows0:=[CT s0_0 s0_1]) (rows1:=[CT s0_0 f.2]) (st':=(Ge s0_0 f.2 s1 p1_0 [⟨1,3,1,[]⟩])) (v':=(i64 f.1)) [0] AI (hb 70) (CE B) rfl (by decide) rfl AA (.raw AA AA .nil) rfl AA (.raw AA AA .nil) .nil AA AA (zq tb AA (dn A AA (sr AA λP C=>zm tb 3 AA (BF (m:=5) (l:=[f.1]) (enc:=eI) AI BQ (by decide) rfl AA AA AA AA AA (AR (Wk.BL (L:=[(0,BJ),(4,HH),(5,i64 f.1),(10,BJ),(11,HG p1_0 s1),(13,ls eI [f.1])]) (st':=(Ge s0_0 f.2 s1 p1_0 (Ch []))) (id:=5) rfl ny (AD λ_=>AA) ⟨.rfl,.rfl,.rfl,.rfl,.agg ⟨.rfl,.rfl,jf⟩,.BL AA,jf⟩ AA) (bs h0 λa D h0=>CM (rows0:=(CR s0_0 f.2 s1 [])) (rows1:=(CR s0_0 a.2 s1 [])) (st':=(Ge s0_0 a.2 s1 p1_0 (Ch []))) (v':=(DM a.1.op a.1.num a.1.kids)) [0,1] AI (hb 134) (Fq D) rfl (by decide) rfl AA (.raw AA AA (.pure (AD λ_=>AA) .nil)) rfl AA (.raw AA AA (.pure (AD λ_=>AA) .nil)) .nil AA AA (Av (m:=6) AI DH AA AA (Am AI BE AA AA AA AA AA AA nj rfl (dn C AA (AG λF E=>bs h0 λk g h0=>?_)))))))))))))))))) (Dc (L:=[(0,DM r.1.op r.1.num r.1.kids)]) (st':=(CR s0_0 r.2 s1 [])) [0,1] AA (by decide) rfl AA (.raw AA (.pure (AD λ_=>AA) jf)) (.same AA));have n:∀(y:Int) (i:Int) (j:Int) (c:(List AE)),k=(y,i,j,c)->∀s,Wk 2 s ⟨27,Aa [(0,BJ),(4,CY),(5,i64 f.1),(6,HH)],CR s0_0 y s1 [Iy,I0 i j c]⟩->F s:=by
  intro y i j c Q s G;subst k;try dsimp only at h0
  refine E _ (AK G (AG λH o=>Bd [Me s1,Iy,I0 i j c] 6 (by kernel_rfl) (by kernel_rfl) (by kernel_rfl) (by rfl) (BM BJ AI AA (λ_ _=>BT AA) (BM (i64 f.1) AI AA (λ_ _=>BT AA) (bs h0 λb p h0=>Gd (rows0:=[CT s0_0 y]) (rows1:=[CT s0_0 b.2]) (v':=(DM b.1.op b.1.num b.1.kids)) (y0:=(CT s0_0 b.2)) [0] AI (hb 135) (Sa p) rfl (by decide) rfl AA (.raw AA AA .nil) rfl AA (λ_=>(.raw AA AA .nil)) (λ_=>AA) rfl (BM (DM i j c) AI AA (λ_ _=>Ar BE AA AA AA nj rfl) ?_))))));refine FQ AI (λI zz=>F3 (l:=[b.1,AE.mk i j c]) (enc:=Au) AI BU (by decide) rfl AA AA (by simp only[List.map,Ai];rfl) rfl (AD Ad) (Aw AA)) ?_;refine bs h0 λd q h0=>FQ AI (λI zz=>BW (v:=(Bc d)) AI (hb 114) (BV q) rfl AA AA (Aw AA)) (E0 AA (Am AI BE AA AA AA AA AA AA nj rfl (dn o AA ?_)));obtain rfl:=Sh.AB h0;exact Aq (Exists.intro _ (And.intro ((AT (L:=[(4,CY)]) (st':=(CR s0_0 b.2 s1 [I0 d.op d.num d.kids])) [0,1,2] AA (by decide) rfl AA (.raw AA AA (.pure (AD λ_=>AA) (.raw AA AA .nil))) ⟨.rfl,jf⟩).trans (Af (L:=[(4,CY)]) ⟨.rfl,jf⟩)) (Ar (x:=.tmp 4) (off:=0) (cs:=(FI d)) (vs:=(FI d)) BE AA AA AA nj rfl _ ⟨AA,AA⟩)))
 refine sr AA λJ t=>zq tb AA (bs g λe u g=>CM (rows0:=[CT s0_0 a.2]) (rows1:=[CT s0_0 e.2]) (st':=(Ge s0_0 e.2 s1 p1_0 (Ch [I0 a.1.op a.1.num a.1.kids]))) (v':=(i64 e.1)) [0] AI (hb 83) (Ay u) rfl (by decide) rfl AA (.raw AA AA .nil) rfl AA (.raw AA AA .nil) .nil AA AA (zq tb AA (dn t AA ?_)));refine ci g AA ?_ ?_<;>clear g<;>intro K g
 ·refine AH AA (zq tb AA ?_);refine BF (m:=7) (l:=[a.1]) (enc:=Au) AI BU (by decide) rfl AA (by simp only[List.map,Ai];rfl) rfl AA AA ?_;exact AR (Wk.BL (L:=[(0,BJ),(4,HH),(5,i64 f.1),(6,.ptr 6 0 0 0),(19,ls Au [a.1])]) (st':=(Ge s0_0 e.2 s1 p1_0 (Ch [I0 a.1.op a.1.num a.1.kids,CC]))) (id:=7) rfl (show 2<=7 by decide) (AD Ad) ⟨.rfl,.rfl,.rfl,.rfl,.BL AA,jf⟩ AA) (bs g λh w g=>zc (v':=(Bc h)) (hb 114) (BV w) rfl AA AA (Am AI BE AA AA AA AA AA AA nj rfl (AF (n e.2 h.op h.num h.kids (Sh.AB g).symm _ (AT [0,1,3,6] AA (by decide) rfl AA (.raw AA AA (.pure (AD λ_=>AA) (.raw AA AA (.raw AA AA .nil)))) (.same AA))))))
 ·exact AL (n e.2 a.1.op a.1.num a.1.kids (Sh.AB g).symm _ (AT [0,1,3,6] AA (by decide) rfl AA (.raw AA AA (.pure (AD λ_=>AA) (.raw AA AA (.raw AA AA .nil)))) (.same AA)))
end Go.Proofs.YtihdgoiebmfapaaGreat
