import Derived.Test.YtihdgoiebmfapaaGreatGAbsZRToAbsZS
import Derived.Test.YtihdgoiebmfapaaGreatCFWalk
import Derived.Test.YtihdgoiebmfapaaGreatLAWalk
set_option linter.all false
namespace Go.Proofs.YtihdgoiebmfapaaGreat
noncomputable section
open Go Go.Abs RC
attribute [local irreducible] Go.Abs.EN
set_option maxRecDepth 100000
theorem Ip:([11,12,17,18,19,20,21,22,23,24,25,26,27,29,31,32,33,34,39,40,41,42,43,44,45,46,47,48,49,50,51,52,53,54,55,56,57,58,59,60,61,62,63,65,66,67,69,70,72,73,74,75,76,77,78,79,80,81,82,83,84,85,86,87,88,89,90,91,92,93,94,95,96,97,98,99,100,101,102,103,104,106,108,109,110,111,112,113,114,115,116,117,118,119,120,121,122,123,126,127,128,130,131,132,133,134,135,136,137,138,139,140,141,142,143,144,145,146,147].all λn=>Cp Tryz.prog n)=true:=by kernel_rfl
theorem hb (n:Nat)(h:[11,12,17,18,19,20,21,22,23,24,25,26,27,29,31,32,33,34,39,40,41,42,43,44,45,46,47,48,49,50,51,52,53,54,55,56,57,58,59,60,61,62,63,65,66,67,69,70,72,73,74,75,76,77,78,79,80,81,82,83,84,85,86,87,88,89,90,91,92,93,94,95,96,97,98,99,100,101,102,103,104,106,108,109,110,111,112,113,114,115,116,117,118,119,120,121,122,123,126,127,128,130,131,132,133,134,135,136,137,138,139,140,141,142,143,144,145,146,147].contains n=true:=by decide):Cp Tryz.prog n=true:=pH.1 Ip n (List.contains_iff_mem.1 h)
abbrev FN (z0:List Int)(z1:Int):Go.Abs.Row:=⟨0,72,2,[[ls FQ z0,i64 z1]]⟩
abbrev Kl:Go.Abs.Row:=⟨0,35,3,[[i64 0,i64 0,.zc]]⟩
abbrev GN (z0 z1:Int)(z2:List AD):Go.Abs.Row:=⟨0,35,3,[[i64 z0,i64 z1,ls Ar z2]]⟩
abbrev QX:Go.Abs.Row:=⟨0,26,2,[[.zc,.zc]]⟩
abbrev mQ (z0:List AL):Go.Abs.Row:=⟨0,26,2,[[ls Ai z0,.zc]]⟩
abbrev FM (z0:List Int)(z1:Int):Go.Abs.Row:=⟨0,72,2,[[ls FQ z0,i64 z1]]⟩
abbrev J8:Go.Abs.Row:=⟨0,26,2,[[.zc,.zc]]⟩
abbrev bj (z0:List AL)(z1:List AU):Go.Abs.Row:=⟨0,26,2,[[ls Ai z0,ls BT z1]]⟩
abbrev mO (z0 z1:Int)(z2:List AD):Go.Abs.Row:=⟨0,35,3,[[i64 z0,i64 z1,ls Ar z2]]⟩
abbrev VW (z0:Int):Go.Abs.Row:=⟨0,3,1,[[i64 z0]]⟩
abbrev gX:Go.Abs.Row:=⟨0,80,3,[[i64 0,i64 0,.zc]]⟩
abbrev eo:Go.Abs.Row:=⟨0,99,2,[[.zc,.zc]]⟩
abbrev HM (z0:List AL)(z1:List AU):Go.Abs.Row:=⟨0,26,2,[[ls Ai z0,ls BT z1]]⟩
abbrev Pd (z0 z1:Int)(z2:List AD):Go.Abs.Row:=⟨0,35,3,[[i64 z0,i64 z1,ls Ar z2]]⟩
abbrev Hm:Go.Abs.Row:=⟨0,35,3,[[i64 0,i64 0,.zc]]⟩
abbrev I2 (z0:Int):Go.Abs.Row:=⟨0,3,1,[[i64 z0]]⟩
abbrev VS:Go.Abs.Row:=⟨0,26,2,[[.zc,.zc]]⟩
abbrev Cy (z0:List AL)(z1:List AU):Go.Abs.Row:=⟨0,26,2,[[ls Ai z0,ls BT z1]]⟩
abbrev DA (z0:Int):Go.Abs.Row:=⟨0,3,1,[[i64 z0]]⟩
abbrev Mo (z0 z1:Int)(z2:List AD):Go.Abs.Row:=⟨0,35,3,[[i64 z0,i64 z1,ls Ar z2]]⟩
abbrev JV:Go.Abs.Row:=⟨0,26,2,[[.zc,.zc]]⟩
abbrev jH:Go.Abs.Row:=⟨0,35,3,[[i64 0,i64 0,.zc]]⟩
abbrev nk (z0:List Int)(z1 z2 z3:Int)(z4:List AD):Go.Abs.Row:=⟨0,37,5,[[ls eI z0,i64 z1,i64 z2,i64 z3,ls Ar z4]]⟩
abbrev ao (z0:List AL)(z1:List AU):Go.Abs.Row:=⟨0,26,2,[[ls Ai z0,ls BT z1]]⟩
abbrev Lh (z0:AD):=([i64 z0.op,i64 z0.num,ls Ar z0.kids]:List AV)
abbrev XD (z0:AU):=([ls eI z0.params,i64 z0.result,i64 z0.body.op,i64 z0.body.num,ls Ar z0.body.kids]:List AV)
abbrev eW z0{α1:Type}(z1:List α1):=(⟨0,26,2,[[ls Ai z0,ow 1 0 z1]]⟩:Row)
abbrev BG:=((.ptr 0 0 0 0):AV)
abbrev MK z0:=((ro 0 37 5 BT z0):Row)
abbrev DV (z0 z1 z2:_):=((.agg [i64 z0,i64 z1,ls Ar z2]):AV)
abbrev CY:=((.ptr 2 0 0 0):AV)
abbrev CJ:=((.ptr 1 0 0 0):AV)
abbrev nY (z0:AJ):=([ls Ai z0.decls,ls BT z0.funcs]:List AV)
abbrev D0:=(⟨1,35,3,[]⟩:Row)
abbrev BX z0:=((ro 0 3 1 eI z0):Row)
abbrev Bc z0:=((.agg (Lh z0)):AV)
abbrev IH:=((.ptr 3 0 0 0):AV)
abbrev H2 z0{α1:Type}(z1:List α1):=((.agg [ls Ai z0,ow 1 0 z1]):AV)
abbrev HD (z0:AD):=((ro 0 35 3 (Bv 35) z0.kids):Row)
abbrev Gi z0:=((ro 0 35 3 (Bv 35) z0):Row)
abbrev MY z0:=(⟨0,99,2,[Gy z0]⟩:Row)
abbrev G7 z0:=((ro 0 35 3 Ar z0):Row)
abbrev QO (z0:AD):=([i64 z0.op,i64 z0.num,ow 3 0 z0.kids]:List AV)
abbrev Tw (z0:AU):=((.agg [i64 z0.body.op,i64 z0.body.num,ls Ar z0.body.kids]):AV)
abbrev D4 z0:=((ls Ai z0):AV)
abbrev EP z0:=((.C8 (Lh z0) 0):AV)
abbrev ia (z0 z1:_):=((.C8 [i64 0,i64 0,ls CM [z0,z1]] 0):AV)
abbrev dc:=([.sl (List.map Ai []),.sl (List.map BT [])]:List AV)
abbrev HC {α0:Type}(z0:List α0):=((i64 (Sh.len z0)):AV)
abbrev OP:=(⟨1,80,3,[]⟩:Row)
abbrev Rt z0:=([⟨0,62,1,[[ow 1 0 z0]]⟩,ro 0 4 1 eB z0]:List Row)
abbrev iV (z0 z1:_)(z2:AU):=(⟨0,37,5,hole z0 (ER 3 35) z1 [ow 6 0 z2.params,i64 z2.result,i64 z2.body.op,i64 z2.body.num,ow 7 0 z2.body.kids]⟩:Row)
abbrev Ic:=(⟨0,35,3,[]⟩:Row)
abbrev PA z0:=((ro 0 37 5 (ER 3 35) z0):Row)
abbrev JH z0:=((ro 0 80 3 Ai z0):Row)
abbrev Hd z0:=((ls Ar z0):AV)
abbrev Q7 z0:=((ro 0 80 3 (Bu 82 3) z0):Row)
abbrev LB z0:=((.ptr 1 0 (Int.toNat z0) 0):AV)
abbrev gW {α0:Type}(z0:List α0){α1:Type}(z1:List α1):=(⟨0,26,2,[[ow 2 0 z0,ow 3 0 z1]]⟩:Row)
abbrev dI z0:=([⟨0,62,1,[[.own 1 0 (List.length z0)]]⟩,⟨0,4,1,List.map eB z0⟩]:List Row)
abbrev Kp z0:=((.agg (Gy z0)):AV)
abbrev Mq:=(⟨1,82,1,[]⟩:Row)
abbrev VR (z0:AD):=([i64 z0.op,i64 z0.num,ow 0 0 z0.kids]:List AV)
abbrev TS (z0 z1:_){α2:Type}(z2:List α2):=(⟨0,35,3,[[i64 z0,i64 z1,ow 0 0 z2]]⟩:Row)
abbrev Ix:=((.ptr 4 0 0 0):AV)
abbrev Wb (z0:AD):=([i64 z0.op,i64 z0.num,ow 5 0 z0.kids]:List AV)
abbrev WW (z0:AD) z1{α2:Type}(z2:List α2):=(⟨0,35,3,[[i64 z0.op,i64 z1,ow 1 0 z2]]⟩:Row)
abbrev Ga z0:=((.agg (XD z0)):AV)
abbrev Kr z0:=((i64 (Sh.w (z0+1))):AV)
abbrev Ts (z0 z1 z2:_):=([i64 z0,i64 z1,Hd z2]:List AV)
abbrev Nt (z0 z1 z2 z3 z4 z5:_):=((ro 0 37 5 BT [z0,z1,z2,z3,z4,z5]):Row)
abbrev Yu:=((.own 0 0 (List.length ([]:List Int))):AV)
abbrev Sc (z0 z1:_):=([D4 z0,ls BT z1]:List AV)
abbrev Rw:=((.sl (List.map eI [])):AV)
abbrev cP:=((.sl (List.map CM [])):AV)
abbrev J7 z0:=((.agg (CM z0)):AV)
abbrev KT z0:=((.agg (nY z0)):AV)
abbrev VU:=(⟨1,37,5,[]⟩:Row)
abbrev eM:=((.sl (List.map Ar [])):AV)
abbrev Y5 (z0:AU):=((ro 0 35 3 (Bv 35) z0.body.kids):Row)
abbrev bO:=([.sl (List.map Ai []),.zc]:List AV)
abbrev Yi (z0 z1:_):=((.DF [.agg (Ai z0),.bool z1]):AV)
abbrev dW (z0:AD):=([i64 z0.op,i64 z0.num,ow 4 0 z0.kids]:List AV)
abbrev aP (z0:AD):=((i64 (Sh.len z0.kids)):AV)
abbrev UY:=([⟨1,3,1,[]⟩]:List Row)
abbrev Yq z0{α1:Type}(z1:List α1)(z2 z3 z4:_):=([BG,H2 z0 z1,ls eI z2,i64 z3,i64 z4]:List AV)
abbrev eL (z0:AJ):=((ls BT z0.funcs):AV)
abbrev TD z0:=((ro 0 35 3 Ar [z0]):Row)
abbrev XW z0:=(⟨0,80,3,[Ai z0]⟩:Row)
abbrev WB (z0 z1:_){α2:Type}(z2:List α2):=([i64 z0,i64 z1,ow 3 0 z2]:List AV)
abbrev Rr z0:=((.C8 (BT z0) 0):AV)
abbrev iG (z0:AD) z1:=([i64 z0.op,i64 z0.num,Hd z1]:List AV)
abbrev nO (z0:AU):=([ow 7 0 z0.params,i64 z0.result,i64 z0.body.op,i64 z0.body.num,ow 6 0 z0.body.kids]:List AV)
abbrev oD:=([.own 2 0 (List.length ([]:List AL)),.own 3 0 (List.length ([]:List AU))]:List AV)
abbrev Z8 (z0:AD):=((ls Ar z0.kids):AV)
abbrev T9 z0:=((.C8 (Ai z0) 0):AV)
abbrev Sf:=((.ptr 5 0 0 0):AV)
abbrev dV z0{α1:Type}(z1:List α1):=(⟨0,26,2,[[D4 z0,ow 1 1 z1]]⟩:Row)
abbrev YW (z0 z1 z2:_):=([KT z0,ls eI z1,Bc z2]:List AV)
abbrev gh (z0 z1 z2 z3:_):=([J8,FM z0 z1,VU,bj z2 z3,⟨1,3,1,[]⟩]:List Row)
abbrev gp (z0 z1 z2:_):=(⟨0,35,3,hole z0 (Bv 35) z1 (QO z2)⟩:Row)
abbrev kb:=((ro 0 80 3 (Bu 82 3) ([]:List AL)):Row)
abbrev gY z0{α1:Type}(z1:List α1):=(⟨0,26,2,[[D4 z0,ow 2 0 z1]]⟩:Row)
abbrev ld (z0 z1 z2:_){α3:Type}(z3:List α3) z4:=([D4 z0,.agg [i64 z1,i64 z2,ow 0 0 z3],i64 z4,.fn 42 [CJ,CY]]:List AV)
abbrev kU z0:=((.agg [i64 0,i64 0,ls CM [z0]]):AV)
abbrev iF:=([i64 0,i64 0,cP]:List AV)
abbrev dL z0:=((.ptr 4 0 (Int.toNat z0) 0):AV)
abbrev je z0:=((ls (eS eI) z0):AV)
abbrev Ta z0:=((ro 0 3 1 eI [z0]):Row)
abbrev Yn (z0:AL):=((i64 (Sh.len z0.cons)):AV)
abbrev nM (z0:AU):=((.agg [i64 z0.body.op,i64 z0.body.num,ow 7 0 z0.body.kids]):AV)
abbrev jm:=((.agg [i64 1,i64 0,.zc]):AV)
abbrev jM {α0:Type}(z0:List α0){α1:Type}(z1:List α1):=(⟨0,26,2,[[ow 1 0 z0,ow 3 0 z1]]⟩:Row)
abbrev UB z0:=((.C8 (eI z0) 0):AV)
abbrev gO:=([i64 0,i64 0,.zc]:List AV)
abbrev iA:=(⟨0,26,2,[dc]⟩:Row)
abbrev cr z0:=((ro 1 37 5 BT z0):Row)
abbrev aC (z0 z1 z2:_):=([Bc z0,i64 z1,i64 z2]:List AV)
abbrev iX (z0 z1 z2:_):=((.DF [.agg (Sc z0 z1),.bool z2]):AV)
abbrev kX (z0 z1:_):=([VS,gW z0 z1,Q7 z0,PA z1]:List Row)
abbrev mZ:=((ro 0 37 5 (ER 3 35) ([]:List AU)):Row)
abbrev kx:=((.agg [i64 0,i64 1,.zc]):AV)
abbrev kZ (z0:AD) z1{α2:Type}(z2:List α2):=(⟨0,35,3,[[i64 z0.op,i64 z1,ow 2 0 z2]]⟩:Row)
abbrev mu:=((.own 7 0 (List.length ([]:List AL))):AV)
abbrev lS (z0 z1:_):=((.agg [i64 0,i64 0,ls CM [z0,z1]]):AV)
abbrev cK:=((.ptr 2 0 0 1):AV)
abbrev nD:=((ls eI [(1:Int),2,3,1,3,0,-1,4]):AV)
abbrev iS:=(⟨0,80,3,[]⟩:Row)
abbrev ZF z0:=((.C8 (Lh z0) 1):AV)
abbrev gu:=(⟨0,37,5,[]⟩:Row)
abbrev mz (z0 z1:_):=([ls eI z0,i64 z1,i64 0,i64 0,eM]:List AV)
abbrev cL z0:=((ls Cv z0):AV)
abbrev gT z0:=((.C8 (XD z0) 0):AV)
abbrev jP z0:=((.C8 (nY z0) 0):AV)
abbrev jI:=((ls eI [(0:Int)]):AV)
set_option maxHeartbeats 4000000
abbrev Bd (f:FuncId)(a:List AV)(r:List Go.Abs.Row)(v:AV)(s:List Go.Abs.Row):Prop:=BJ Tryz.prog f a r λx y=>x=v/\y=s
def tb:LP Tryz.prog where
 t:=[(22,false,1),(23,false,1),(24,false,1),(26,true,2),(3,false,1),(32,false,1),(33,false,1),(35,true,3),(37,true,5),(4,false,1),(5,false,1),(62,false,1),(78,false,1),(80,true,3),(82,true,1),(93,false,1),(95,true,3),(99,true,2)]
 f:=[(26,0,0),(26,1,1),(35,0,0),(35,1,1),(35,2,2),(37,0,0),(37,1,1),(37,2,2),(72,0,0),(72,1,1),(80,0,0),(80,1,1),(80,2,2),(82,0,0),(95,0,0),(95,1,1),(95,2,2),(99,0,0),(99,1,1)]
 v:=[]
 b:=[4]
 s:=[119,22,23,24,32,33,62,78,93]
 ht:=by kernel_rfl
 hf:=by kernel_rfl
 hv:=by kernel_rfl
 hb:=by kernel_rfl
 hs:=by kernel_rfl
section
variable {k n : Nat} {ops : Array Oper} {Q : Exit -> St -> Prop} {st : List Row} {e e' : Nat -> AV} {ds ds' : List (Option Tmp)} {t : Tmp} {op : Op} {ty : TypeId} {ps : String} {ed : Array Edge} {v : AV} {r l l' : List Oper} {jj id : Nat} {b want : Bool} {x : Operand} {t' : TypeId} {α : Type} {enc : α -> List AV} {xs : List α} {y : Code}
theorem AS (h:qL tb ⟨n,e,st⟩ op=some v)(hk:AO Tryz.prog k ops Q (ds++[some t]) r ⟨n,DQ e t v,st⟩):AO Tryz.prog k ops Q ds (⟨some t,op,ty,ps,ed,none⟩::r) ⟨n,e,st⟩:=zq tb h hk
theorem Aw (hb:b=want)(h:gL tb ds jj ⟨n,e,st⟩ op=some (b,v))(hk:AO Tryz.prog k ops Q (ds++[some t]) r ⟨n,DQ e t v,st⟩):AO Tryz.prog k ops Q ds (⟨some t,op,ty,ps,ed,some (jj,want)⟩::r) ⟨n,e,st⟩:=zg tb hb h hk
theorem Ac (m:Nat)(h:Go.Abs.runN tb n st m l ds e=some (l',ds',e'))(hk:AO Tryz.prog k ops Q ds' l' ⟨n,e',st⟩):AO Tryz.prog k ops Q ds l ⟨n,e,st⟩:=zm tb m h hk
theorem Ap (h:(Go.Abs.Zf tb n st ops.toList e,ops.toList.all λo=>Cx n o.dst)=(some e',true))(hk:AW Tryz.prog k y Q ⟨n,e',st⟩):AW Tryz.prog k (.seq (.region id ops false) y) Q ⟨n,e,st⟩:=zr tb (qY Prod.fst h) (qY Prod.snd h) hk
theorem CZ (h:(has tb.s t',St.ev ⟨n,e,st⟩ x)=(true,.sl (xs.map enc)))(hk:AO Tryz.prog k ops Q (ds++[some t]) r ⟨n,DQ e t (i64 (Sh.len xs)),st⟩):AO Tryz.prog k ops Q ds (⟨some t,.call ⟨.builtin .len,#[x],#[t']⟩,ty,ps,ed,none⟩::r) ⟨n,e,st⟩:=zl tb (qY Prod.fst h) (qY Prod.snd h) hk
end
abbrev FB (z0:List Int)(z1:Int):Go.Abs.Row:=⟨0,72,2,[[ls FQ z0,i64 z1]]⟩
abbrev Jj:Go.Abs.Row:=⟨0,35,3,[[i64 0,i64 0,.zc]]⟩
abbrev Jl (z0 z1:Int)(z2:List AD):Go.Abs.Row:=⟨0,35,3,[[i64 z0,i64 z1,ls Ar z2]]⟩
abbrev Yd (z0:List AL)(z1:List AU):Go.Abs.Row:=⟨0,26,2,[[ls Ai z0,ls BT z1]]⟩
abbrev Ck (r:List (Go.Abs.Row)):=⟨1,3,1,[]⟩::⟨1,3,1,[]⟩::r
abbrev OS (r:List (Go.Abs.Row)):=⟨0,3,1,[]⟩::⟨0,3,1,[]⟩::⟨0,3,1,[]⟩::r
abbrev Gx (z0:List Int)(z1:Int)(z2 z3:_)(r:List (Go.Abs.Row)):=(FN z0 z1)::(MK z2)::(eW z3 z2)::Kl::r
abbrev Rz (z0 z1 z2:_)(r:List (Nat×AV)):=(0,BG)::(2,ls eI z0)::(3,i64 z1)::(4,i64 z2)::(6,CY)::(10,IH)::r
abbrev HJ (z0:List Int)(z1:Int)(z2 z3:_)(r:List (Go.Abs.Row)):=(FB z0 z1)::(MK z2)::(eW z3 z2)::Jj::r
abbrev PU (z0 z1:_)(r:List (Nat×AV)):=(0,BG)::(2,i64 z0)::(3,i64 z1)::(5,CY)::(8,IH)::r
abbrev NK z0(r:List (Nat×AV)):=(0,BG)::(2,i64 z0)::(4,CY)::(6,IH)::r
abbrev bQ (z0 z1:_)(z2:AD) z3(r:List (Nat×AV)):=(1,i64 z0)::(2,i64 z1)::(3,BG)::(6,CY)::(27,Z8 z2)::(28,aP z2)::(29,i64 z3)::r
abbrev Rg (z0 z1:_)(r:List (Nat×AV)):=(13,Hd z0)::(14,HC z0)::(15,i64 z1)::r
abbrev Ry (z0 z1:_)(r:List (Nat×AV)):=(1,ls eI z0)::(3,je z1)::(4,BG)::r
abbrev gN z0(z1:AD)(r:List (Nat×AV)):=(1,ls eI z0)::(3,BG)::(5,CJ)::(7,.bool (decide (z1.num=0)))::(15,i64 z1.op)::r
abbrev Dz (z0:List Int)(z1:Int) z2(r:List (Go.Abs.Row)):=(FB z0 z1)::(MK z2)::r
abbrev PS (r:List (Nat×AV)):=(0,BG)::(2,CJ)::(3,IH)::r
abbrev Y7 (z0:AD)(r:List (Nat×AV)):=(4,CJ)::(65,i64 z0.op)::(67,i64 z0.num)::r
abbrev aH (z0 z1:_)(r:List (Nat×AV)):=(0,D4 z0)::(2,i64 z1)::(3,.fn 42 [CJ,CY])::r
abbrev O7 (z0 z1:_)(r:List (Nat×AV)):=(2,i64 z0)::(3,ls eI z1)::r
abbrev VF (z0:AJ)(r:List (Nat×AV)):=(2,BG)::(3,CJ)::(11,eL z0)::r
abbrev jQ (z0 z1:_)(r:List (Nat×AV)):=(1,.fn 42 [BG,CJ])::(2,jP z0)::(4,CY)::(6,IH)::(7,i64 z1)::r
abbrev KL (z0 z1:_)(r:List (Go.Abs.Row)):=(MK z0)::(eW z1 z0)::r
abbrev eu z0{α1:Type}(z1:List α1) z2(r:List (Nat×AV)):=(1,i64 z0)::(2,BG)::(5,ow 1 0 z1)::(6,i64 z2)::r
abbrev ju {α0:Type}(z0:List α0)(z1 z2:_)(r:List (Nat×AV)):=(3,ow 1 0 z0)::(63,ow 1 0 z0)::(64,i64 z1)::(66,i64 z2)::r
abbrev dF (z0 z1:_)(z2:AD)(r:List (Go.Abs.Row)):=(BX z0)::(MY z1)::(Pd z2.op z2.num z2.kids)::r
abbrev LD (z0:List Int)(z1:Int) z2(r:List (Go.Abs.Row)):=(FN z0 z1)::(MK z2)::r
abbrev Rp (z0:List Int)(z1:Int)(z2:List AL)(r:List (Go.Abs.Row)):=(FN z0 z1)::QX::OP::(mQ z2)::r
abbrev Ui {α0:Type}(z0:List α0) z1(r:List (Nat×AV)):=(13,HC z0)::(14,i64 z1)::r
abbrev eT (z0 z1:_){α2:Type}(z2:List α2)(r:List (Nat×AV)):=(0,ls eI z0)::(1,i64 z1)::(5,ow 0 0 z2)::r
abbrev bP (z0:List Int)(z1:Int) z2(r:List (Go.Abs.Row)):=(FM z0 z1)::(JH z2)::⟨1,3,1,[]⟩::r
abbrev Nd (z0:Int)(z1:List AL)(z2:List AU)(r:List (Go.Abs.Row)):=(I2 z0)::(HM z1 z2)::D0::r
abbrev ax (z0 z1 z2 z3:_)(r:List (Nat×AV)):=(0,BG)::(3,ia z0 z1)::(4,ia z2 z3)::r
abbrev ct (r:List (Go.Abs.Row)):=Mq::OP::⟨1,3,1,[]⟩::r
abbrev bg (z0 z1:_)(r:List (Go.Abs.Row)):=VS::(gW z0 z1)::(Q7 z0)::(PA z1)::r
abbrev dr (r:List (Nat×AV)):=(4,BG)::(5,.bool false)::r
abbrev iz (z0 z1:_)(r:List (Nat×AV)):=(1,i64 z0)::(2,i64 z1)::(3,BG)::(6,CJ)::r
abbrev Pq (z0:List Int)(z1:Int) z2(r:List (Go.Abs.Row)):=(FN z0 z1)::Kl::(G7 z2)::r
abbrev mh (z0:AJ)(r:List (Go.Abs.Row)):=(ro 0 80 3 (Bu 82 3) z0.decls)::(ro 0 37 5 (ER 3 35) z0.funcs)::r
abbrev mD (z0 z1:_)(r:List (Nat×AV)):=(0,BG)::(3,CY)::(4,IH)::(5,i64 z0)::(6,gT z1)::r
abbrev fK (z0:AD)(r:List (Go.Abs.Row)):=(Mo z0.op z0.num z0.kids)::jH::r
abbrev jh {α0:Type}(z0:List α0){α1:Type}(z1:List α1) z2(r:List (Nat×AV)):=(11,ow 4 0 z0)::(12,ow 5 0 z1)::(13,i64 z2)::r
abbrev gR z0(z1:AD)(r:List (Go.Abs.Row)):=(MY z0)::(mO z1.op z1.num z1.kids)::r
abbrev lp {α0:Type}(z0:List α0) z1(r:List (Nat×AV)):=(3,ow 1 0 z0)::(27,ow 1 0 z0)::(28,i64 z1)::r
abbrev dH {α0:Type}(z0:List α0)(r:List (Nat×AV)):=(2,BG)::(5,ow 1 0 z0)::r
theorem R7:I5 Tryz.prog 35=true:=by kernel_rfl
theorem V0:I5 Tryz.prog 37=true:=by kernel_rfl
theorem oO:I5 Tryz.prog 72=true:=by kernel_rfl
theorem Mk:I5 Tryz.prog 80=true:=by kernel_rfl
theorem jf:I5 Tryz.prog 82=true:=by kernel_rfl
theorem R8:Ke Tryz.prog 35=some [(0,1),(1,1),(2,1)]:=by kernel_rfl
theorem Vm:Ke Tryz.prog 37=some [(0,1),(1,1),(2,3)]:=by kernel_rfl
theorem oI:Ke Tryz.prog 72=some [(0,1),(1,1)]:=by kernel_rfl
theorem Ml:Ke Tryz.prog 80=some [(0,1),(1,1),(2,1)]:=by kernel_rfl
theorem jD:Ke Tryz.prog 82=some [(0,1)]:=by kernel_rfl
theorem eV:fI Tryz.prog 5 3=some .i64:=by kernel_rfl
theorem fr:DB Tryz.prog 22=some ⟨5,1,1,[.int .u8 0]⟩:=by kernel_rfl
theorem DK:DB Tryz.prog 23=some ⟨80,3,40,[.int .i64 0,.int .i64 0,.sl []]⟩:=by kernel_rfl
theorem Cd:DB Tryz.prog 24=some ⟨37,5,72,[.sl [],.int .i64 0,.int .i64 0,.int .i64 0,.sl []]⟩:=by kernel_rfl
theorem BF:DB Tryz.prog 32=some ⟨3,1,8,[.int .i64 0]⟩:=by kernel_rfl
theorem BZ:DB Tryz.prog 33=some ⟨35,3,40,[.int .i64 0,.int .i64 0,.sl []]⟩:=by kernel_rfl
theorem Je:DB Tryz.prog 78=some ⟨82,1,24,[.sl []]⟩:=by kernel_rfl
theorem Wr:IJ Tryz.prog 26 0=some 0:=by kernel_rfl
theorem Kh:IJ Tryz.prog 26 1=some 1:=by kernel_rfl
theorem Th:IJ Tryz.prog 37 0=some 0:=by kernel_rfl
theorem lq:IJ Tryz.prog 80 0=some 0:=by kernel_rfl
theorem oC:DH Tryz.prog 22=true:=by kernel_rfl
theorem Gc:DH Tryz.prog 32=true:=by kernel_rfl
theorem Qa:DH Tryz.prog 78=true:=by kernel_rfl
theorem dJ:Dd Tryz.prog 23=some (false,1):=by kernel_rfl
theorem Pt:Dd Tryz.prog 24=some (false,1):=by kernel_rfl
theorem D5:Dd Tryz.prog 26=some (true,2):=by kernel_rfl
theorem Hy:Dd Tryz.prog 3=some (false,1):=by kernel_rfl
theorem LS:Dd Tryz.prog 32=some (false,1):=by kernel_rfl
theorem BI:Dd Tryz.prog 35=some (true,3):=by kernel_rfl
theorem Lj:Dd Tryz.prog 37=some (true,5):=by kernel_rfl
theorem KM:Dd Tryz.prog 80=some (true,3):=by kernel_rfl
theorem P3:Dd Tryz.prog 82=some (true,1):=by kernel_rfl
theorem De:II Tryz.prog 35=some [.int .i64 0,.int .i64 0,.zc]:=by kernel_rfl
theorem MM:II Tryz.prog 37=some [.zc,.int .i64 0,.int .i64 0,.int .i64 0,.zc]:=by kernel_rfl
theorem nj:II Tryz.prog 72=some [.zc,.int .i64 0]:=by kernel_rfl
theorem HW:II Tryz.prog 80=some [.int .i64 0,.int .i64 0,.zc]:=by kernel_rfl
theorem R3:II Tryz.prog 82=some [.zc]:=by kernel_rfl
theorem Sb {p0:List Int}{r:(List Int)×Int}(h0:JJ p0=some r):Bd 26 [ls FQ p0] [] BG [FB r.1 r.2]:=by
 unfold JJ at h0;refine ai Tryz.func26 AA AA AA AA (Ap AA (AE λk c=>bs h0 λg b h0=>?_));have h:∀a,g=a->∀s,Wk 0 s ⟨11,AP [(0,ls FQ a)],[]⟩->k s:=by
  intro a o s l;subst g;refine c _ (AG l (sr AA λp d=>AS AA (zz (.agg [ls FQ a,i64 0]) (DM oO oI nj AA AA) rfl (Ef 0 AA (AS AA (dn d AA ?_))))));cases h0;exact rt [(2,BG)]
 refine sr AA λq e=>AS AA (CZ AA (AS AA (dn e AA ?_)));refine ci b AA ?_ ?_<;>intro t b
 .exact AF AA (AS AA (bs b λn f b=>Tl (i:=0) (j:=2000) AN fr AA AA AA (λ_=>AA) f (AS AA (AB (h n (AT b) _ Ao)))))
 .exact AH (h p0 (AT b) _ Ao)
theorem EC {p0:List Int}{r:D6}(h0:Fj p0=some r):Bd 117 [ls eI p0] [] (J7 r) []:=by
 unfold Fj at h0;refine Cj AA (ai Tryz.func117 AA AA AA AA (sr AA λc a=>DE 0 R3 AA (dn a AA (sr AA λd b=>AS AA (zz (.agg [ls eI p0]) (DM jf jD R3 AA AA) rfl (Bw P3 AA (dn b AA ?_)))))));cases h0;exact An ⟨_,Wk.refl _ _,FX (.tmp 2) [ls eI p0] P3 AA _ AA⟩
theorem Ay {tm:List Int}{tu p1:Int}{r:Int×Int}(h0:Az tm tu p1=some r):Bd 83 [BG,i64 p1] [FB tm tu] (i64 r.1) [FB tm r.2]:=by
 unfold Az at h0;refine ai Tryz.func83 AA AA AA AA (Ap AA (sr AA λR z=>Ac 8 AA (Bw Hy AA (dn z AA (AE λS A=>AE λI B=>bs h0 λG e h0=>?_)))));have H:∀C,G=C->∀s,Wk 1 s ⟨99,AP [(0,BG),(1,i64 p1),(24,.bool C)],[⟨0,72,2,[[ls FQ tm,Kr tu]]⟩]⟩->I s:=by
  intro C T s J;subst G;refine B _ (AG J ?_);refine ci h0 AA ?_ ?_<;>intro U h0
  .refine Ap AA ?_;cases h0;exact rt [(4,i64 0)]
  .refine AH (A _ (Ap AA (AE λK f=>sr AA λL g=>Ac 5 AA (CZ AA (AS AA (dn g AA ?_))))));refine ci h0 AA ?_ ?_<;>intro M h0
   .refine sr AA λN h=>Ac 5 AA (bs h0 λD i h0=>zx fr i AA AA AA (AS AA (zz (i64 (Sh.wk .i64 D)) (eb eV AA) rfl (AS AA (bs h0 λj k h0=>zz (i64 j) (UZ AA AA k) rfl (AS AA (dn h AA ?_)))))));cases h0;exact rt [(4,i64 j)]
   .refine AH (f _ (AE λO l=>?_));refine CW (by kernel_rfl) (by kernel_rfl) (by rfl) ?_;iterate 9 refine yq tb rfl ?_
    refine yl tb AA AA (bs h0 λE m h0=>yz (i64 E) (UZ AA AA m) rfl (bs h0 λb n h0=>yx fr n AA AA AA (yq tb AA (yz (i64 (Sh.wk .i64 b)) (eb eV AA) rfl ?_))));iterate 12 refine yq tb rfl ?_
    refine yl tb AA AA (bs h0 λF o h0=>yz (i64 F) (UZ AA AA o) rfl (bs h0 λc p h0=>yx fr p AA AA AA (yq tb AA (yz (i64 (Sh.wk .i64 c)) (eb eV AA) rfl ?_))));iterate 10 refine yq tb rfl ?_
    refine yl tb AA AA (bs h0 λd q h0=>yz (i64 d) (Xl AA AA q) rfl ?_);iterate 3 refine yq tb rfl ?_
    refine As (l _ (sr AA λP t=>Ac 2 AA ?_));refine zz (i64 (Sh.w (Int.tdiv (Sh.w ((Sh.w ((Sh.w ((Sh.w ((Sh.wk .i64 b)*131))+Sh.w ((Sh.wk .i64 c)*1117)))+Sh.w ((Sh.w ((Sh.w (tu+1))-1))*29)))+Sh.w (d*53))) 64))) (W0 AA AA (by decide)) rfl ?_;refine zz (i64 (Sh.xor (Sh.w ((Sh.w ((Sh.w ((Sh.w ((Sh.wk .i64 b)*131))+Sh.w ((Sh.wk .i64 c)*1117)))+Sh.w ((Sh.w ((Sh.w (tu+1))-1))*29)))+Sh.w (d*53))) (Sh.w (Int.tdiv (Sh.w ((Sh.w ((Sh.w ((Sh.w ((Sh.wk .i64 b)*131))+Sh.w ((Sh.wk .i64 c)*1117)))+Sh.w ((Sh.w ((Sh.w (tu+1))-1))*29)))+Sh.w (d*53))) 64)))) (ll AA AA) rfl (AS AA (dn t AA (sr AA λQ u=>Ac 2 AA (bs h0 λx y h0=>zz (i64 x) (UZ AA AA y) rfl (AS AA (dn u AA ?_))))));cases h0;exact rt [(4,i64 x)]
 refine AF AA (Ac 3 AA ?_);rcases Sh.Ad e with ⟨a,e⟩|⟨a,e⟩
 .refine zs a AA ?_;iterate 5 refine zs a rfl ?_
  exact zt a AA (AB (H true (AT e) _ Ao))
 .refine Aw a AA ?_;iterate 3 refine Aw a rfl ?_
  exact BW (v:=HC tm) (CQ AA AA a) rfl (CU oC AA) (Aw a AA (zf a AA (AB (H (decide ((Sh.len tm)=0)) (AT e) _ Ao))))
theorem Ng {tm:List Int}{tu:Int}{r:(List AL)×Int}(h0:Hr tm tu=some r):Bd 87 [BG] [FB tm tu] (ow 1 0 r.1) [FB tm r.2,JH r.1]:=by
 unfold Hr at h0;refine ai Tryz.func87 AA AA AA AA (Ap AA (sr AA λT F=>?_));refine CC 1 ([]:List Int) eI BF AA ?_;refine Ea [(0,BG),(8,Rw)] [FB tm tu,⟨1,3,1,[]⟩] 1 AA ⟨.rfl,.BY AA,pA⟩ (λ_=>AA) rfl (bs h0 λe G h0=>Df (J7 e) (hb 117) (EC G) rfl ?_);refine CC 2 [(0:Int),1] eI BF AA ?_;refine Ea [(0,BG),(9,J7 e),(10,ls eI [(0:Int),1])] ((FB tm tu)::Ck []) 2 AA ⟨.rfl,.rfl,.BY AA,pA⟩ (λ_=>AA) rfl (bs h0 λf H h0=>Df (J7 f) (hb 117) (EC H) rfl ?_);refine CC 3 [e,f] CM Je AA ?_;refine zz (.agg [i64 0,i64 0,ow 3 0 [e,f]]) (DM Mk Ml HW AA AA) rfl (DE 4 HW AA (Ea [(0,BG),(3,Ix),(13,lS e f)] ((FB tm tu)::Ck [Mq,⟨0,80,3,[gO]⟩]) 3 AA ⟨.rfl,.rfl,.agg ⟨.rfl,.rfl,.H9 AA,pA⟩,pA⟩ (λ_=>AA) rfl (Bw KM AA (Au (Wk.BY (L:=[(0,BG),(3,ia e f)]) (st':=((FB tm tu)::Ck [Mq,OP])) (id:=4) rfl tZ (Ei AA) (.same AA) rfl) (dn F AA (sr AA λU I=>?_))))));refine CC 5 ([]:List Int) eI BF AA ?_;refine Ea [(0,BG),(3,ia e f),(14,Rw)] ((FB tm tu)::Ck (ct [])) 5 AA ⟨.rfl,.rfl,.BY AA,pA⟩ (λ_=>AA) rfl (bs h0 λg J h0=>Df (J7 g) (hb 117) (EC J) rfl ?_);refine CC 6 [(3:Int),0,3] eI BF AA ?_;refine Ea [(0,BG),(3,ia e f),(15,J7 g),(16,ls eI [(3:Int),0,3])] ((FB tm tu)::Ck (Mq::OP::Ck [])) 6 AA ⟨.rfl,.rfl,.rfl,.BY AA,pA⟩ (λ_=>AA) rfl (bs h0 λh K h0=>Df (J7 h) (hb 117) (EC K) rfl ?_);refine CC 7 [g,h] CM Je AA ?_;refine zz (.agg [i64 0,i64 0,ow 7 0 [g,h]]) (DM Mk Ml HW AA AA) rfl (DE 8 HW AA (Ea [(0,BG),(3,ia e f),(4,.ptr 8 0 0 0),(19,lS g h)] ((FB tm tu)::Ck (Mq::OP::Ck [Mq,⟨0,80,3,[gO]⟩])) 7 AA ⟨.rfl,.rfl,.rfl,.agg ⟨.rfl,.rfl,.H9 AA,pA⟩,pA⟩ (λ_=>AA) rfl (Bw KM AA (Au (Wk.BY (L:=ax e f g h []) (st':=((FB tm tu)::Ck (Mq::OP::Ck [Mq,OP]))) (id:=8) rfl (show 1<=8 by decide) (Ei AA) (.same AA) rfl) (dn I AA (sr AA λV M=>?_))))));refine CC 9 [(1:Int),3] eI BF AA ?_;refine Ea (ax e f g h [(20,ls eI [(1:Int),3])]) ((FB tm tu)::Ck (Mq::OP::Ck (ct []))) 9 AA ⟨.rfl,.rfl,.rfl,.BY AA,pA⟩ (λ_=>AA) rfl (bs h0 λi N h0=>Df (J7 i) (hb 117) (EC N) rfl ?_);refine CC 10 [i] CM Je AA ?_;refine zz (.agg [i64 0,i64 0,ow 10 0 [i]]) (DM Mk Ml HW AA AA) rfl (zz jm (DM Mk Ml HW AA AA) rfl ?_);refine CC 11 [(1:Int),1,0] eI BF AA ?_;refine Ea (ax e f g h [(23,.agg [i64 0,i64 0,ow 10 0 [i]]),(24,jm),(25,ls eI [(1:Int),1,0])]) ((FB tm tu)::Ck (Mq::OP::Ck (ct [ro 0 82 1 CM [i],⟨1,3,1,[]⟩]))) 11 AA ⟨.rfl,.rfl,.rfl,.agg ⟨.rfl,.rfl,.rfl,pA⟩,.rfl,.BY AA,pA⟩ (λ_=>AA) rfl (bs h0 λa t h0=>Df (J7 a) (hb 117) (EC t) rfl ?_);refine CC 12 [(0:Int)] eI BF AA ?_;refine Ea (ax e f g h [(23,.agg [i64 0,i64 0,ow 10 0 [i]]),(24,jm),(26,J7 a),(27,jI)]) ((FB tm tu)::Ck (Mq::OP::Ck (ct ((ro 0 82 1 CM [i])::Ck [])))) 12 AA ⟨.rfl,.rfl,.rfl,.agg ⟨.rfl,.rfl,.rfl,pA⟩,.rfl,.rfl,.BY AA,pA⟩ (λ_=>AA) rfl (bs h0 λb u h0=>Df (J7 b) (hb 117) (EC u) rfl ?_);refine CC 13 [(3:Int)] eI BF AA ?_;refine Ea (ax e f g h [(23,.agg [i64 0,i64 0,ow 10 0 [i]]),(24,jm),(26,J7 a),(28,J7 b),(29,ls eI [(3:Int)])]) ((FB tm tu)::Ck (Mq::OP::Ck (ct ((ro 0 82 1 CM [i])::Ck [⟨1,3,1,[]⟩])))) 13 AA ⟨.rfl,.rfl,.rfl,.agg ⟨.rfl,.rfl,.rfl,pA⟩,.rfl,.rfl,.rfl,.BY AA,pA⟩ (λ_=>AA) rfl (bs h0 λd w h0=>Df (J7 d) (hb 117) (EC w) rfl ?_);refine CC 14 [a,b,d] CM Je AA ?_;refine zz (.agg [i64 0,i64 0,ow 14 0 [a,b,d]]) (DM Mk Ml HW AA AA) rfl (zz kx (DM Mk Ml HW AA AA) rfl (Ea (ax e f g h [(23,kU i),(24,jm),(32,.agg [i64 0,i64 0,ow 14 0 [a,b,d]]),(33,kx)]) ((FB tm tu)::Ck (Mq::OP::Ck (ct (Mq::Ck [⟨1,3,1,[]⟩,ro 0 82 1 CM [a,b,d]])))) 10 AA ⟨.rfl,.rfl,.rfl,.agg ⟨.rfl,.rfl,.H9 AA,pA⟩,.rfl,.agg ⟨.rfl,.rfl,.rfl,pA⟩,.rfl,pA⟩ (λ_=>AA) rfl (Au (Ag (L:=ax e f g h [(23,kU i),(24,.agg [i64 1,i64 0,cP]),(32,.agg [i64 0,i64 0,ow 14 0 [a,b,d]]),(33,kx)]) ⟨.rfl,.rfl,.rfl,.rfl,.agg ⟨.rfl,.rfl,.zc,pA⟩,.rfl,.rfl,pA⟩) (Ea (ax e f g h [(23,kU i),(24,.agg [i64 1,i64 0,cP]),(32,.agg [i64 0,i64 0,ls CM [a,b,d]]),(33,kx)]) ((FB tm tu)::Ck (Mq::OP::Ck (ct (Mq::Ck [⟨1,3,1,[]⟩,Mq])))) 14 AA ⟨.rfl,.rfl,.rfl,.rfl,.rfl,.agg ⟨.rfl,.rfl,.H9 AA,pA⟩,.rfl,pA⟩ (λ_=>AA) rfl (Au (Ag (L:=ax e f g h [(23,kU i),(24,.agg [i64 1,i64 0,cP]),(32,.agg [i64 0,i64 0,ls CM [a,b,d]]),(33,.agg [i64 0,i64 1,cP])]) ⟨.rfl,.rfl,.rfl,.rfl,.rfl,.rfl,.agg ⟨.rfl,.rfl,.zc,pA⟩,pA⟩) ?_)))));refine CC 15 ([AL.mk 0 0 [i],AL.mk 1 0 [],AL.mk 0 0 [a,b,d],AL.mk 0 1 []]) Ai DK AA ?_;refine AS AA (dn M AA (sr AA λP y=>AS AA (zz (.agg gO) (DM Mk Ml HW AA AA) rfl (AS AA (Au (Ag (L:=[(0,BG),(5,.own 15 0 (List.length ([AL.mk 0 0 [i],AL.mk 1 0 [],AL.mk 0 0 [a,b,d],AL.mk 0 1 []]))),(35,lS e f),(36,.agg iF),(37,lS g h)]) ⟨.rfl,.rfl,.rfl,.agg ⟨.rfl,.rfl,.zc,pA⟩,.rfl,pA⟩) ?_)))));refine CC 16 ([AL.mk 0 0 [e,f],AL.mk 0 0 [],AL.mk 0 0 [g,h]]) Ai DK AA ?_;refine AS AA (dn y AA (sr AA λQ z=>AS AA (bs h0 λj A h0=>?_)));refine Hl ((FB tm j.2)::Ck (Mq::OP::Ck (ct (Mq::Ck [⟨1,3,1,[]⟩,Mq,ro 0 80 3 Ai ([AL.mk 0 0 [i],AL.mk 1 0 [],AL.mk 0 0 [a,b,d],AL.mk 0 1 []]),ro 0 80 3 Ai ([AL.mk 0 0 [e,f],AL.mk 0 0 [],AL.mk 0 0 [g,h]])])))) (i64 j.1) [0] AN (hb 83) (Ay A) rfl AA ?_;refine AS AA (dn z AA (AE λO B=>bs h0 λC n h0=>?_));have D:∀k,C=k->∀s,Wk 1 s ⟨51,AP [(6,ow 1 0 k)],[FB tm j.2,JH k]⟩->O s:=by
  intro k W s R;subst C;refine B _ (AG R (Ap AA ?_));cases h0;exact rt [(2,ow 1 0 k)]
 refine Ap AA ?_;refine ci n AA ?_ ?_<;>intro S n
 .refine AF AA (Ac 3 AA (bs n λo p n=>zz (.ptr 15 0 (Int.toNat j.1) 0) (CD DK AA AA AA AA p) rfl (zz (.agg (Ai o)) (Cq KM AA AA (CS p) tL rfl) rfl ?_)));refine CC 17 [o] Ai DK AA ?_;refine bs n λq E n=>Cs (l2:=[o]) AN DK AA AA AA AA (HG AA AA) (λ_=>AA) E AA (AS AA ?_);exact AB (D q (AT n) _ (by refine Wk.trans (D3 (L:=[(6,ow 16 0 q)]) (st':=((FB tm j.2)::⟨0,3,1,[]⟩::⟨0,3,1,[]⟩::⟨0,82,1,[]⟩::iS::⟨0,3,1,[]⟩::⟨0,3,1,[]⟩::⟨0,82,1,[]⟩::iS::⟨0,3,1,[]⟩::⟨0,82,1,[]⟩::OS [⟨0,82,1,[]⟩,ro 0 80 3 Ai ([AL.mk 0 0 [i],AL.mk 1 0 [],AL.mk 0 0 [a,b,d],AL.mk 0 1 []]),JH q,ro 0 80 3 Ai [o]])) (.raw AA AA AA (.pure AA (by intro x c;cases c) (.pure AA (by intro x c;cases c) (.pure AA (by intro x c;cases c) (.pure AA (by intro x c;cases c) (.pure AA (by intro x c;cases c) (.pure AA (by intro x c;cases c) (.pure AA (by intro x c;cases c) (.pure AA (by intro x c;cases c) (.pure AA (by intro x c;cases c) (.pure AA (by intro x c;cases c) (.pure AA (by intro x c;cases c) (.pure AA (by intro x c;cases c) (.pure AA (by intro x c;cases c) (.pure AA (by intro x c;cases c) (.pure AA Bn (.pure AA Bn (.pure AA Bn .nil)))))))))))))))))) (.same AA)) ?_;exact AM [0,16] AA AA (.w (.p .nil)) (.same AA)))
 .exact AH (D ([AL.mk 0 0 [e,f],AL.mk 0 0 [],AL.mk 0 0 [g,h]]) (AT n) _ (AM [0,16] AA AA (.w (.p .nil)) (.same AA)))
theorem Dr {p0:List Int}{p1:Int}{r:AU}(h0:FV p0 p1=some r):Bd 88 [ls eI p0,i64 p1] [] (Ga r) []:=by
 unfold FV at h0;refine Cj AA (ai Tryz.func88 AA AA AA AA (sr AA λc a=>DE 0 MM AA (dn a AA (sr AA λd b=>Ac 2 AA (zz (.agg [ls eI p0,i64 p1,i64 0,i64 0,.zc]) (DM V0 Vm MM AA AA) rfl (Bw Lj AA (dn b AA ?_)))))));cases h0;exact An ⟨_,(HP (id:=0) (cs:=[ls eI p0,i64 p1,i64 0,i64 0,.zc]) (cs':=mz p0 p1) (st':=[⟨0,37,5,[mz p0 p1]⟩]) rfl ⟨le.rfl,le.rfl,le.rfl,le.rfl,le.zc,pA⟩ AA AA).trans (Ag (L:=[(4,BG)]) (.same AA)),FX (.tmp 4) (mz p0 p1) Lj AA _ AA⟩
theorem Bm {tm:List Int}{tu:Int}{p1:List Int}{r:Int×Int}(h0:Bx tm tu p1=some r):Bd 70 [BG,ls eI p1] [FB tm tu] (i64 r.1) [FB tm r.2]:=by
 unfold Bx at h0;refine ai Tryz.func70 AA AA AA AA (Ap AA (sr AA λf a=>Ac 3 AA (CZ AA (bs h0 λb c h0=>?_))));refine Hl [FB tm b.2] (i64 b.1) [0] AN (hb 83) (Ay c) rfl AA ?_;refine bs h0 λe d h0=>zx BF d AA AA AA (Ac 2 AA (dn a AA ?_));cases h0;exact rt [(4,i64 e)]
theorem VV {N:Nat}{p0:List Int}{p1 r:Int}(h0:KV N p0 p1=some r):Bd 118 [ls eI p0,i64 p1] [] (i64 r) []:=by
 unfold KV at h0;refine ai Tryz.func118 AA AA AA AA (Ap AA (AE λk f=>Ap AA ?_));obtain⟨g,a,h0⟩:=Sh.Bi h0;have l:∀(_:Unit),g=Sum.inr ()->∀s,Wk 0 s ⟨19,AP [],[]⟩->k s:=by
  intro _ u s m;subst g;refine f _ (AG m (Ap AA ?_));cases h0;exact rt [(4,i64 (-1))]
 refine AK (Am (σ:=Int) (λn v=>FR p0 p1 n v=some g) (λe=>⟨19,AP [(0,ls eI p0),(1,i64 p1),(5,i64 e)],[]⟩) N 0 a Ao (λ_ j=>by rw[FR]at j;cases j) ?_);rintro n e a;rw[FR]at a;refine AE λx h=>sr AA λy i=>Ac 2 AA (CZ AA (AS AA (dn i AA ?_)));refine ci a AA ?_ ?_<;>intro z a
 .refine AH (h _ (AE λo b=>AK (sr AA λp c=>Ac 2 AA (bs a λq d a=>zx BF d AA AA AA (Ac 3 AA (dn c AA ?_))))));refine ci a AA ?_ ?_<;>intro t a
  .refine Ap AA ?_;cases a;cases h0;exact rt [(4,i64 e)]
  .exact AH (b _ (AF AA (Ac 3 AA (AB (xi (Sh.w (e+1)) a Ao)))))
 .exact Av (l () (AT a) _ Ao)
theorem Dh {p0:Int}{r:AD}(h0:Ft p0=some r):Bd 115 [i64 p0] [] (Bc r) []:=by
 unfold Ft at h0;refine Cj AA (ai Tryz.func115 AA AA AA AA (sr AA λc a=>DE 0 De AA (dn a AA (sr AA λd b=>AS AA ?_))));refine CC 1 ([]:List AD) Ar BZ (by simp only[List.map,Af];rfl) ?_;refine zz (.agg [i64 0,i64 p0,.own 1 0 (List.length ([]:List AD))]) (DM R7 R8 De AA AA) rfl (Au (Wk.BY (L:=[(2,BG),(5,.agg [i64 0,i64 p0,eM])]) (st':=[Jj,D0]) (id:=1) rfl tW (Ah Aa) ⟨.rfl,.agg ⟨.rfl,.rfl,.H9 AA,pA⟩,pA⟩ AA) (Bw BI AA (dn b AA ?_)));cases h0;exact An ⟨_,Wk.refl _ _,FX (.tmp 2) [i64 0,i64 p0,eM] BI AA _ AA⟩
theorem R0 {N:Nat}{p0:List Int}{p1:Int}{r:List Int}(h0:Ij N p0 p1=some r):Bd 144 [ls eI p0,i64 p1] [] (ow 0 0 r) [BX r]:=by
 unfold Ij at h0;refine ai Tryz.func144 AA AA AA AA (Ap AA (sr AA λM u=>?_));refine CC 0 ([]:List Int) eI BF AA ?_;refine AS AA (dn u AA (AE λC x=>Ap AA (bs h0 λy a h0=>?_)));have D:∀f,y=f->∀s,Wk 0 s ⟨25,AP [(5,ow 0 0 f)],[BX f]⟩->C s:=by
  intro f E s z;subst y;try dsimp only at h0
  refine x _ (AG z (Ap AA ?_));obtain rfl:=Sh.Bf h0;exact rt [(4,ow 0 0 f)]
 refine AK (Am (σ:=Int×(List Int)) (λn v=>D9 p0 p1 n v.1 v.2=some y) (λ(d,g)=>⟨25,AP [(0,ls eI p0),(1,i64 p1),(5,ow 0 0 g),(6,i64 d)],[ro 0 3 1 eI g]⟩) N (0,[]) a Ao (λ_ B=>by rw[D9]at B;cases B) ?_);rintro n ⟨d,g⟩ a;rw[D9]at a;refine AE λF h=>sr AA λG i=>Ac 2 AA (CZ AA (AS AA (dn i AA ?_)));refine ci a AA ?_ ?_<;>intro H a
 .refine AH (h _ (AE λA j=>bs a λk c a=>?_));have o:∀b,k=b->∀s,Wk 0 s ⟨25,AP (eT p0 p1 b [(6,i64 d)]),[BX b]⟩->A s:=by
   intro b E s z;subst k;exact j _ (AG z (AF AA (Ac 3 AA (AB (xi (Sh.w (d+1),b) a Ao)))))
  refine AK (sr AA λI p=>Ac 2 AA (bs c λJ q c=>zx BF q AA AA AA (Ac 3 AA (dn p AA ?_))));refine ci c AA ?_ ?_<;>intro K c
  .refine AF AA (Ac 2 AA ?_);refine CC 1 [d] eI BF AA ?_;refine bs c λe t c=>Cs (l2:=[d]) AN BF AA AA AA AA (HG AA AA) (λ_=>AA) t AA (AS AA ?_);exact AB (o e (AT c) _ (by refine Wk.trans (Da (L:=eT p0 p1 e [(6,i64 d)]) (st':=[BX e,Ta d]) (.pure Bn (.pure Bn .nil)) (.same AA)) ?_;exact AM [0] AA AA (.p .nil) (.same AA)))
  .exact AH (o g (AT c) _ Ao)
 .exact Av (D g (AT a) _ Ao)
theorem Dg {p0 p1 p2:Int}{r:Bool}(h0:Cw p0 p1 p2=some r):Bd 72 [i64 p0,i64 p1,i64 p2] [] (.bool r) []:=by
 unfold Cw at h0;refine ai Tryz.func72 AA AA AA AA (Ap AA (AE λg d=>bs h0 λe b h0=>?_));have f:∀c,e=c->∀s,Wk 0 s ⟨15,AP [(6,.bool c)],[]⟩->g s:=by
  intro c i s h;subst e;try dsimp only at h0
  refine d _ (AG h ?_);obtain rfl:=Sh.Bf h0;exact rt [(6,.bool c)]
 refine AF AA (Ac 4 AA ?_);rcases Sh.Ad b with ⟨a,b⟩|⟨a,b⟩
 .exact Aw a AA (Aw a AA (Aw a AA (zt a AA (AS AA (AB (f (decide (p0<=p2)) (AT b) _ Ao))))))
 .exact zs a AA (zs a AA (zs a AA (zf a AA (AS AA (AB (f false (AT b) _ Ao))))))
theorem KI {p0:List AL}{p1:Int}{r:Bool}(h0:HU p0 p1=some r):Bd 102 [D4 p0,i64 p1] [] (.bool r) []:=by
 unfold HU at h0;refine ai Tryz.func102 AA AA AA AA (Ap AA (AE λj d=>bs h0 λh b h0=>?_));have i:∀c,h=c->∀s,Wk 0 s ⟨19,AP [(4,.bool c)],[]⟩->j s:=by
  intro c l s k;subst h;try dsimp only at h0
  refine d _ (AG k ?_);obtain rfl:=Sh.Bf h0;exact rt [(4,.bool c)]
 refine AF AA (Ac 2 AA (CZ AA (bs b λm e b=>Gs (hb 72) (Dg e) rfl (AS AA ?_))));rcases Sh.Ad b with ⟨a,b⟩|⟨a,b⟩
 .exact Aw a AA (Aw a AA (Aw a AA (bs b λf g b=>BW (v:=T9 f) (CQ AA AA a) rfl (CR DK AA AA g AA) (Aw a AA (Aw a AA (BW (v:=Yn f) (CQ AA AA a) rfl (CU Qa AA) (Aw a AA (zt a AA (AS AA (AB (i (decide ((Sh.len f.cons)=0)) (AT b) _ Ao)))))))))))
 .refine zs a AA ?_;iterate 7 refine zs a rfl ?_
  exact zf a AA (AS AA (AB (i false (AT b) _ Ao)))
theorem OW {N:Nat}{p0:List AL}{p1 p2 r:Int}(h0:JT N p0 p1 p2=some r):Bd 128 [D4 p0,i64 p1,i64 p2] [] (i64 r) []:=by
 unfold JT at h0;refine ai Tryz.func128 AA AA AA AA (Ap AA (AE λy m=>Ap AA ?_));obtain⟨o,c,h0⟩:=Sh.Bi h0;have z:∀(_:Unit),o=Sum.inr ()->∀s,Wk 0 s ⟨41,AP [],[]⟩->y s:=by
  intro _ A s p;subst o;refine m _ (AG p (Ap AA ?_));cases h0;exact rt [(6,i64 (-1))]
 refine AK (Am (σ:=Int) (λn v=>FP p0 p1 p2 n v=some o) (λi=>⟨41,AP [(0,ls Ai p0),(1,i64 p1),(2,i64 p2),(7,i64 i)],[]⟩) N 0 c Ao (λ_ x=>by rw[FP]at x;cases x) ?_);rintro n i c;rw[FP]at c;refine AE λD q=>sr AA λE t=>Ac 2 AA (CZ AA (AS AA (dn t AA ?_)));refine ci c AA ?_ ?_<;>intro F c
 .refine AH (q _ (AE λB j=>AK (AE λu k=>bs c λl d c=>?_)));have f:∀g,l=g->∀s,Wk 0 s ⟨41,AP [(0,D4 p0),(1,i64 p1),(2,i64 p2),(7,i64 i),(38,.bool g)],[]⟩->u s:=by
   intro g A s p;subst l;refine k _ (AG p ?_);refine ci c AA ?_ ?_<;>intro C c
   .refine Ap AA ?_;cases c;cases h0;exact rt [(6,Kr i)]
   .exact AH (j _ (AF AA (Ac 3 AA (AB (xi (Sh.w (i+1)) c Ao)))))
  refine AF AA (Ac 2 AA (bs d λh e d=>zx DK e AA AA AA (Ac 2 AA (CZ AA (Ac 2 AA ?_)))));rcases Sh.Ad d with ⟨a,d⟩|⟨a,d⟩
  .refine Aw a AA (Aw a AA (BW (v:=T9 h) (CQ AA AA a) rfl (CR DK AA AA e AA) ?_));iterate 4 refine Aw a rfl ?_
   refine zt a AA (AS AA ?_);rcases Sh.Ad d with ⟨b,d⟩|⟨b,d⟩
   .refine Aw b AA (Aw b AA (BW (v:=T9 h) (CQ AA AA b) rfl (CR DK AA AA e AA) ?_));iterate 4 refine Aw b rfl ?_
    exact zt b AA (AB (f (decide (h.to=p2)) (AT d) _ Ao))
   .refine zs b AA ?_;iterate 6 refine zs b rfl ?_
    exact zf b AA (AB (f false (AT d) _ Ao))
  .refine zs a AA ?_;iterate 6 refine zs a rfl ?_
   refine zf a AA (AS AA ?_);iterate 7 refine zs rfl rfl ?_
   exact zf AA AA (AB (f false (AT d) _ Ao))
 .exact Av (z () (AT c) _ Ao)
theorem OD {N:Nat}{p0:AJ}{p1:Int}{r:List Int}(h0:Ib N p0 p1=some r):Bd 147 [KT p0,i64 p1] [] (ow 0 0 r) [BX r]:=by
 unfold Ib at h0;refine ai Tryz.func147 AA AA AA AA (sr AA λZ H=>Ef 0 AA (AS AA (dn H AA (sr AA λK2 I=>?_))));refine CC 1 ([]:List Int) eI BF AA ?_;refine AS AA (dn I AA (AE λS J=>Ap AA (bs h0 λK b h0=>?_)));have T:∀k,K=k->∀s,Wk 0 s ⟨53,AP [(5,ow 0 0 k)],[BX k]⟩->S s:=by
  intro k Q s o;subst K;try dsimp only at h0
  refine J _ (AG o (Ap AA ?_));obtain rfl:=Sh.Bf h0;exact rt [(4,ow 0 0 k)]
 refine AK (Am (σ:=Int×(List Int)) (λn v=>E7 N p0 p1 n v.1 v.2=some K) (λ(f,h)=>⟨53,AP [(1,i64 p1),(2,.ptr 0 0 0 0),(5,ow 1 0 h),(6,i64 f)],[Yd p0.decls p0.funcs,ro 0 3 1 eI h]⟩) N (0,[]) b Ao (λ_ R=>by rw[E7]at R;cases R) ?_);rintro n ⟨f,h⟩ b;rw[E7]at b;refine AE λU p=>sr AA λV q=>Ac 3 AA (CZ AA (AS AA (dn q AA ?_)));refine ci b AA ?_ ?_<;>intro W b
 .refine AH (p _ (AE λM t=>bs b λu c b=>?_));have x:∀d,u=d->∀s,Wk 0 s ⟨53,AP (eu p1 d f []),[Yd p0.decls p0.funcs,BX d]⟩->M s:=by
   intro d Q s o;subst u;exact t _ (AG o (AF AA (Ac 3 AA (AB (xi (Sh.w (f+1),d) b Ao)))))
  refine AK (sr AA λX y=>Ac 3 AA (bs c λz e c=>zx Cd e AA AA AA (Ac 2 AA (CZ AA (AS AA (dn y AA (AE λO A=>bs c λB g c=>?_)))))));have C:∀i,B=i->∀s,Wk 0 s ⟨53,AP (eu p1 h f [(47,.bool i)]),[Yd p0.decls p0.funcs,BX h]⟩->O s:=by
   intro i Q s o;subst B;refine A _ (AG o ?_);refine ci c AA ?_ ?_<;>intro Y c
   .refine AF AA (Ac 2 AA ?_);refine CC 2 [f] eI BF AA ?_;refine bs c λj D c=>Cs (l2:=[f]) AN BF AA AA AA AA (HG AA AA) (λ_=>AA) D AA (AS AA ?_);exact AB (x j (AT c) _ (by refine Wk.trans (Da (L:=eu p1 j f []) (st':=[Yd p0.decls p0.funcs,BX j,Ta f]) (.raw AA AA (.pure Bn (.pure Bn .nil))) (.same AA)) ?_;exact AM [0,1] AA AA (.w (.p .nil)) (.same AA)))
   .exact AH (x h (AT c) _ Ao)
  refine CW (by kernel_rfl) (by kernel_rfl) (by rfl) ?_;iterate 3 refine yq tb rfl ?_
  rcases Sh.Ad g with ⟨a,g⟩|⟨a,g⟩
  .refine yg tb a AA ?_;iterate 4 refine yg tb a rfl ?_
   refine H3 (v:=Rr z) (CQ AA AA a) rfl (CR Cd AA AA e AA) ?_;iterate 4 refine yg tb a rfl ?_
   refine bs g λP E g=>H3 (v:=UB P) (CQ AA AA a) rfl (CR BF AA AA E AA) ?_;iterate 4 refine yg tb a rfl ?_
   refine H3 (v:=Rr z) (CQ AA AA a) rfl (CR Cd AA AA e AA) ?_;iterate 2 refine yg tb a rfl ?_
   refine bs g λF G g=>BU (v:=i64 F) (CQ AA AA a) (hb 128) (OW G) rfl AA AA ?_;iterate 2 refine yg tb a rfl ?_
   exact yt a AA (As (C (decide (F=p1)) (AT g) _ Ao))
  .refine ys a AA ?_;iterate 20 refine ys a rfl ?_
   exact yf a AA (As (C false (AT g) _ Ao))
 .exact Av (T h (AT b) _ (AM [1] AA AA (.p .nil) (.same AA)))
theorem MC {N:Nat}{p0:List Int}{p1:Int}{r:Bool}(h0:HA N p0 p1=some r):Bd 74 [ls eI p0,i64 p1] [] (.bool r) []:=by
 unfold HA at h0;refine ai Tryz.func74 AA AA AA AA (Ap AA (AE λk e=>Ap AA ?_));obtain⟨f,a,h0⟩:=Sh.Bi h0;have l:∀(_:Unit),f=Sum.inr ()->∀s,Wk 0 s ⟨18,AP [],[]⟩->k s:=by
  intro _ u s m;subst f;refine e _ (AG m (Ap AA ?_));cases h0;exact rt [(4,.bool false)]
 refine AK (Am (σ:=Int) (λn v=>Ek p0 p1 n v=some f) (λg=>⟨18,AP [(0,ls eI p0),(1,i64 p1),(5,i64 g)],[]⟩) N 0 a Ao (λ_ j=>by rw[Ek]at j;cases j) ?_);rintro n g a;rw[Ek]at a;refine AE λx h=>sr AA λy i=>Ac 2 AA (CZ AA (AS AA (dn i AA ?_)));refine ci a AA ?_ ?_<;>intro z a
 .refine AH (h _ (AE λo b=>AK (sr AA λp c=>Ac 2 AA (bs a λq d a=>zx BF d AA AA AA (Ac 3 AA (dn c AA ?_))))));refine ci a AA ?_ ?_<;>intro t a
  .refine Ap AA ?_;cases a;cases h0;exact rt [(4,.bool true)]
  .exact AH (b _ (AF AA (Ac 3 AA (AB (xi (Sh.w (g+1)) a Ao)))))
 .exact Av (l () (AT a) _ Ao)
theorem J9 {N:Nat}{p0:AJ}{p1:List Int}{p2:Int}{r:Bool}(h0:Ha N p0 p1 p2=some r):Bd 145 [KT p0,ls eI p1,i64 p2] [] (.bool r) []:=by
 unfold Ha at h0;refine ai Tryz.func145 AA AA AA AA (sr AA λq e=>Ef 0 AA (AS AA (dn e AA (AE λn f=>bs h0 λk a h0=>?_))));have g:∀d,k=d->∀s,Wk 0 s ⟨24,AP [(6,.bool d)],[]⟩->n s:=by
  intro d t s o;subst k;try dsimp only at h0
  refine f _ (AG o ?_);obtain rfl:=Sh.Bf h0;exact rt [(6,.bool d)]
 refine AF AA (Ac 3 AA (bs a λu h a=>Gs (hb 102) (KI h) rfl (Ac 2 AA ?_)));rcases Sh.Ad a with ⟨b,a⟩|⟨b,a⟩
 .refine zs b AA ?_;iterate 4 refine zs b rfl ?_
  refine zt b AA (AS AA ?_);iterate 3 refine zs rfl rfl ?_
  exact zt AA AA (AS AA (AB (g true (AT a) _ (Be _ AA))))
 .refine Aw b AA (Aw b AA (bs a λl i a=>Bo (v':=ow 1 0 l) (CQ AA AA b) (hb 147) (OD i) rfl AA ⟨(Bq λ_=>AA),pA⟩ AA AA (BW (v:=HC l) (CQ AA AA b) rfl (DD Gc AA AA AA) (Aw b AA (zf b AA (AS AA ?_))))));rcases Sh.Ad a with ⟨c,a⟩|⟨c,a⟩
  .exact zs c AA (zs c AA (zs c AA (zt c AA (AS AA (AB (g true (AT a) _ (Be _ AA)))))))
  .exact Aw c AA (Aw c AA (bs a λp j a=>zd c (hb 74) (MC j) rfl AA AA AA (zf c AA (AS AA (AB (g p (AT a) _ (Be _ AA)))))))
theorem CK {p0:Int}{r:AD}(h0:Cb p0=some r):Bd 116 [i64 p0] [] (Bc r) []:=by
 unfold Cb at h0;refine Cj AA (ai Tryz.func116 AA AA AA AA (sr AA λc a=>DE 0 De AA (dn a AA (sr AA λd b=>AS AA ?_))));refine CC 1 ([]:List AD) Ar BZ (by simp only[List.map,Af];rfl) ?_;refine zz (.agg [i64 12,i64 p0,.own 1 0 (List.length ([]:List AD))]) (DM R7 R8 De AA AA) rfl (Au (Wk.BY (L:=[(2,BG),(5,.agg [i64 12,i64 p0,eM])]) (st':=[Jj,D0]) (id:=1) rfl tW (Ah Aa) ⟨.rfl,.agg ⟨.rfl,.rfl,.H9 AA,pA⟩,pA⟩ AA) (Bw BI AA (dn b AA ?_)));cases h0;exact An ⟨_,Wk.refl _ _,FX (.tmp 2) [i64 12,i64 p0,eM] BI AA _ AA⟩
theorem LI {N:Nat}{p0:List AL}{p1 r:Int}(h0:Hg N p0 p1=some r):Bd 106 [D4 p0,i64 p1] [] (i64 r) []:=by
 unfold Hg at h0;refine ai Tryz.func106 AA AA AA AA ?_;iterate 2 refine Ap rfl ?_
 refine AE λj e=>Ap AA (bs h0 λf a h0=>?_);have k:∀n7,f=n7->∀s,Wk 0 s ⟨21,AP [(5,i64 n7)],[]⟩->j s:=by
  intro n7 q s l;subst f;try dsimp only at h0
  refine e _ (AG l (Ap AA ?_));obtain rfl:=Sh.Bf h0;exact rt [(4,i64 n7)]
 refine AK (Am (σ:=Int×Int) (λn v=>E4 p0 p1 n v.1 v.2=some f) (λ(n5,g)=>⟨21,AP [(0,ls Ai p0),(1,i64 p1),(5,i64 n5),(6,i64 g)],[]⟩) N (0,0) a Ao (λ_ i=>by rw[E4]at i;cases i) ?_);rintro n ⟨n5,g⟩ a;rw[E4]at a;refine AE λm b=>Ap AA ?_;refine ci a AA ?_ ?_<;>intro o a
 .refine AH (b _ (AE λp c=>AK (AF AA (Ac 3 AA (bs a λh d a=>zx DK d AA AA AA (Ac 2 AA (CZ AA (Ac 2 AA (dn c AA (AF AA ?_))))))))));exact Ac 3 AA (AB (xi (Sh.w (n5+Sh.len h.cons),Sh.w (g+1)) a Ao))
 .exact Av (k n5 (AT a) _ Ao)
theorem JA {N:Nat}{p0:List AL}{p1:Int}{r:List Int}(h0:G0 N p0 p1=some r):Bd 104 [D4 p0,i64 p1] [] (ow 0 0 r) [BX r]:=by
 unfold G0 at h0;refine ai Tryz.func104 AA AA AA AA (Ap AA (sr AA λK t=>?_));refine CC 0 ([]:List Int) eI BF AA ?_;refine AS AA (dn t AA (AE λM u=>sr AA λO x=>Ac 2 AA (CZ AA (bs h0 λB y h0=>Gs (hb 72) (Dg y) rfl (AS AA (dn x AA ?_))))));refine ci h0 AA ?_ ?_<;>intro C h0
 .have P:B=false:=by simpa using C
  refine Ap AA ?_;cases h0;exact rt [(4,Yu)]
 .have Q:B=true:=by simpa using C
  refine AH (u _ (AE λz h=>Ap AA (bs h0 λe a h0=>?_)));have A:∀c,e=c->∀s,Wk 0 s ⟨35,AP [(5,ow 0 0 c)],[BX c]⟩->z s:=by
   intro c R s E;subst e;try dsimp only at h0
   refine h _ (AG E (Ap AA ?_));obtain rfl:=Sh.Bf h0;exact rt [(4,ow 0 0 c)]
  refine AK (Am (σ:=Int×(List Int)) (λn v=>Fy N p0 p1 n v.1 v.2=some e) (λ(b,d)=>⟨35,AP [(0,ls Ai p0),(1,i64 p1),(5,ow 0 0 d),(6,i64 b)],[ro 0 3 1 eI d]⟩) N (0,[]) a Ao (λ_ D=>by rw[Fy]at D;cases D) ?_);rintro n ⟨b,d⟩ a;rw[Fy]at a;refine AE λF i=>sr AA λG j=>Ac 4 AA (bs a λH k a=>zx DK k AA AA AA (Ac 2 AA (CZ AA (AS AA (dn j AA ?_)))));refine ci a AA ?_ ?_<;>intro I a
  .refine AH (i _ (AE λJ o=>AK (AF AA (Ac 4 AA (bs a λf p a=>Gs (hb 106) (LI p) rfl (Ac 2 AA ?_))))));refine CC 1 [Sh.w (f+b)] eI BF AA ?_;refine bs a λg q a=>Cs (l2:=[Sh.w (f+b)]) AN BF AA AA AA AA (HG AA AA) (λ_=>AA) q AA (AS AA (dn o AA (AF AA (Ac 3 AA ?_))));exact AB (xi (Sh.w (b+1),g) a (by refine Wk.trans (Da (L:=[(0,D4 p0),(1,i64 p1),(5,ow 0 0 g),(6,Kr b)]) (st':=[BX g,ro 0 3 1 eI [Sh.w (f+b)]]) (.pure Bn (.pure Bn .nil)) (.same AA)) ?_;exact AM [0] AA AA (.p .nil) (.same AA)))
  .exact Av (A d (AT a) _ Ao)
theorem Lq {N:Nat}{p0:List AL}{p1 r:Int}(h0:Gw N p0 p1=some r):Bd 97 [D4 p0,i64 p1] [] (i64 r) []:=by
 unfold Gw at h0;refine ai Tryz.func97 AA AA AA AA (Ap AA (AE λo i=>Ap AA ?_));obtain⟨j,a,h0⟩:=Sh.Bi h0;have p:∀(_:Unit),j=Sum.inr ()->∀s,Wk 0 s ⟨30,AP [],[]⟩->o s:=by
  intro _ C s q;subst j;refine i _ (AG q (Ap AA ?_));cases h0;exact rt [(4,i64 (-1))]
 refine AK (Am (σ:=Int) (λn v=>EI N p0 p1 n v=some j) (λh=>⟨30,AP [(0,ls Ai p0),(1,i64 p1),(5,i64 h)],[]⟩) N 0 a Ao (λ_ m=>by rw[EI]at m;cases m) ?_);rintro n h a;rw[EI]at a;refine AE λD k=>sr AA λE l=>Ac 2 AA (CZ AA (AS AA (dn l AA ?_)));refine ci a AA ?_ ?_<;>intro F a
 .refine AH (k _ (AE λt b=>AK (sr AA λu c=>Ac 2 AA (bs a λx d a=>Gs (hb 106) (LI d) rfl (AS AA (dn c AA (sr AA λy e=>Ac 5 AA (bs a λz f a=>?_))))))));refine zx DK f AA AA AA (Ac 2 AA (CZ AA (Ac 2 AA (bs a λA g a=>Gs (hb 72) (Dg g) rfl (dn e AA ?_)))));refine ci a AA ?_ ?_<;>intro B a
  .refine Ap AA ?_;cases a;cases h0;exact rt [(4,Kr h)]
  .exact AH (b _ (AF AA (Ac 3 AA (AB (xi (Sh.w (h+1)) a Ao)))))
 .exact Av (p () (AT a) _ Ao)
theorem FK {N:Nat}{p0:List AL}{p1:Int}{r:List Int}(h0:Bt N p0 p1=some r):Bd 99 [D4 p0,i64 p1] [] (ls eI r) []:=by
 unfold Bt at h0;refine ai Tryz.func99 AA AA AA AA (Ap AA (sr AA λk c=>Ac 2 AA (bs h0 λn d h0=>Gs (hb 97) (Lq d) rfl (AS AA (dn c AA (AE λo e=>Ap AA ?_))))));refine ci h0 AA ?_ ?_<;>intro p h0
 .refine sr AA λq f=>?_;refine CC 0 ([]:List Int) eI BF AA ?_;refine AS AA (dn f AA ?_);cases h0;exact An (Exists.intro ⟨27,AP [(4,Rw)],[]⟩ (And.intro (by refine Wk.trans (Wk.BY (L:=[(4,Rw)]) (st':=UY) (id:=0) rfl tN Bn ⟨.BY AA,pA⟩ AA) ?_;exact AM [] AA AA .nil (.same AA)) (And.intro AA AA)))
 .refine AH (e _ (AE λs g=>?_));refine CW (by kernel_rfl) (by kernel_rfl) (by rfl) ?_;iterate 3 refine yq tb rfl ?_
  refine bs h0 λt h h0=>yx DK h AA AA AA ?_;iterate 6 refine yq tb rfl ?_
  refine bs h0 λi a h0=>BU (v:=i64 i) AN (hb 106) (LI a) rfl AA AA (yq tb AA (bs h0 λj b h0=>yx Je b AA AA AA ?_));iterate 3 refine yq tb rfl ?_
  refine As (g _ ?_);cases h0;exact rt [(4,ls eI j.fields)]
theorem BS {p0 p1:Int}{p2:List AD}{r:AD}(h0:Bg p0 p1 p2=some r):Bd 114 (Ts p0 p1 p2) [] (Bc r) []:=by
 unfold Bg at h0;refine Cj AA (ai Tryz.func114 AA AA AA AA (sr AA λc a=>DE 0 De AA (dn a AA (sr AA λd b=>Ac 3 AA (zz (DV p0 p1 p2) (DM R7 R8 De AA AA) rfl (Bw BI AA (dn b AA ?_)))))));cases h0;exact An ⟨_,Wk.refl _ _,FX (.tmp 6) (Ts p0 p1 p2) BI AA _ AA⟩
theorem Oe {tm:List Int}{tu:Int}{r:Int×Int}(h0:JQ tm tu=some r):Bd 143 [BG] [FB tm tu] (i64 r.1) [FB tm r.2]:=by
 unfold JQ at h0;refine ai Tryz.func143 AA AA AA AA (Ap AA (sr AA λj e=>Ac 2 AA (bs h0 λb f h0=>?_)));refine Hl [FB tm b.2] (i64 b.1) [0] AN (hb 83) (Ay f) rfl AA ?_;refine AS AA (bs h0 λc g h0=>?_);refine Hl [FB tm c.2] (i64 c.1) [0] AN (hb 83) (Ay g) rfl AA ?_;refine AS AA (bs h0 λa h h0=>?_);refine Hl [FB tm a.2] (i64 a.1) [0] AN (hb 83) (Ay h) rfl AA ?_;refine lN (m:=1) (st':=[FB tm a.2,ro 0 3 1 eI [b.1,c.1,0,1,2,-1,3,a.1,999,-998]]) (l:=[b.1,c.1,0,1,2,-1,3,a.1,999,-998]) (enc:=eI) AN BF (by decide) rfl AA ⟨AA,AA,AA,⟨AA,AA,AA,⟨AA,AA,AA,⟨AA,AA,AA,⟨AA,AA,AA,⟨AA,AA,AA,⟨AA,AA,AA,⟨AA,AA,AA,⟨AA,AA,AA,⟨AA,AA,AA,pA⟩⟩⟩⟩⟩⟩⟩⟩⟩⟩ AA AA AA ?_;refine Ea [(3,BG),(10,ls eI [b.1,c.1,0,1,2,-1,3,a.1,999,-998])] [FB tm a.2,⟨1,3,1,[]⟩] 1 AA ⟨.rfl,.BY AA,pA⟩ (λ_=>AA) rfl (bs h0 λd i h0=>?_);refine Hl [FB tm d.2,⟨1,3,1,[]⟩] (i64 d.1) [0] AN (hb 70) (Bm i) rfl AA ?_;refine AS AA (dn e AA ?_);cases h0;exact An (xr (AM (L:=[(2,i64 d.1)]) (st':=[FB tm d.2]) [0] AA AA (.w .nil) ⟨.rfl,pA⟩))
theorem Rq {N:Nat}{uD:(List Int)->Int->(List AU)->(List AL)->Int->Option (AD×Int)}(vY :∀{tm:List Int} {tu:Int} {s1:List AU} {tp:List AL} {p2:Int} {r:AD×Int},uD tm tu s1 tp p2=some r->Bd 146 [BG,H2 tp s1,i64 p2] (Dz tm tu s1 []) (DV r.1.op r.1.num r.1.kids) (Dz tm r.2 s1 [])){tm:List Int}{tu:Int}{s1:List AU}{tp:List AL}{p2:Int}{r:AD×Int}(h0:IQ N uD tm tu s1 tp p2=some r):Bd 146 [BG,H2 tp s1,i64 p2] (Dz tm tu s1 []) (DV r.1.op r.1.num r.1.kids) (Dz tm r.2 s1 []):=by
 unfold IQ at h0;refine BJ.wk (r0:=DV r.1.op r.1.num r.1.kids) (st0:=Dz tm r.2 s1 [Jl r.1.op r.1.num r.1.kids]) ?_ (D2 (L:=[(0,DV r.1.op r.1.num r.1.kids)]) (st':=Dz tm r.2 s1 []) [0,1] AA (by decide) rfl AA (.raw AA (.pure Bn pA)) (.same AA));refine ai Tryz.func146 AA AA AA AA (sr AA λK1 k4=>Ef 2 AA (DE 3 De AA (dn k4 AA (sr AA λK2 k5=>Ac 3 AA (bs h0 λP k6 h0=>Bo (v':=ow 4 0 P) AN (hb 104) (JA k6) rfl AA ⟨(Bq λ_=>AA),pA⟩ AA AA (AS AA (dn k5 AA (AE λK4 k7=>?_))))))));refine sr AA λK5 k8=>AS AA (zz (HC P) (DD Gc AA AA AA) rfl (AS AA (dn k8 AA ?_)));refine ci h0 AA ?_ ?_<;>intro b6 h0
 .refine sr AA λK7 k9=>AS AA (bs h0 λc8 H h0=>zz (.ptr 4 0 (Int.toNat 0) 0) (CD BF AA AA AA AA H) rfl (zz (i64 c8) (CG Hy AA AA (CS H) rfl) rfl (AS AA (dn k9 AA (AE λK9 l0=>bs h0 λb0 a h0=>?_)))));have b1:∀I q,b0=(I,q)->∀s,Wk 2 s ⟨118,AP (NK p2 [(7,ow 4 0 P),(8,i64 I)]),HJ tm q s1 tp [BX P]⟩->K9 s:=by
   rintro I q rfl s t;refine l0 _ (AG t (AE λl1 b2=>bs h0 λb3 a h0=>?_));have b4:∀g,b3=g->∀s,Wk 2 s ⟨118,AP [(0,BG),(4,CY),(6,IH),(8,i64 g)],HJ tm q s1 tp []⟩->l1 s:=by
    intro g hq s t;subst b3;refine b2 _ (AG t (sr AA λl9 b5=>?_));refine CC 4 ([]:List AD) Ar BZ (by simp only[List.map,Af];rfl) ?_;refine AS AA (dn b5 AA (sr AA λm0 b7=>Ac 3 AA (bs h0 λJ b8 h0=>Gs (hb 99) (FK b8) rfl (AS AA (dn b7 AA (AE λl3 b9=>Ap AA (bs h0 λT a h0=>?_)))))));have l4:∀u y,T=(u,y)->∀s,Wk 2 s ⟨118,AP [(6,CY),(8,i64 g),(9,ow 3 0 y)],Dz tm u s1 [Jj,G7 y]⟩->l3 s:=by
     rintro u y rfl s t;refine b9 _ (AG t (sr AA λm1 c0=>Ac 2 AA (Au (Wk.BY (L:=[(6,CY),(68,i64 g),(69,Hd y)]) (st':=Dz tm u s1 [Jj,D0]) (id:=3) rfl ta (Ah Aa) ⟨.rfl,.rfl,.BY AA,pA⟩ AA) (bs h0 λh c1 h0=>Df (Bc h) (hb 114) (BS c1) rfl (Bw BI AA (dn c0 AA ?_))))));cases h0;exact An ⟨_,(AM (L:=[(6,CY)]) (st':=Dz tm u s1 [Jl h.op h.num h.kids]) [0,1,2] AA AA (.w (.p (.w .nil))) ⟨.rfl,pA⟩).trans (Ag (L:=[(6,CY)]) ⟨.rfl,pA⟩),FX (.tmp 6) (Lh h) BI AA _ ⟨AA,AA⟩⟩
    refine AK (Am (σ:=Int×Int×(List AD)) (λn v=>Cz tm s1 tp J uD n v.1 v.2.1 v.2.2=some T) (λ(z,K,i)=>⟨118,AP [(0,.ptr 0 0 0 0),(4,.ptr 2 0 0 0),(6,.ptr 3 0 0 0),(8,i64 g),(9,ow 4 0 i),(10,ls eI J),(11,i64 z)],[FB tm K,ro 0 37 5 BT s1,⟨0,26,2,[[ls Ai tp,ow 1 0 s1]]⟩,Jj,ro 0 35 3 Ar i]⟩) N (0,q,[]) a Ao (λ_ hv=>by rw[Cz]at hv;cases hv) ?_);rintro n ⟨z,K,i⟩ a;rw[Cz]at a;refine AE λm2 c2=>sr AA λm3 c3=>Ac 2 AA (CZ AA (AS AA (dn c3 AA ?_)));refine ci a AA ?_ ?_<;>intro m4 a
    .refine AH (c2 _ (AE λm5 c4=>AK ?_));refine L0 (KL s1 tp [Jj,G7 i]) 9 ?_;refine BL (ow 4 0 i) AN AA (λ_ _=>BP AA) (BL BG AN AA (λ_ _=>BP AA) (BL (H2 tp s1) AN AA (λ_ _=>Cq D5 AA AA AA tM rfl) (BL (ls eI J) AN AA (λ_ _=>BP AA) (BL (i64 z) AN AA (λ_ _=>BP AA) (bs a λc5 c6 a=>BL (UB c5) AN AA (λ_ _=>CR BF AA AA c6 AA) (BL (i64 c5) AN AA (λ_ _=>IP Hy AA AA) (bs a λb c7 a=>?_)))))));refine PX (DV b.1.op b.1.num b.1.kids) (FB tm b.2) [0,1] AN (hb 146) (vY c7) rfl (λ_=>AA) (λ_=>AA) (λ_=>AA) ?_;refine F3 AN (λx0 zz=>Gu (l:=[b.1]) (enc:=Ar) AN BZ (by decide) rfl AA AA (by simp only[List.map,Af];rfl) rfl (Ah Aa) (As AA)) ?_;exact FU AA (bs a λU c9 a=>Cs (l2:=[b.1]) AN BZ AA AA AA AA Mi DY c9 AA (AS AA (dn c4 AA (AF AA (Ac 3 AA (AB (xi (Sh.w (z+1),b.2,U) a (D3 (L:=[(0,BG),(4,CY),(6,IH),(8,i64 g),(9,ow 4 0 U),(10,ls eI J),(11,Kr z)]) (st':=HJ tm b.2 s1 tp [G7 U]) (.raw AA AA AA (.pure AA Bn (.raw AA AA AA (.raw AA AA AA (.pure AA (Ah Aa) .nil))))) (.same AA)))))))))
    .exact Av (l4 K i (AT a) _ (AM [0,1,3,4] AA AA (.w (.p (.w (.pure (Ah Aa) .nil)))) (.same AA)))
   refine sr AA λm6 d0=>Ac 3 AA (bs a λm7 d1 a=>Gs (hb 99) (FK d1) rfl (AS AA (bs a λm8 d2 a=>Gs (hb 74) (MC d2) rfl (dn d0 AA ?_))));refine ci a AA ?_ ?_<;>intro m9 a
   .refine AF AA (AS AA (zz (.ptr 4 0 (Int.toNat 0) 0) (CD BF AA AA AA AA H) rfl (zz (i64 c8) (CG Hy AA AA (CS H) rfl) rfl (AS AA ?_))));exact AB (b4 c8 (AT a) _ (AM [0,1,2,3] AA AA (.w (.p (.w (.w .nil)))) (.same AA)))
   .exact AH (b4 I (AT a) _ (AM [0,1,2,3] AA AA (.w (.p (.w (.w .nil)))) (.same AA)))
  refine AE λl5 d3=>bs a λd4 V a=>?_;have d5:∀W A,d4=(W,A)->∀s,Wk 2 s ⟨118,AP (NK p2 [(7,ow 4 0 P),(8,i64 c8),(34,.bool W)]),HJ tm A s1 tp [BX P]⟩->l5 s:=by
   rintro W A rfl s t;refine d3 _ (AG t ?_);refine ci a AA ?_ ?_<;>intro q0 a
   .exact AF AA (AS AA (bs a λd6 Q a=>zz (.ptr 4 0 (Int.toNat 1) 0) (CD BF AA AA AA AA Q) rfl (zz (i64 d6) (CG Hy AA AA (CS Q) rfl) rfl (AS AA (AB (b1 d6 A (AT a) _ Ao))))))
   .exact AH (b1 c8 A (AT a) _ Ao)
  refine AF AA (AS AA (zz (HC P) (DD Gc AA AA AA) rfl (Ac 2 AA ?_)));rcases Sh.Ad V with ⟨c,V⟩|⟨c,V⟩
  .refine Aw c AA (bs V λB d7 V=>?_);refine Hl (HJ tm B.2 s1 tp [BX P]) (i64 B.1) [0] (CQ AA AA c) (hb 83) (Ay d7) rfl AA ?_;exact Aw c AA (zt c AA (AB (d5 (decide (B.1=0)) B.2 (AT V) _ Ao)))
  .exact zs c AA (zs c AA (zs c AA (zf c AA (AB (d5 false tu (AT V) _ Ao)))))
 .refine AH (k7 _ (sr AA λq1 d8=>Ac 2 AA (bs h0 λf d9 h0=>Lz (v':=ow 5 0 f) AN (hb 147) (OD d9) rfl (.agg (.val AA (.own AA AA (λ_=>AA) .nil)) (.val AA .nil)) rfl (mM (λ_=>AA) pA) rfl AA (AS AA (dn d8 AA (AE λq2 g0=>AE λl6 g1=>bs h0 λg2 a h0=>?_))))));have g3:∀X,g2=X->∀s,Wk 2 s ⟨118,AP [(0,BG),(4,CY),(6,IH),(12,ow 4 0 f),(80,.bool X)],HJ tm tu s1 tp [BX f]⟩->l6 s:=by
   intro X hq s t;subst g2;refine g1 _ (AG t ?_);refine ci h0 AA ?_ ?_<;>intro q4 h0
   .refine sr AA λq5 g4=>Ac 3 AA (zz (HC f) (DD Gc AA AA AA) rfl (bs h0 λC g5 h0=>?_));refine Hl (HJ tm C.2 s1 tp [BX f]) (i64 C.1) [0] AN (hb 83) (Ay g5) rfl AA ?_;refine bs h0 λj R h0=>zz (dL C.1) (CD BF AA AA AA AA R) rfl (zz (i64 j) (CG Hy AA AA (CS R) rfl) rfl (AS AA (dn g4 AA (sr AA λq6 g6=>Ac 3 AA (bs h0 λD S h0=>zz (LB j) (CD Cd AA AA AA AA S) rfl (AS AA (zz (ls eI D.params) (CG LS AA AA (CS S) rfl) rfl (AS AA ?_))))))));refine dn g6 AA (sr AA λq7 g7=>?_);refine CC 5 ([]:List AD) Ar BZ (by simp only[List.map,Af];rfl) ?_;refine AS AA (dn g7 AA (AE λl7 g8=>Ap AA (bs h0 λY a h0=>?_)));have l8:∀E F,Y=(E,F)->∀s,Wk 2 s ⟨118,AP [(6,CY),(13,i64 j),(15,ow 3 0 F)],Dz tm E s1 [Jj,G7 F]⟩->l7 s:=by
     rintro E F rfl s t;refine g8 _ (AG t (sr AA λq8 g9=>Ac 2 AA (Au (Wk.BY (L:=[(6,CY),(112,i64 j),(113,Hd F)]) (st':=Dz tm E s1 [Jj,D0]) (id:=3) rfl ta (Ah Aa) ⟨.rfl,.rfl,.BY AA,pA⟩ AA) (bs h0 λk h3 h0=>Df (Bc k) (hb 114) (BS h3) rfl (Bw BI AA (dn g9 AA ?_))))));cases h0;exact An ⟨_,(AM (L:=[(6,CY)]) (st':=Dz tm E s1 [Jl k.op k.num k.kids]) [0,1,2] AA AA (.w (.p (.w .nil))) ⟨.rfl,pA⟩).trans (Ag (L:=[(6,CY)]) ⟨.rfl,pA⟩),FX (.tmp 6) (Lh k) BI AA _ ⟨AA,AA⟩⟩
    refine AK (Am (σ:=Int×Int×(List AD)) (λn v=>EA D tm s1 tp uD n v.1 v.2.1 v.2.2=some Y) (λ(G,M,o)=>⟨118,AP [(0,.ptr 0 0 0 0),(4,.ptr 2 0 0 0),(6,.ptr 3 0 0 0),(13,i64 j),(14,ls eI D.params),(15,ow 4 0 o),(16,i64 G)],[FB tm M,ro 0 37 5 BT s1,⟨0,26,2,[[ls Ai tp,ow 1 0 s1]]⟩,Jj,ro 0 35 3 Ar o]⟩) N (0,C.2,[]) a (AM [0,1,2,3,5] AA AA (.w (.p (.w (.w (.pure (Ah Aa) .nil))))) (.same AA)) (λ_ hv=>by rw[EA]at hv;cases hv) ?_);rintro n ⟨G,M,o⟩ a;rw[EA]at a;refine AE λq9 h4=>sr AA λt0 h5=>Ac 3 AA (CZ AA (AS AA (dn h5 AA ?_)));refine ci a AA ?_ ?_<;>intro t1 a
    .refine AH (h4 _ (AE λt2 h6=>AK ?_));refine L0 (KL s1 tp [Jj,G7 o]) 9 ?_;refine BL (ow 4 0 o) AN AA (λ_ _=>BP AA) (BL BG AN AA (λ_ _=>BP AA) (BL (H2 tp s1) AN AA (λ_ _=>Cq D5 AA AA AA tM rfl) (BL (ls eI D.params) AN AA (λ_ _=>BP AA) (BL (i64 G) AN AA (λ_ _=>BP AA) (bs a λh7 h8 a=>BL (UB h7) AN AA (λ_ _=>CR BF AA AA h8 AA) (BL (i64 h7) AN AA (λ_ _=>IP Hy AA AA) (bs a λd h9 a=>?_)))))));refine PX (DV d.1.op d.1.num d.1.kids) (FB tm d.2) [0,1] AN (hb 146) (vY h9) rfl (λ_=>AA) (λ_=>AA) (λ_=>AA) ?_;refine F3 AN (λx0 zz=>Gu (l:=[d.1]) (enc:=Ar) AN BZ (by decide) rfl AA AA (by simp only[List.map,Af];rfl) rfl (Ah Aa) (As AA)) ?_;exact FU AA (bs a λZ k0 a=>Cs (l2:=[d.1]) AN BZ AA AA AA AA Mi DY k0 AA (AS AA (dn h6 AA (AF AA (Ac 3 AA (AB (xi (Sh.w (G+1),d.2,Z) a (D3 (L:=[(0,BG),(4,CY),(6,IH),(13,i64 j),(14,ls eI D.params),(15,ow 4 0 Z),(16,Kr G)]) (st':=HJ tm d.2 s1 tp [G7 Z]) (.raw AA AA AA (.pure AA Bn (.raw AA AA AA (.raw AA AA AA (.pure AA (Ah Aa) .nil))))) (.same AA)))))))))
    .exact Av (l8 M o (AT a) _ (AM [0,1,3,4] AA AA (.w (.p (.w (.pure (Ah Aa) .nil)))) (.same AA)))
   .refine AH (g0 _ (sr AA λt3 k1=>AS AA (bs h0 λO k2 h0=>?_)));refine Hl (HJ tm O.2 s1 tp [BX f]) (i64 O.1) [0] AN (hb 143) (Oe k2) rfl AA ?_;refine bs h0 λp k3 h0=>Df (Bc p) (hb 115) (Dh k3) rfl (Bw BI AA (dn k1 AA ?_));cases h0;exact An ⟨_,(AM (L:=[(6,CY)]) (st':=Dz tm O.2 s1 [Jl p.op p.num p.kids]) [0,1,3] AA AA (.w (.p (.w .nil))) ⟨.rfl,pA⟩).trans (Ag (L:=[(6,CY)]) ⟨.rfl,pA⟩),FX (.tmp 6) (Lh p) BI AA _ ⟨AA,AA⟩⟩
  refine AF AA (Ac 3 AA ?_);rcases Sh.Ad a with ⟨e,a⟩|⟨e,a⟩
  .refine Aw e AA (BW (v:=HC f) (CQ AA AA e) rfl (DD Gc AA AA AA) (Aw e AA (zt e AA ?_)));exact AB (g3 (decide (0<Sh.len f)) (AT a) _ (AM [0,1,2,3,5] AA AA (.w (.p (.w (.w (.p .nil))))) (.same AA)))
  .refine zs e AA (zs e AA (zs e AA (zf e AA ?_)));exact AB (g3 false (AT a) _ (AM [0,1,2,3,5] AA AA (.w (.p (.w (.w (.p .nil))))) (.same AA)))
theorem Ri {N:Nat}:∀(n:Nat),∀{tm:List Int} {tu:Int} {s1:List AU} {tp:List AL} {p2:Int} {r:AD×Int},Dj N n tm tu s1 tp p2=some r->Bd 146 [BG,H2 tp s1,i64 p2] (Dz tm tu s1 []) (DV r.1.op r.1.num r.1.kids) (Dz tm r.2 s1 []):=by
 intro n
 induction n with
 |zero=>intro tm tu s1 tp p2 r a;cases a
 |succ n ih=>
  intro tm tu s1 tp p2 r a;rw[Dj]at a;exact Rq (λh=>ih h) a
theorem UK {N:Nat}:∀{tm:List Int} {tu:Int} {s1:List AU} {tp:List AL} {p2:Int} {r:AD×Int},NW N tm tu s1 tp p2=some r->Bd 146 [BG,H2 tp s1,i64 p2] (Dz tm tu s1 []) (DV r.1.op r.1.num r.1.kids) (Dz tm r.2 s1 []):=by
 intro tm tu s1 tp p2 r a;exact Ri N a
theorem JP {N:Nat}{tm:List Int}{tu:Int}{s1:List AU}{tp:List AL}{p2:List Int}{p3:Int}{r:AD×Int}(h0:IL N tm tu s1 tp p2 p3=some r):Bd 136 [BG,H2 tp s1,ls eI p2,i64 p3] (Dz tm tu s1 []) (DV r.1.op r.1.num r.1.kids) (Dz tm r.2 s1 []):=by
 unfold IL at h0;refine BJ.wk (r0:=DV r.1.op r.1.num r.1.kids) (st0:=Dz tm r.2 s1 [Jl r.1.op r.1.num r.1.kids]) ?_ (D2 (L:=[(0,DV r.1.op r.1.num r.1.kids)]) (st':=Dz tm r.2 s1 []) [0,1] AA (by decide) rfl AA (.raw AA (.pure Bn pA)) (.same AA));refine ai Tryz.func136 AA AA AA AA (sr AA λM y=>Ef 2 AA (DE 3 De AA (dn y AA (sr AA λO z=>Ac 2 AA (bs h0 λg A h0=>Bo (v':=ow 4 0 g) AN (hb 144) (R0 A) rfl AA ⟨(Bq λ_=>AA),pA⟩ AA AA (AS AA (dn z AA (AE λP B=>?_))))))));refine AE λH C=>bs h0 λG e h0=>?_;have D:∀E k,G=(E,k)->∀s,Wk 2 s ⟨40,AP [(0,BG),(3,i64 p3),(5,CY),(8,IH),(9,ow 4 0 g),(27,.bool E)],HJ tm k s1 tp [BX g]⟩->H s:=by
  rintro E k rfl s I;refine C _ (AG I ?_);refine ci h0 AA ?_ ?_<;>intro R h0
  .refine sr AA λJ n=>Ac 3 AA (zz (HC g) (DD Gc AA AA AA) rfl (bs h0 λh o h0=>?_));refine Hl (HJ tm h.2 s1 tp [BX g]) (i64 h.1) [0] AN (hb 83) (Ay o) rfl AA ?_;refine bs h0 λF i h0=>zz (dL h.1) (CD BF AA AA AA AA i) rfl (zz (i64 F) (CG Hy AA AA (CS i) rfl) rfl (bs h0 λf p h0=>Df (Bc f) (hb 116) (CK p) rfl (Bw BI AA (dn n AA ?_))));cases h0;exact An ⟨_,(AM (L:=[(8,CY)]) (st':=Dz tm h.2 s1 [Jl f.op f.num f.kids]) [0,1,3] AA AA (.w (.p (.w .nil))) ⟨.rfl,pA⟩).trans (Ag (L:=[(8,CY)]) ⟨.rfl,pA⟩),FX (.tmp 8) (Lh f) BI AA _ ⟨AA,AA⟩⟩
  .refine AH (B _ (sr AA λK q=>Ac 3 AA (bs h0 λa t h0=>?_)));refine Ov (HJ tm a.2 s1 tp [BX g]) (DV a.1.op a.1.num a.1.kids) [0,1] AN (hb 146) (UK t) rfl AA (λ_=>AA) (λ_=>AA) ?_;refine Bw BI AA (dn q AA ?_);cases h0;exact An ⟨_,(AM (L:=[(8,CY)]) (st':=Dz tm a.2 s1 [Jl a.1.op a.1.num a.1.kids]) [0,1,3] AA AA (.w (.p (.w .nil))) ⟨.rfl,pA⟩).trans (Ag (L:=[(8,CY)]) ⟨.rfl,pA⟩),FX (.tmp 8) (Ts a.1.op a.1.num a.1.kids) BI AA _ ⟨AA,AA⟩⟩
 refine AF AA (AS AA (zz (HC g) (DD Gc AA AA AA) rfl (Ac 2 AA ?_)));rcases Sh.Ad e with ⟨b,e⟩|⟨b,e⟩
 .refine Aw b AA (bs e λd u e=>?_);refine Hl (HJ tm d.2 s1 tp [BX g]) (i64 d.1) [0] (CQ AA AA b) (hb 83) (Ay u) rfl AA ?_;refine Aw b AA (Aw b AA ?_);rcases Sh.Ad e with ⟨c,e⟩|⟨c,e⟩
  .refine zs c AA ?_;iterate 4 refine zs c rfl ?_
   exact BW (v:=.bool true) (CQ AA AA b) rfl (LG AA c AA) (zt b AA (AB (D true d.2 (AT e) _ Ao)))
  .refine Aw c AA ?_;refine Sy (m:=5) (l:=([]:List Int)) (enc:=eI) (CQ AA AA c) BF (by decide) rfl AA AA AA AA AA ?_;refine Aw c AA (Ea [(0,BG),(3,i64 p3),(5,CY),(8,IH),(9,ow 4 0 g),(16,.bool (decide (0<Sh.len g))),(20,.bool (decide (0<d.1))),(21,H2 tp s1),(22,Rw),(23,i64 p3)] (HJ tm d.2 s1 tp [BX g,⟨1,3,1,[]⟩]) 5 AA ⟨.rfl,.rfl,.rfl,.rfl,.rfl,.rfl,.rfl,.agg ⟨.rfl,.rfl,pA⟩,.BY AA,.rfl,pA⟩ (λ_=>AA) rfl (bs e λj w e=>Lz (v':=.bool j) (CQ AA AA c) (hb 145) (J9 w) rfl (.agg (.val AA (.own AA AA (λ_=>AA) .nil)) (.val AA (.val AA .nil))) rfl pA AA AA (Aw c AA (BW (v:=.bool (!j)) (CQ AA AA b) rfl (L8 AA c AA) (zt b AA ?_)))));exact AB (D (!j) d.2 (AT e) _ (AM [0,1,2,3,4] AA AA (.w (.p (.w (.w (.p .nil))))) (.same AA)))
 .refine zs b AA ?_;iterate 3 refine zs b rfl ?_
  iterate 5 refine zn rfl ?_
  exact zs b AA (zf b AA (AB (D false tu (AT e) _ Ao)))
theorem VC {N:Nat}{tm:List Int}{tu:Int}{s1:List AU}{tp:List AL}{p2:List Int}{r:Int×Int}(h0:KU N tm tu s1 tp p2=some r):Bd 138 [BG,H2 tp s1,ls eI p2] (Dz tm tu s1 []) (i64 r.1) (Dz tm r.2 s1 []):=by
 unfold KU at h0;refine ai Tryz.func138 AA AA AA AA (sr AA λt f=>Ef 2 AA (AS AA (dn f AA (sr AA λu g=>AS AA ?_))));refine CC 3 [(1:Int),1,3,0,2,4,3] eI BF AA ?_;refine Ea [(2,ls eI p2),(4,CY),(8,BG),(9,ls eI [(1:Int),1,3,0,2,4,3])] (Dz tm tu s1 [eW tp s1,⟨1,3,1,[]⟩]) 3 AA ⟨.rfl,.rfl,.rfl,.BY AA,pA⟩ (λ_=>AA) rfl (bs h0 λc h h0=>?_);refine Hl (Dz tm c.2 s1 [eW tp s1,⟨1,3,1,[]⟩]) (i64 c.1) [0] AN (hb 70) (Bm h) rfl AA ?_;refine AS AA (dn g AA (AE λw i=>AE λp j=>bs h0 λn b h0=>?_));have o:∀k,n=k->∀s,Wk 2 s ⟨24,AP [(7,i64 c.1),(22,.bool k)],Dz tm c.2 s1 []⟩->p s:=by
  intro k x s q;subst n;refine j _ (AG q ?_);refine ci h0 AA ?_ ?_<;>intro y h0
  .refine Ap AA ?_;cases h0;exact rt [(6,i64 1)]
  .refine AH (i _ (Ap AA ?_));cases h0;exact rt [(6,i64 c.1)]
 refine AF AA (Ac 3 AA (CZ AA (Ac 2 AA ?_)));rcases Sh.Ad b with ⟨a,b⟩|⟨a,b⟩
 .refine zs a AA ?_;iterate 4 refine zs a rfl ?_
  refine zt a AA ?_;exact AB (o true (AT b) _ (AM [0,1] AA AA (.w (.p .nil)) (.same AA)))
 .refine Aw a AA (Aw a AA (Aw a AA (bs b λd e b=>Lz (v':=.bool d) (CQ AA AA a) (hb 145) (J9 e) rfl (.agg (.val AA (.own AA AA (λ_=>AA) .nil)) (.val AA (.val AA .nil))) rfl pA AA AA (Aw a AA (zf a AA ?_)))));exact AB (o (!d) (AT b) _ (AM [0,1] AA AA (.w (.p .nil)) (.same AA)))
theorem LU {p0 r:List Int}(h0:Fu p0=some r):Bd 62 [ls eI p0] [] (ow 0 0 r) [BX r]:=by
 unfold Fu at h0;refine ai Tryz.func62 AA AA AA AA (Ap AA (sr AA λd a=>?_));refine CC 0 ([]:List Int) eI BF AA ?_;refine AS AA (bs h0 λc b h0=>Cs (l2:=p0) AN BF AA AA AA AA Mi (λ_=>AA) b AA (AS AA (dn a AA ?_)));obtain rfl:=Sh.Bf h0;exact An (xr (Da (L:=[(2,ow 0 0 c)]) (st':=[BX c]) (.pure Bn .nil) (.same AA)))
theorem F7 {p0 p1 r:List Int}(h0:Ex p0 p1=some r):Bd 85 [ls eI p0,ls eI p1] [] (ow 0 0 r) [BX r]:=by
 unfold Ex at h0;refine ai Tryz.func85 AA AA AA AA (Ap AA (sr AA λf a=>AS AA (bs h0 λe b h0=>Bo (v':=ow 0 0 e) AN (hb 62) (LU b) rfl AA ⟨(Bq λ_=>AA),pA⟩ AA AA (AS AA (bs h0 λd c h0=>Cs (l2:=p1) AN BF AA AA AA AA Mi (λ_=>AA) c AA (AS AA (dn a AA ?_)))))));obtain rfl:=Sh.Bf h0;exact An (xr (Da (L:=[(4,ow 0 0 d)]) (st':=[BX d]) (.pure Bn .nil) (.same AA)))
theorem JI {N:Nat}{tv:(List Int)->Int->(List AU)->(List AL)->(List Int)->Int->Int->Option (AD×Int)}(uI :∀{tm:List Int} {tu:Int} {s1:List AU} {tp:List AL} {p2:List Int} {p3:Int} {p4:Int} {r:AD×Int},tv tm tu s1 tp p2 p3 p4=some r->Bd 134 (Yq tp s1 p2 p3 p4) (Dz tm tu s1 []) (DV r.1.op r.1.num r.1.kids) (Dz tm r.2 s1 [])){tm:List Int}{tu:Int}{s1:List AU}{tp:List AL}{p2 p3:List Int}{p4:Int}{r:(List AD)×Int}(h0:GV N tv tm tu s1 tp p2 p3 p4=some r):Bd 139 [BG,H2 tp s1,ls eI p2,ls eI p3,i64 p4] (Dz tm tu s1 []) (ow 2 0 r.1) (Dz tm r.2 s1 [G7 r.1]):=by
 unfold GV at h0;refine ai Tryz.func139 AA AA AA AA (sr AA λK x=>Ef 2 AA (AS AA (dn x AA (sr AA λM y=>?_))));refine CC 3 ([]:List AD) Ar BZ (by simp only[List.map,Af];rfl) ?_;refine AS AA (dn y AA (AE λE z=>Ap AA (bs h0 λc b h0=>?_)));have A:∀B f,c=(B,f)->∀s,Wk 2 s ⟨36,AP [(11,ow 2 0 f)],Dz tm B s1 [G7 f]⟩->E s:=by
  rintro B f rfl s F;refine z _ (AG F (Ap AA ?_));cases h0;exact rt [(10,ow 2 0 f)]
 refine AK (Am (σ:=Int×Int×(List AD)) (λn v=>F6 tm s1 tp p2 p3 p4 tv n v.1 v.2.1 v.2.2=some c) (λ(g,u,e)=>⟨36,AP [(0,.ptr 0 0 0 0),(2,ls eI p2),(3,ls eI p3),(4,i64 p4),(6,.ptr 2 0 0 0),(11,ow 3 0 e),(12,i64 g)],[FB tm u,ro 0 37 5 BT s1,⟨0,26,2,[[ls Ai tp,ow 1 0 s1]]⟩,ro 0 35 3 Ar e]⟩) N (0,tu,[]) b Ao (λ_ D=>by rw[F6]at D;cases D) ?_);rintro n ⟨g,u,e⟩ b;rw[F6]at b;refine AE λG h=>sr AA λH i=>Ac 2 AA (CZ AA (AS AA (dn i AA ?_)));refine ci b AA ?_ ?_<;>intro I b
 .refine AH (h _ (AE λJ j=>AK ?_));refine L0 (KL s1 tp [G7 e]) 14 ?_;refine BL (ow 3 0 e) AN AA (λ_ _=>BP AA) (BL BG AN AA (λ_ _=>BP AA) (BL (H2 tp s1) AN AA (λ_ _=>Cq D5 AA AA AA tM rfl) (BL (ls eI p2) AN AA (λ_ _=>BP AA) (BL (ls eI p3) AN AA (λ_ _=>BP AA) (BL (i64 g) AN AA (λ_ _=>BP AA) (bs b λk o b=>BL (UB k) AN AA (λ_ _=>CR BF AA AA o AA) (BL (i64 k) AN AA (λ_ _=>IP Hy AA AA) (BL (i64 p4) AN AA (λ_ _=>BP AA) (BL (ls eI p3) AN AA (λ_ _=>BP AA) (BL (HC p3) AN AA (λ_ _=>CU Gc AA) ?_))))))))));refine bs b λC p b=>BL (i64 C) AN AA (λ_ _=>Xl AA AA p) (bs b λa q b=>?_);refine PX (DV a.1.op a.1.num a.1.kids) (FB tm a.2) [0,1] AN (hb 134) (uI q) rfl (λ_=>AA) (λ_=>AA) (λ_=>AA) ?_;refine F3 AN (λP zz=>Gu (l:=[a.1]) (enc:=Ar) AN BZ (by decide) rfl AA AA (by simp only[List.map,Af];rfl) rfl (Ah Aa) (As AA)) ?_;exact FU AA (bs b λd t b=>Cs (l2:=[a.1]) AN BZ AA AA AA AA Mi DY t AA (AS AA (dn j AA (AF AA (Ac 3 AA (AB (xi (Sh.w (g+1),a.2,d) b (D3 (L:=[(0,BG),(2,ls eI p2),(3,ls eI p3),(4,i64 p4),(6,CY),(11,ow 3 0 d),(12,Kr g)]) (st':=Dz tm a.2 s1 [eW tp s1,G7 d]) (.raw AA AA AA (.pure AA Bn (.raw AA AA AA (.pure AA (Ah Aa) .nil)))) (.same AA)))))))))
 .exact Av (A u e (AT b) _ (AM [0,1,3] AA AA (.w (.p (.pure (Ah Aa) .nil))) (.same AA)))
theorem UH {N:Nat}{tv:(List Int)->Int->(List AU)->(List AL)->(List Int)->Int->Int->Option (AD×Int)}(uI :∀{tm:List Int} {tu:Int} {s1:List AU} {tp:List AL} {p2:List Int} {p3:Int} {p4:Int} {r:AD×Int},tv tm tu s1 tp p2 p3 p4=some r->Bd 134 (Yq tp s1 p2 p3 p4) (Dz tm tu s1 []) (DV r.1.op r.1.num r.1.kids) (Dz tm r.2 s1 [])){tm:List Int}{tu:Int}{s1:List AU}{tp:List AL}{p2:List Int}{p3 p4:Int}{r:AD×Int}(h0:Jv N tv tm tu s1 tp p2 p3 p4=some r):Bd 140 (Yq tp s1 p2 p3 p4) (Dz tm tu s1 []) (DV r.1.op r.1.num r.1.kids) (Dz tm r.2 s1 []):=by
 unfold Jv at h0;refine BJ.wk (r0:=DV r.1.op r.1.num r.1.kids) (st0:=Dz tm r.2 s1 [Jl r.1.op r.1.num r.1.kids]) ?_ (D2 (L:=[(0,DV r.1.op r.1.num r.1.kids)]) (st':=Dz tm r.2 s1 []) [0,1] AA (by decide) rfl AA (.raw AA (.pure Bn pA)) (.same AA));refine ai Tryz.func140 AA AA AA AA (sr AA λK1 U=>Ef 2 AA (DE 3 De AA (dn U AA (sr AA λK2 V=>AS AA ?_))));refine CC 4 [(1:Int),1,3,4] eI BF AA ?_;refine Ea (Rz p2 p3 p4 [(15,BG),(16,ls eI [(1:Int),1,3,4])]) (HJ tm tu s1 tp [⟨1,3,1,[]⟩]) 4 AA ⟨.rfl,.rfl,.rfl,.rfl,.rfl,.rfl,.rfl,.BY AA,pA⟩ (λ_=>AA) rfl (bs h0 λo W h0=>?_);refine Hl (HJ tm o.2 s1 tp [⟨1,3,1,[]⟩]) (i64 o.1) [0] AN (hb 70) (Bm W) rfl AA ?_;refine AS AA (dn V AA (AE λK4 X=>bs h0 λo6 a h0=>?_));have M6:∀q,o6=q->∀s,Wk 2 s ⟨69,AP (Rz p2 p3 p4 [(11,i64 q)]),HJ tm o.2 s1 tp []⟩->K4 s:=by
  intro q hq s A;subst o6;refine X _ (AG A (sr AA λK7 Y=>Ac 3 AA (bs h0 λh Z h0=>Bo (v':=ow 4 0 h) AN (hb 104) (JA Z) rfl AA ⟨(Bq λ_=>AA),pA⟩ AA AA (AS AA (dn Y AA (sr AA λK9 b0=>Ac 4 AA (bs h0 λd B h0=>?_)))))));refine Ov (HJ tm d.2 s1 tp [BX h]) (DV d.1.op d.1.num d.1.kids) [0,1] AN (hb 136) (JP B) rfl AA (λ_=>AA) (λ_=>AA) ?_;refine CC 5 [d.1] Ar BZ (by simp only[List.map,Af];rfl) ?_;refine AS AA (dn b0 AA (AE λb1 C=>Ap AA (bs h0 λt a h0=>?_)));have b2:∀i j,t=(i,j)->∀s,Wk 2 s ⟨69,AP [(10,CY),(11,i64 q),(13,ow 3 0 j)],Dz tm i s1 [Jj,G7 j]⟩->b1 s:=by
   rintro i j rfl s A;refine C _ (AG A (sr AA λb8 D=>Ac 2 AA (Au (Wk.BY (L:=[(10,CY),(66,i64 q),(67,Hd j)]) (st':=Dz tm i s1 [Jj,D0]) (id:=3) rfl ta (Ah Aa) ⟨.rfl,.rfl,.BY AA,pA⟩ AA) (bs h0 λe E h0=>Df (Bc e) (hb 114) (BS E) rfl (Bw BI AA (dn D AA ?_))))));cases h0;exact An ⟨_,(AM (L:=[(10,CY)]) (st':=Dz tm i s1 [Jl e.op e.num e.kids]) [0,1,2] AA AA (.w (.p (.w .nil))) ⟨.rfl,pA⟩).trans (Ag (L:=[(10,CY)]) ⟨.rfl,pA⟩),FX (.tmp 10) (Lh e) BI AA _ ⟨AA,AA⟩⟩
  refine AK (Am (σ:=Int×Int×(List AD)) (λn v=>EO N tm s1 tp p2 p3 p4 h tv n v.1 v.2.1 v.2.2=some t) (λ(f,k,g)=>⟨69,AP [(0,.ptr 0 0 0 0),(2,ls eI p2),(3,i64 p3),(4,i64 p4),(6,.ptr 2 0 0 0),(10,.ptr 3 0 0 0),(11,i64 q),(12,ow 4 0 h),(13,ow 5 0 g),(14,i64 f)],[FB tm k,ro 0 37 5 BT s1,⟨0,26,2,[[ls Ai tp,ow 1 0 s1]]⟩,Jj,ro 0 3 1 eI h,ro 0 35 3 Ar g]⟩) N (0,d.2,[d.1]) a Ao (λ_ hv=>by rw[EO]at hv;cases hv) ?_);rintro n ⟨f,k,g⟩ a;rw[EO]at a;refine AE λb9 F=>sr AA λc0 G=>Ac 2 AA (zz (HC h) (DD Gc AA AA AA) rfl (AS AA (dn G AA ?_)));refine ci a AA ?_ ?_<;>intro c1 a
  .refine AH (F _ (AE λc2 H=>AK ?_));refine L0 (KL s1 tp [Jj,BX h,G7 g]) 20 ?_;refine BL (ow 5 0 g) AN AA (λ_ _=>BP AA) (BL BG AN AA (λ_ _=>BP AA) (BL (H2 tp s1) AN AA (λ_ _=>Cq D5 AA AA AA tM rfl) (BL (ls eI p2) AN AA (λ_ _=>BP AA) (BL CY AN AA (λ_ _=>FT Wr AA AA tc rfl) (BL (D4 tp) AN AA (λ_ _=>CG dJ AA AA AA AA) (BL (ow 4 0 h) AN AA (λ_ _=>BP AA) (BL (i64 f) AN AA (λ_ _=>BP AA) (bs a λb3 p a=>BL (dL f) AN AA (λ_ _=>CD BF AA AA AA AA p) (BL (i64 b3) AN AA (λ_ _=>CG Hy AA AA (CS p) rfl) (bs a λb4 I a=>?_))))))))));refine F3 AN (λx0 zz=>BU (v:=ls eI b4) AN (hb 99) (FK I) rfl AA AA (As AA)) (bs a λJ K a=>?_);refine F3 AN (λx0 zz=>BU (v:=ls eI J) AN (hb 85) (BJ.wk (F7 K) (by refine Wk.trans (Wk.BY (L:=[(0,ls eI J)]) (st':=UY) (id:=0) rfl tN Bn ⟨.BY AA,pA⟩ AA) ?_;exact AM [] AA AA .nil (.same AA))) rfl AA AA (As AA)) ?_;refine BL (i64 p3) AN AA (λ_ _=>BP AA) (BL (i64 p4) AN AA (λ_ _=>BP AA) (BL (i64 (Sh.w (p4-2))) AN AA (λ_ _=>Pp AA AA) (BL (ow 4 0 h) AN AA (λ_ _=>BP AA) (BL (HC h) AN AA (λ_ _=>DD Gc AA AA AA) (bs a λb5 M a=>BL (i64 b5) AN AA (λ_ _=>Xl AA AA M) (bs a λb O a=>?_))))));refine PX (DV b.1.op b.1.num b.1.kids) (FB tm b.2) [0,1] AN (hb 134) (uI O) rfl (λ_=>AA) (λ_=>AA) (λ_=>AA) ?_;refine F3 AN (λx0 zz=>Gu (l:=[b.1]) (enc:=Ar) AN BZ (by decide) rfl AA AA (by simp only[List.map,Af];rfl) rfl (Ah Aa) (As AA)) ?_;exact FU AA (bs a λu P a=>Cs (l2:=[b.1]) AN BZ AA AA AA AA Mi DY P AA (AS AA (dn H AA (AF AA (Ac 3 AA (AB (xi (Sh.w (f+1),b.2,u) a (D3 (L:=Rz p2 p3 p4 [(11,i64 q),(12,ow 4 0 h),(13,ow 5 0 u),(14,Kr f)]) (st':=HJ tm b.2 s1 tp [BX h,G7 u]) (.raw AA AA AA (.pure AA Bn (.raw AA AA AA (.raw AA AA AA (.pure AA Bn (.pure AA (Ah Aa) .nil)))))) (.same AA)))))))))
  .exact Av (b2 k g (AT a) _ (AM [0,1,3,5] AA AA (.w (.p (.w (.pure (Ah Aa) .nil)))) (.same AA)))
 refine AE λb6 Q=>bs a λR y a=>?_;have S:∀z,R=z->∀s,Wk 2 s ⟨69,AP (Rz p2 p3 p4 [(11,i64 o.1),(28,.bool z)]),HJ tm o.2 s1 tp []⟩->b6 s:=by
  intro z hq s A;subst R;refine Q _ (AG A ?_);refine ci a AA ?_ ?_<;>intro c3 a
  .exact AF AA (AS AA (AB (M6 1 (AT a) _ Ao)))
  .exact AH (M6 o.1 (AT a) _ Ao)
 refine AF AA (Ac 3 AA (CZ AA (Ac 2 AA ?_)));rcases Sh.Ad y with ⟨c,y⟩|⟨c,y⟩
 .refine zs c AA ?_;iterate 3 refine zs c rfl ?_
  refine zt c AA ?_;exact AB (S true (AT y) _ (AM [0,1,2,3] AA AA (.w (.p (.w (.w .nil)))) (.same AA)))
 .refine Aw c AA (Aw c AA (Aw c AA (bs y λb7 T y=>zd c (hb 102) (KI T) rfl AA AA AA (zf c AA ?_))));exact AB (S b7 (AT y) _ (AM [0,1,2,3] AA AA (.w (.p (.w (.w .nil)))) (.same AA)))
theorem Tc {N:Nat}{p0:AJ}{p1:Int}{r:List Int}(h0:J2 N p0 p1=some r):Bd 141 [KT p0,i64 p1] [] (ow 0 0 r) [BX r]:=by
 unfold J2 at h0;refine ai Tryz.func141 AA AA AA AA (sr AA λK1 S=>Ef 0 AA (AS AA (dn S AA (sr AA λK2 T=>?_))));refine CC 1 ([]:List Int) eI BF AA ?_;refine AS AA (dn T AA (AE λK3 U=>Ap AA (bs h0 λV c h0=>?_)));have M8:∀y,V=y->∀s,Wk 0 s ⟨57,AP [(5,ow 0 0 y)],[BX y]⟩->K3 s:=by
  intro y W s q;subst V;try dsimp only at h0
  refine U _ (AG q (Ap AA ?_));obtain rfl:=Sh.Bf h0;exact rt [(4,ow 0 0 y)]
 refine AK (Am (σ:=Int×(List Int)) (λn v=>E1 N p0 p1 n v.1 v.2=some V) (λ(f,g)=>⟨57,AP [(1,i64 p1),(2,.ptr 0 0 0 0),(5,ow 1 0 g),(6,i64 f)],[Yd p0.decls p0.funcs,ro 0 3 1 eI g]⟩) N (1,[]) c Ao (λ_ z=>by rw[E1]at z;cases z) ?_);rintro n ⟨f,g⟩ c;rw[E1]at c;refine AE λb2 A=>sr AA λb3 B=>Ac 3 AA (CZ AA (AS AA (dn B AA ?_)));refine ci c AA ?_ ?_<;>intro b4 c
 .refine AH (A _ (AE λX C=>bs c λD d c=>?_));have E:∀h,D=h->∀s,Wk 0 s ⟨57,AP (eu p1 h f []),[Yd p0.decls p0.funcs,BX h]⟩->X s:=by
   intro h W s q;subst D;exact C _ (AG q (AF AA (Ac 3 AA (AB (xi (Sh.w (f+1),h) c Ao)))))
  refine AK (sr AA λb5 F=>Ac 3 AA (bs d λt i d=>zx Cd i AA AA AA (Ac 5 AA (dn F AA (AE λY G=>Ap AA (bs d λu e d=>?_))))));have Z:∀j,u=j->∀s,Wk 0 s ⟨57,AP (eu p1 g f [(7,.bool j)]),[Yd p0.decls p0.funcs,BX g]⟩->Y s:=by
   intro j W s q;subst u;refine G _ (AG q (Ap AA ?_));refine ci d AA ?_ ?_<;>intro b6 d
   .refine AF AA (Ac 2 AA ?_);refine CC 2 [f] eI BF AA ?_;refine bs d λx H d=>Cs (l2:=[f]) AN BF AA AA AA AA (HG AA AA) (λ_=>AA) H AA (AS AA ?_);exact AB (E x (AT d) _ (by refine Wk.trans (Da (L:=eu p1 x f []) (st':=[Yd p0.decls p0.funcs,BX x,Ta f]) (.raw AA AA (.pure Bn (.pure Bn .nil))) (.same AA)) ?_;exact AM [0,1] AA AA (.w (.p .nil)) (.same AA)))
   .exact AH (E g (AT d) _ Ao)
  refine AK (Am (σ:=Bool×Int) (λn v=>E0 N t p0 n v.1 v.2=some u) (λ(k,o)=>⟨57,AP [(1,i64 p1),(2,.ptr 0 0 0 0),(5,ow 1 0 g),(6,i64 f),(7,.bool k),(8,i64 o)],[Yd p0.decls p0.funcs,ro 0 3 1 eI g]⟩) N (decide (t.result=p1),0) e Ao (λ_ z=>by rw[E0]at z;cases z) ?_);rintro n ⟨k,o⟩ e;rw[E0]at e;refine AE λb7 I=>sr AA λb8 J=>Ac 4 AA (zx Cd i AA AA AA (Ac 2 AA (CZ AA (AS AA (dn J AA ?_)))));refine ci e AA ?_ ?_<;>intro b9 e
  .refine AH (I _ (AE λb0 K=>bs e λM p e=>?_));have O:∀b,M=b->∀s,Wk 0 s ⟨57,AP (eu p1 g f [(7,.bool b),(8,i64 o)]),[Yd p0.decls p0.funcs,BX g]⟩->b0 s:=by
    intro b W s q;subst M;exact K _ (AG q (AF AA (Ac 3 AA (AB (xi (b,Sh.w (o+1)) e Ao)))))
   refine AK ?_;refine CI 15 (by kernel_rfl) (by kernel_rfl) (by rfl) ?_;iterate 2 refine yq tb rfl ?_
   rcases Sh.Ad p with ⟨a,p⟩|⟨a,p⟩
   .refine yg tb a AA ?_;refine Gu (l:=([]:List Int)) (enc:=eI) (CQ AA AA a) BF (by decide) rfl AA AA AA AA Bn ?_;iterate 3 refine yg tb a rfl ?_
    refine H3 (v:=Rr t) (CQ AA AA a) rfl (CR Cd AA AA i AA) ?_;iterate 3 refine yg tb a rfl ?_
    exact bs p λb1 P p=>H3 (v:=UB b1) (CQ AA AA a) rfl (CR BF AA AA P AA) (yg tb a AA (bs p λQ R p=>BU (v:=.bool Q) (CQ AA AA a) (hb 145) (J9 R) rfl AA AA (yt a AA (As (AS AA (AB (O Q (AT p) _ Ao)))))))
   .refine ys a AA ?_;iterate 11 refine ys a rfl ?_
    exact yf a AA (As (AS AA (AB (O false (AT p) _ Ao))))
  .exact Av (Z k (AT e) _ Ao)
 .exact Av (M8 g (AT c) _ (AM [1] AA AA (.p .nil) (.same AA)))
theorem TJ {N:Nat}{tv:(List Int)->Int->(List AU)->(List AL)->(List Int)->Int->Int->Option (AD×Int)}(uI :∀{tm:List Int} {tu:Int} {s1:List AU} {tp:List AL} {p2:List Int} {p3:Int} {p4:Int} {r:AD×Int},tv tm tu s1 tp p2 p3 p4=some r->Bd 134 (Yq tp s1 p2 p3 p4) (Dz tm tu s1 []) (DV r.1.op r.1.num r.1.kids) (Dz tm r.2 s1 [])){tm:List Int}{tu:Int}{s1:List AU}{tp:List AL}{p2:List Int}{p3 p4:Int}{r:AD×Int}(h0:J5 N tv tm tu s1 tp p2 p3 p4=some r):Bd 142 (Yq tp s1 p2 p3 p4) (Dz tm tu s1 []) (DV r.1.op r.1.num r.1.kids) (Dz tm r.2 s1 []):=by
 unfold J5 at h0;refine BJ.wk (r0:=DV r.1.op r.1.num r.1.kids) (st0:=Dz tm r.2 s1 [Jl r.1.op r.1.num r.1.kids]) ?_ (D2 (L:=[(0,DV r.1.op r.1.num r.1.kids)]) (st':=Dz tm r.2 s1 []) [0,1] AA (by decide) rfl AA (.raw AA (.pure Bn pA)) (.same AA));refine ai Tryz.func142 AA AA AA AA (sr AA λK1 d4=>Ef 2 AA (DE 3 De AA (dn d4 AA (AE λK2 d5=>?_))));obtain⟨o4,y,h0⟩:=Sh.Bi h0;have M4:∀(I:Int),o4=Sum.inr I->∀s,Wk 2 s ⟨120,AP (Rz p2 p3 p4 []),HJ tm I s1 tp []⟩->K2 s:=by
  intro I hq s K;subst o4;refine d5 _ (AG K (sr AA λK5 d6=>Ac 3 AA (bs h0 λz d7 h0=>Bo (v':=ow 4 0 z) AN (hb 104) (JA d7) rfl AA ⟨(Bq λ_=>AA),pA⟩ AA AA (AS AA (dn d6 AA (AE λK7 d8=>sr AA λK8 d9=>AS AA (zz (HC z) (DD Gc AA AA AA) rfl (AS AA ?_))))))));refine dn d9 AA ?_;refine ci h0 AA ?_ ?_<;>intro b9 h0
  .refine sr AA λg5 M=>Ac 3 AA (zz (HC z) (DD Gc AA AA AA) rfl (bs h0 λA O h0=>?_));refine Hl (HJ tm A.2 s1 tp [BX z]) (i64 A.1) [0] AN (hb 83) (Ay O) rfl AA ?_;refine bs h0 λD C h0=>zz (dL A.1) (CD BF AA AA AA AA C) rfl (zz (i64 D) (CG Hy AA AA (CS C) rfl) rfl (AS AA (dn M AA (AE λg6 P=>?_))));refine L0 (KL s1 tp [Jj,BX z]) 12 ?_;refine BL (i64 D) AN AA (λ_ _=>BP AA) (BL BG AN AA (λ_ _=>BP AA) (BL (H2 tp s1) AN AA (λ_ _=>Cq D5 AA AA AA tM rfl) (BL (ls eI p2) AN AA (λ_ _=>BP AA) (BL CY AN AA (λ_ _=>FT Wr AA AA tc rfl) (BL (D4 tp) AN AA (λ_ _=>CG dJ AA AA AA AA) (BL (i64 D) AN AA (λ_ _=>BP AA) (bs h0 λg0 Q h0=>F3 AN (λJ zz=>BU (v:=ls eI g0) AN (hb 99) (FK Q) rfl AA AA (As AA)) (BL (i64 p4) AN AA (λ_ _=>BP AA) (BL (i64 (Sh.w (p4-1))) AN AA (λ_ _=>Pp AA AA) (bs h0 λk R h0=>?_))))))))));refine PX (Hd k.1) (FB tm k.2) [0,1] AN (hb 139) (BJ.wk (JI uI R) (by refine Wk.trans (Wk.BY (L:=[(0,Hd k.1)]) (st':=Dz tm k.2 s1 [D0]) (id:=2) rfl tX (Ah Aa) ⟨.BY AA,pA⟩ AA) ?_;exact AM [0,1] AA AA (.w (.p .nil)) (.same AA))) rfl (λ_=>AA) (λ_=>AA) (λ_=>AA) ?_;refine bs h0 λo S h0=>F3 AN (λJ zz=>BU (v:=Bc o) AN (hb 114) (BS S) rfl AA AA (As AA)) (FU AA (Bw BI AA (dn P AA ?_)));cases h0;exact An ⟨_,(AM (L:=[(10,CY)]) (st':=Dz tm k.2 s1 [Jl o.op o.num o.kids]) [0,1,3] AA AA (.w (.p (.w .nil))) ⟨.rfl,pA⟩).trans (Ag (L:=[(10,CY)]) ⟨.rfl,pA⟩),FX (.tmp 10) (Lh o) BI AA _ ⟨AA,AA⟩⟩
  .refine AH (d8 _ (AE λg7 T=>Ap AA ?_));refine ci h0 AA ?_ ?_<;>intro g8 h0
   .refine sr AA λg9 U=>Ac 4 AA (bs h0 λa V h0=>?_);refine Ov (HJ tm a.2 s1 tp [BX z]) (DV a.1.op a.1.num a.1.kids) [0,1] AN (hb 136) (JP V) rfl AA (λ_=>AA) (λ_=>AA) ?_;refine Bw BI AA (dn U AA ?_);cases h0;exact An ⟨_,(AM (L:=[(10,CY)]) (st':=Dz tm a.2 s1 [Jl a.1.op a.1.num a.1.kids]) [0,1,3] AA AA (.w (.p (.w .nil))) ⟨.rfl,pA⟩).trans (Ag (L:=[(10,CY)]) ⟨.rfl,pA⟩),FX (.tmp 10) (Ts a.1.op a.1.num a.1.kids) BI AA _ ⟨AA,AA⟩⟩
   .refine AH (T _ (AE λh4 W=>sr AA λh5 X=>AS AA (bs h0 λg Y h0=>?_)));refine Hl (HJ tm g.2 s1 tp [BX z]) (i64 g.1) [0] AN (hb 83) (Ay Y) rfl AA ?_;refine AS AA (dn X AA ?_);refine ci h0 AA ?_ ?_<;>intro h6 h0
    .refine sr AA λh7 Z=>Ac 3 AA ?_;refine CC 5 [(0:Int)] eI BF AA ?_;refine Ac 2 AA (Ea [(10,IH),(101,BG),(102,H2 tp s1),(103,ls eI p2),(104,jI),(106,i64 (Sh.w (p4-1)))] (HJ tm g.2 s1 tp [BX z,⟨1,3,1,[]⟩]) 5 AA ⟨.rfl,.rfl,.agg ⟨.rfl,.rfl,pA⟩,.rfl,.BY AA,.rfl,pA⟩ (λ_=>AA) rfl (bs h0 λc b0 h0=>?_));refine G8 (rowsP:=Dz tm g.2 s1 []) (rows0:=Dz tm g.2 s1 []) (rows1:=Dz tm c.2 s1 []) (rows2:=[G7 c.1]) (rows1':=Dz tm c.2 s1 []) (rows2':=[G7 c.1]) (st':=HJ tm c.2 s1 tp [BX z,⟨1,3,1,[]⟩,G7 c.1]) (v':=ow 6 0 c.1) [0,1] AN (hb 139) (JI uI b0) rfl (by decide) rfl AA (.raw AA AA (.pure Bn .nil)) rfl AA (.raw AA AA (.pure Bn .nil)) (.pure (Ah Aa) .nil) rfl AA ?_;refine Au (Wk.BY (L:=[(10,IH),(107,Hd c.1)]) (st':=HJ tm c.2 s1 tp [BX z,⟨1,3,1,[]⟩,D0]) (id:=6) rfl tP (Ah Aa) ⟨.rfl,.BY AA,pA⟩ AA) (bs h0 λp b1 h0=>Df (Bc p) (hb 114) (BS b1) rfl (Bw BI AA (dn Z AA ?_)));cases h0;exact An ⟨_,(AM (L:=[(10,CY)]) (st':=Dz tm c.2 s1 [Jl p.op p.num p.kids]) [0,1,3] AA AA (.w (.p (.w .nil))) ⟨.rfl,pA⟩).trans (Ag (L:=[(10,CY)]) ⟨.rfl,pA⟩),FX (.tmp 10) (Lh p) BI AA _ ⟨AA,AA⟩⟩
    .refine AH (W _ (AE λh8 b2=>?_));refine L0 (KL s1 tp [Jj,BX z]) 11 ?_;refine BL BG AN AA (λ_ _=>BP AA) ?_;refine F3 AN (λJ zz=>Gu (l:=[(1:Int),2,3,4]) (enc:=eI) AN BF (by decide) rfl AA AA AA AA Bn (As AA)) ?_;refine bs h0 λB b3 h0=>?_;refine TU (i64 B.1) (FB tm B.2) [0] AN (hb 70) (Bm b3) rfl (λ_=>AA) ?_;refine BL BG AN AA (λ_ _=>BP AA) (BL (H2 tp s1) AN AA (λ_ _=>Cq D5 AA AA AA tM rfl) (BL (ls eI p2) AN AA (λ_ _=>BP AA) ?_));refine F3 AN (λJ zz=>Gu (l:=[(0:Int),0]) (enc:=eI) AN BF (by decide) rfl AA AA AA AA Bn (As AA)) ?_;refine BL (i64 p4) AN AA (λ_ _=>BP AA) (BL (i64 (Sh.w (p4-1))) AN AA (λ_ _=>Pp AA AA) (bs h0 λq b4 h0=>?_));refine PX (Hd q.1) (FB tm q.2) [0,1] AN (hb 139) (BJ.wk (JI uI b4) (by refine Wk.trans (Wk.BY (L:=[(0,Hd q.1)]) (st':=Dz tm q.2 s1 [D0]) (id:=2) rfl tX (Ah Aa) ⟨.BY AA,pA⟩ AA) ?_;exact AM [0,1] AA AA (.w (.p .nil)) (.same AA))) rfl (λ_=>AA) (λ_=>AA) (λ_=>AA) ?_;refine bs h0 λt b5 h0=>F3 AN (λJ zz=>BU (v:=Bc t) AN (hb 114) (BS b5) rfl AA AA (As AA)) (FU AA (Bw BI AA (dn b2 AA ?_)));cases h0;exact An ⟨_,(AM (L:=[(10,CY)]) (st':=Dz tm q.2 s1 [Jl t.op t.num t.kids]) [0,1,3] AA AA (.w (.p (.w .nil))) ⟨.rfl,pA⟩).trans (Ag (L:=[(10,CY)]) ⟨.rfl,pA⟩),FX (.tmp 10) (Lh t) BI AA _ ⟨AA,AA⟩⟩
 refine sr AA λh9 b6=>AS AA (bs y λd b7 y=>?_);refine Hl (HJ tm d.2 s1 tp []) (i64 d.1) [0] AN (hb 83) (Ay b7) rfl AA ?_;refine AS AA (dn b6 AA ?_);refine ci y AA ?_ ?_<;>intro k0 y
 .refine Ap AA (RI λg1 b8=>?_);obtain⟨E,b,y⟩:=Sh.Bi y;have g2:∀(_:Unit),E=Sum.inr ()->∀s,Wk 2 s ⟨120,AP (Rz p2 p3 p4 []),HJ tm d.2 s1 tp []⟩->g1 s:=by
   intro _ hq s K;subst E;exact b8 _ (M4 d.2 (AT y) _ (K.trans (Ag (L:=Rz p2 p3 p4 []) (.same AA))))
  refine AK (Am (σ:=Int) (λn v=>Ez N tm s1 tp p2 p3 p4 d tv n v=some E) (λzk=>⟨120,AP [(0,.ptr 0 0 0 0),(2,ls eI p2),(3,i64 p3),(4,i64 p4),(6,.ptr 2 0 0 0),(10,.ptr 3 0 0 0),(11,i64 zk)],[FB tm d.2,ro 0 37 5 BT s1,⟨0,26,2,[[ls Ai tp,ow 1 0 s1]]⟩,Jj]⟩) N 1 b Ao (λ_ hv=>by rw[Ez]at hv;cases hv) ?_);rintro n zk b;rw[Ez]at b;refine AE λk1 c0=>sr AA λk2 c1=>Ac 3 AA (CZ AA (AS AA (dn c1 AA ?_)));refine ci b AA ?_ ?_<;>intro k3 b
  .refine AH (c0 _ (AE λk4 c2=>AK (AE λg3 c3=>bs b λc4 h b=>?_)));have F:∀G,c4=G->∀s,Wk 2 s ⟨120,AP (Rz p2 p3 p4 [(11,i64 zk),(44,.bool G)]),HJ tm d.2 s1 tp []⟩->g3 s:=by
    intro G hq s K;subst c4;refine c3 _ (AG K ?_);refine ci b AA ?_ ?_<;>intro k5 b
    .refine AE λk6 c5=>?_;refine L0 (KL s1 tp [Jj]) 20 ?_;refine BL BG AN AA (λ_ _=>BP AA) (BL (H2 tp s1) AN AA (λ_ _=>Cq D5 AA AA AA tM rfl) (BL (ls eI p2) AN AA (λ_ _=>BP AA) (BL (i64 zk) AN AA (λ_ _=>BP AA) (bs b λi c6 b=>?_))));refine PX (DV i.1.op i.1.num i.1.kids) (FB tm i.2) [0,1] AN (hb 136) (JP c6) rfl (λ_=>AA) (λ_=>AA) (λ_=>AA) ?_;refine BL BG AN AA (λ_ _=>BP AA) (BL (H2 tp s1) AN AA (λ_ _=>Cq D5 AA AA AA tM rfl) (BL (ls eI p2) AN AA (λ_ _=>BP AA) (BL CY AN AA (λ_ _=>FT Wr AA AA tc rfl) (BL (D4 tp) AN AA (λ_ _=>CG dJ AA AA AA AA) (BL (i64 zk) AN AA (λ_ _=>BP AA) (BL (i64 (Sh.w (zk-1))) AN AA (λ_ _=>Pp AA AA) (bs b λH c7 b=>BL (T9 H) AN AA (λ_ _=>CR DK AA AA c7 AA) (BL (T9 H) AN AA (λ_ _=>It lq AA AA) (BL (i64 H.from_) AN AA (λ_ _=>IP Hy AA AA) (BL (i64 p4) AN AA (λ_ _=>BP AA) ?_))))))))));refine BL (i64 (Sh.w (p4-2))) AN AA (λ_ _=>Pp AA AA) (bs b λj c8 b=>?_);refine PX (DV j.1.op j.1.num j.1.kids) (FB tm j.2) [0,1] AN (hb 134) (uI c8) rfl (λ_=>AA) (λ_=>AA) (λ_=>AA) ?_;refine F3 AN (λJ zz=>Gu (l:=[i.1,j.1]) (enc:=Ar) AN BZ (by decide) rfl AA AA (by simp only[List.map,Af];rfl) rfl (Ah Aa) (As AA)) ?_;refine bs b λu c9 b=>F3 AN (λJ zz=>BU (v:=Bc u) AN (hb 114) (BS c9) rfl AA AA (As AA)) (FU AA (Bw BI AA (dn c5 AA ?_)));cases b;cases y;cases h0;exact An ⟨_,(AM (L:=[(10,CY)]) (st':=Dz tm j.2 s1 [Jl u.op u.num u.kids]) [0,1,3] AA AA (.w (.p (.w .nil))) ⟨.rfl,pA⟩).trans (Ag (L:=[(10,CY)]) ⟨.rfl,pA⟩),FX (.tmp 10) (Lh u) BI AA _ ⟨AA,AA⟩⟩
    .exact AH (c2 _ (AF AA (Ac 3 AA (AB (xi (Sh.w (zk+1)) b Ao)))))
   refine AF AA (Ac 3 AA (bs h λk7 d0 h=>Gs (hb 102) (KI d0) rfl (AS AA ?_)));rcases Sh.Ad h with ⟨e,h⟩|⟨e,h⟩
   .refine Aw e AA ?_;iterate 3 refine Aw e rfl ?_
    refine bs h λg4 d1 h=>BW (v:=T9 g4) (CQ AA AA e) rfl (CR DK AA AA d1 AA) ?_;iterate 4 refine Aw e rfl ?_
    refine zt e AA (AS AA ?_);rcases Sh.Ad h with ⟨f,h⟩|⟨f,h⟩
    .exact Aw f AA (Aw f AA (Aw f AA (bs h λd2 d3 h=>Lz (v':=.bool d2) (CQ AA AA f) (hb 145) (J9 d3) rfl (.agg (.val AA (.own AA AA (λ_=>AA) .nil)) (.val AA (.val AA .nil))) rfl pA AA AA (zt f AA (AB (F d2 (AT h) _ Ao))))))
    .refine zs f AA ?_;iterate 3 refine zs f rfl ?_
     exact zf f AA (AB (F false (AT h) _ Ao))
   .refine zs e AA ?_;iterate 8 refine zs e rfl ?_
    refine zf e AA (AS AA ?_);iterate 4 refine zs rfl rfl ?_
    exact zf AA AA (AB (F false (AT h) _ Ao))
  .exact Av (g2 () (AT b) _ Ao)
 .exact AH (M4 d.2 (AT y) _ Ao)
theorem Xj {N:Nat}{tv:(List Int)->Int->(List AU)->(List AL)->(List Int)->Int->Int->Option (AD×Int)}(uI :∀{tm:List Int} {tu:Int} {s1:List AU} {tp:List AL} {p2:List Int} {p3:Int} {p4:Int} {r:AD×Int},tv tm tu s1 tp p2 p3 p4=some r->Bd 134 (Yq tp s1 p2 p3 p4) (Dz tm tu s1 []) (DV r.1.op r.1.num r.1.kids) (Dz tm r.2 s1 [])){tm:List Int}{tu:Int}{s1:List AU}{tp:List AL}{p2:List Int}{p3 p4:Int}{r:AD×Int}(h0:MI N tv tm tu s1 tp p2 p3 p4=some r):Bd 134 (Yq tp s1 p2 p3 p4) (Dz tm tu s1 []) (DV r.1.op r.1.num r.1.kids) (Dz tm r.2 s1 []):=by
 unfold MI at h0;refine BJ.wk (r0:=DV r.1.op r.1.num r.1.kids) (st0:=Dz tm r.2 s1 [Jl r.1.op r.1.num r.1.kids]) ?_ (D2 (L:=[(0,DV r.1.op r.1.num r.1.kids)]) (st':=Dz tm r.2 s1 []) [0,1] AA (by decide) rfl AA (.raw AA (.pure Bn pA)) (.same AA));refine ai Tryz.func134 AA AA AA AA (sr AA λK1 c8=>Ef 2 AA (DE 3 De AA (dn c8 AA (AE λK2 c9=>Ap AA ?_))));refine ci h0 AA ?_ ?_<;>intro b4 h0
 .refine sr AA λK5 d0=>Ac 4 AA (bs h0 λh d1 h0=>?_);refine Ov (HJ tm h.2 s1 tp []) (DV h.1.op h.1.num h.1.kids) [0,1] AN (hb 136) (JP d1) rfl AA (λ_=>AA) (λ_=>AA) ?_;refine Bw BI AA (dn d0 AA ?_);cases h0;exact An ⟨_,(AM (L:=[(10,CY)]) (st':=Dz tm h.2 s1 [Jl h.1.op h.1.num h.1.kids]) [0,1,3] AA AA (.w (.p (.w .nil))) ⟨.rfl,pA⟩).trans (Ag (L:=[(10,CY)]) ⟨.rfl,pA⟩),FX (.tmp 10) (Ts h.1.op h.1.num h.1.kids) BI AA _ ⟨AA,AA⟩⟩
 .refine AH (c9 _ (AE λK7 d2=>?_));obtain⟨o9,a,h0⟩:=Sh.Bi h0;have M9:∀(f8:Int),o9=Sum.inr f8->∀s,Wk 2 s ⟨114,AP (Rz p2 p3 p4 []),HJ tm f8 s1 tp []⟩->K7 s:=by
   intro f8 hq s B;subst o9;refine d2 _ (AG B (sr AA λg1 G=>Ac 5 AA (bs h0 λc H h0=>?_)));refine Ov (HJ tm c.2 s1 tp []) (DV c.1.op c.1.num c.1.kids) [0,1] AN (hb 142) (TJ uI H) rfl AA (λ_=>AA) (λ_=>AA) ?_;refine Bw BI AA (dn G AA ?_);cases h0;exact An ⟨_,(AM (L:=[(10,CY)]) (st':=Dz tm c.2 s1 [Jl c.1.op c.1.num c.1.kids]) [0,1,3] AA AA (.w (.p (.w .nil))) ⟨.rfl,pA⟩).trans (Ag (L:=[(10,CY)]) ⟨.rfl,pA⟩),FX (.tmp 10) (Ts c.1.op c.1.num c.1.kids) BI AA _ ⟨AA,AA⟩⟩
  refine sr AA λg2 I=>AS AA (bs a λb J a=>?_);refine Hl (HJ tm b.2 s1 tp []) (i64 b.1) [0] AN (hb 83) (Ay J) rfl AA ?_;refine dn I AA (AK (Ap AA ?_));refine ci a AA ?_ ?_<;>intro g3 a
  .refine sr AA λg4 K=>Ac 4 AA (bs a λd M a=>?_);refine Ov (HJ tm d.2 s1 tp []) (DV d.1.op d.1.num d.1.kids) [0,1] AN (hb 136) (JP M) rfl AA (λ_=>AA) (λ_=>AA) ?_;refine Bw BI AA (dn K AA ?_);cases a;cases h0;exact An ⟨_,(AM (L:=[(10,CY)]) (st':=Dz tm d.2 s1 [Jl d.1.op d.1.num d.1.kids]) [0,1,3] AA AA (.w (.p (.w .nil))) ⟨.rfl,pA⟩).trans (Ag (L:=[(10,CY)]) ⟨.rfl,pA⟩),FX (.tmp 10) (Ts d.1.op d.1.num d.1.kids) BI AA _ ⟨AA,AA⟩⟩
  .refine AE λd3 O=>bs a λP f a=>?_;have Q:∀C,P=C->∀s,Wk 2 s ⟨114,AP (Rz p2 p3 p4 [(22,i64 b.1),(30,.bool C)]),HJ tm b.2 s1 tp []⟩->d3 s:=by
    intro C hq s B;subst P;refine O _ (AG B ?_);refine ci a AA ?_ ?_<;>intro g5 a
    .refine sr AA λg6 R=>Ac 3 AA (bs a λi S a=>?_);refine Ov (HJ tm i.2 s1 tp []) (i64 i.1) [0,1] AN (hb 138) (VC S) rfl AA (λ_=>AA) (λ_=>AA) ?_;refine AS AA (dn R AA (AE λg7 T=>?_));refine L0 (KL s1 tp [Jj]) 19 ?_;refine BL BG AN AA (λ_ _=>BP AA) (BL (H2 tp s1) AN AA (λ_ _=>Cq D5 AA AA AA tM rfl) (BL (ls eI p2) AN AA (λ_ _=>BP AA) (BL (i64 i.1) AN AA (λ_ _=>BP AA) (BL (i64 p4) AN AA (λ_ _=>BP AA) ?_))));refine BL (i64 (Sh.w (Int.tdiv p4 2))) AN AA (λ_ _=>W0 AA AA (by decide)) ?_;refine bs a λj U a=>?_;refine PX (DV j.1.op j.1.num j.1.kids) (FB tm j.2) [0,1] AN (hb 134) (uI U) rfl (λ_=>AA) (λ_=>AA) (λ_=>AA) ?_;refine BL BG AN AA (λ_ _=>BP AA) (BL (H2 tp s1) AN AA (λ_ _=>Cq D5 AA AA AA tM rfl) (BL (ls eI p2) AN AA (λ_ _=>BP AA) (BL (i64 i.1) AN AA (λ_ _=>BP AA) ?_)));refine F3 AN (λx0 zz=>Gu (l:=[i.1]) (enc:=eI) AN BF (by decide) rfl AA AA AA AA Bn (As AA)) ?_;refine bs a λV W a=>?_;refine F3 AN (λx0 zz=>BU (v:=ls eI V) AN (hb 85) (BJ.wk (F7 W) (by refine Wk.trans (Wk.BY (L:=[(0,ls eI V)]) (st':=UY) (id:=0) rfl tN Bn ⟨.BY AA,pA⟩ AA) ?_;exact AM [] AA AA .nil (.same AA))) rfl AA AA (As AA)) ?_;refine BL (i64 p3) AN AA (λ_ _=>BP AA) (BL (i64 p4) AN AA (λ_ _=>BP AA) ?_);refine BL (i64 (Sh.w (Int.tdiv p4 2))) AN AA (λ_ _=>W0 AA AA (by decide)) ?_;refine bs a λk X a=>?_;refine PX (DV k.1.op k.1.num k.1.kids) (FB tm k.2) [0,1] AN (hb 134) (uI X) rfl (λ_=>AA) (λ_=>AA) (λ_=>AA) ?_;refine F3 AN (λx0 zz=>Gu (l:=[j.1,k.1]) (enc:=Ar) AN BZ (by decide) rfl AA AA (by simp only[List.map,Af];rfl) rfl (Ah Aa) (As AA)) ?_;refine bs a λn Y a=>F3 AN (λx0 zz=>BU (v:=Bc n) AN (hb 114) (BS Y) rfl AA AA (As AA)) (FU AA (Bw BI AA (dn T AA ?_)));cases a;cases h0;exact An ⟨_,(AM (L:=[(10,CY)]) (st':=Dz tm k.2 s1 [Jl n.op n.num n.kids]) [0,1,3] AA AA (.w (.p (.w .nil))) ⟨.rfl,pA⟩).trans (Ag (L:=[(10,CY)]) ⟨.rfl,pA⟩),FX (.tmp 10) (Lh n) BI AA _ ⟨AA,AA⟩⟩
    .refine Ap AA ?_;refine ci a AA ?_ ?_<;>intro g8 a
     .refine sr AA λg9 Z=>Ac 5 AA ?_;refine CC 4 [0,p3,p3] eI BF AA ?_;refine Ac 2 AA (Ea [(10,IH),(58,BG),(59,H2 tp s1),(60,ls eI p2),(63,ls eI [0,p3,p3]),(65,i64 (Sh.w (p4-1)))] (HJ tm b.2 s1 tp [⟨1,3,1,[]⟩]) 4 AA ⟨.rfl,.rfl,.agg ⟨.rfl,.rfl,pA⟩,.rfl,.BY AA,.rfl,pA⟩ (λ_=>AA) rfl (bs a λg b0 a=>?_));refine G8 (rowsP:=Dz tm b.2 s1 []) (rows0:=Dz tm b.2 s1 []) (rows1:=Dz tm g.2 s1 []) (rows2:=[G7 g.1]) (rows1':=Dz tm g.2 s1 []) (rows2':=[G7 g.1]) (st':=HJ tm g.2 s1 tp [⟨1,3,1,[]⟩,G7 g.1]) (v':=ow 5 0 g.1) [0,1] AN (hb 139) (JI uI b0) rfl (by decide) rfl AA (.raw AA AA (.pure Bn .nil)) rfl AA (.raw AA AA (.pure Bn .nil)) (.pure (Ah Aa) .nil) rfl AA ?_;refine Au (Wk.BY (L:=[(10,IH),(66,Hd g.1)]) (st':=HJ tm g.2 s1 tp [⟨1,3,1,[]⟩,D0]) (id:=5) rfl tY (Ah Aa) ⟨.rfl,.BY AA,pA⟩ AA) (bs a λo b1 a=>Df (Bc o) (hb 114) (BS b1) rfl (Bw BI AA (dn Z AA ?_)));cases a;cases h0;exact An ⟨_,(AM (L:=[(10,CY)]) (st':=Dz tm g.2 s1 [Jl o.op o.num o.kids]) [0,1,3] AA AA (.w (.p (.w .nil))) ⟨.rfl,pA⟩).trans (Ag (L:=[(10,CY)]) ⟨.rfl,pA⟩),FX (.tmp 10) (Lh o) BI AA _ ⟨AA,AA⟩⟩
     .refine AE λd4 b2=>bs a λb3 f a=>?_;have D:∀E,b3=E->∀s,Wk 2 s ⟨114,AP (Rz p2 p3 p4 [(22,i64 b.1),(68,.bool E)]),HJ tm b.2 s1 tp []⟩->d4 s:=by
       intro E hq s B;subst b3;refine b2 _ (AG B ?_);refine ci a AA ?_ ?_<;>intro h3 a
       .refine sr AA λh4 b5=>Ac 5 AA (bs a λe b6 a=>?_);refine Ov (HJ tm e.2 s1 tp []) (DV e.1.op e.1.num e.1.kids) [0,1] AN (hb 140) (UH uI b6) rfl AA (λ_=>AA) (λ_=>AA) ?_;refine Bw BI AA (dn b5 AA ?_);cases a;cases h0;exact An ⟨_,(AM (L:=[(10,CY)]) (st':=Dz tm e.2 s1 [Jl e.1.op e.1.num e.1.kids]) [0,1,3] AA AA (.w (.p (.w .nil))) ⟨.rfl,pA⟩).trans (Ag (L:=[(10,CY)]) ⟨.rfl,pA⟩),FX (.tmp 10) (Ts e.1.op e.1.num e.1.kids) BI AA _ ⟨AA,AA⟩⟩
       .refine AE λd5 b7=>bs a λb8 f a=>?_;have b9:∀F,b8=F->∀s,Wk 2 s ⟨114,AP (Rz p2 p3 p4 [(78,.bool F)]),HJ tm b.2 s1 tp []⟩->d5 s:=by
         intro F hq s B;subst b8;refine b7 _ (AG B ?_);refine ci a AA ?_ ?_<;>intro h5 a
         .refine sr AA λh6 c0=>Ac 2 AA (bs a λt c1 a=>Lz (v':=ow 4 0 t) AN (hb 141) (Tc c1) rfl (.agg (.val AA (.own AA AA (λ_=>AA) .nil)) (.val AA .nil)) rfl (mM (λ_=>AA) pA) rfl AA (AS AA (dn c0 AA (sr AA λh7 c2=>AS AA (zz (HC t) (DD Gc AA AA AA) rfl (AS AA (dn c2 AA ?_)))))));refine ci a AA ?_ ?_<;>intro h8 a
          .refine sr AA λh9 c3=>Ac 3 AA (zz (HC t) (DD Gc AA AA AA) rfl (bs a λu c4 a=>?_));refine Hl (HJ tm u.2 s1 tp [BX t]) (i64 u.1) [0] AN (hb 83) (Ay c4) rfl AA ?_;refine bs a λy z a=>zz (dL u.1) (CD BF AA AA AA AA z) rfl (zz (i64 y) (CG Hy AA AA (CS z) rfl) rfl (AS AA (dn c3 AA (AE λk0 c5=>?_))));refine L0 (KL s1 tp [Jj,BX t]) 14 ?_;refine BL (i64 y) AN AA (λ_ _=>BP AA) (BL BG AN AA (λ_ _=>BP AA) (BL (H2 tp s1) AN AA (λ_ _=>Cq D5 AA AA AA tM rfl) (BL (ls eI p2) AN AA (λ_ _=>BP AA) (BL cK AN AA (λ_ _=>FT Kh AA AA tO rfl) (BL (ow 1 0 s1) AN AA (λ_ _=>CG Pt AA AA AA AA) (BL (i64 y) AN AA (λ_ _=>BP AA) (bs a λd6 A a=>BL (LB y) AN AA (λ_ _=>CD Cd AA AA AA AA A) (BL (LB y) AN AA (λ_ _=>FT Th AA AA (show 0+0<=5 by decide) rfl) (BL (ls eI d6.params) AN AA (λ_ _=>CG LS AA AA (CS A) rfl) (BL (i64 p4) AN AA (λ_ _=>BP AA) ?_))))))))));refine BL (i64 (Sh.w (p4-1))) AN AA (λ_ _=>Pp AA AA) (bs a λp c6 a=>?_);refine PX (Hd p.1) (FB tm p.2) [0,1] AN (hb 139) (BJ.wk (JI uI c6) (by refine Wk.trans (Wk.BY (L:=[(0,Hd p.1)]) (st':=Dz tm p.2 s1 [D0]) (id:=2) rfl tX (Ah Aa) ⟨.BY AA,pA⟩ AA) ?_;exact AM [0,1] AA AA (.w (.p .nil)) (.same AA))) rfl (λ_=>AA) (λ_=>AA) (λ_=>AA) ?_;refine bs a λq c7 a=>F3 AN (λx0 zz=>BU (v:=Bc q) AN (hb 114) (BS c7) rfl AA AA (As AA)) (FU AA (Bw BI AA (dn c5 AA ?_)));cases a;cases h0;exact An ⟨_,(AM (L:=[(10,CY)]) (st':=Dz tm p.2 s1 [Jl q.op q.num q.kids]) [0,1,3] AA AA (.w (.p (.w .nil))) ⟨.rfl,pA⟩).trans (Ag (L:=[(10,CY)]) ⟨.rfl,pA⟩),FX (.tmp 10) (Lh q) BI AA _ ⟨AA,AA⟩⟩
          .exact AH (M9 b.2 (AT a) _ (AM [0,1,2,3] AA AA (.w (.p (.w (.w .nil)))) (.same AA)))
         .exact AH (M9 b.2 (AT a) _ Ao)
        refine Ap AA ?_;refine ci f AA ?_ ?_<;>intro d7 f
        .exact AH (b9 true (AT f) _ (Ag (L:=Rz p2 p3 p4 [(78,.bool true)]) ⟨.rfl,.rfl,.rfl,.rfl,.rfl,.rfl,.of (qY AV.bool d7),pA⟩))
        .exact AF AA (Ac 2 AA (AB (b9 (decide (b.1=8)) (AT f) _ Ao)))
      refine Ap AA ?_;refine ci f AA ?_ ?_<;>intro d8 f
      .exact AH (D true (AT f) _ (Ag (L:=Rz p2 p3 p4 [(22,i64 b.1),(68,.bool true)]) ⟨.rfl,.rfl,.rfl,.rfl,.rfl,.rfl,.rfl,.of (qY AV.bool d8),pA⟩))
      .refine Ap AA ?_;refine ci f AA ?_ ?_<;>intro d9 f
       .exact AH (D true (AT f) _ (Ag (L:=Rz p2 p3 p4 [(22,i64 b.1),(68,.bool true)]) ⟨.rfl,.rfl,.rfl,.rfl,.rfl,.rfl,.rfl,.of (qY AV.bool d9),pA⟩))
       .exact AF AA (Ac 2 AA (AB (D (decide (b.1=6)) (AT f) _ Ao)))
   refine Ap AA ?_;refine ci f AA ?_ ?_<;>intro g0 f
   .exact AH (Q true (AT f) _ (Ag (L:=Rz p2 p3 p4 [(22,i64 b.1),(30,.bool true)]) ⟨.rfl,.rfl,.rfl,.rfl,.rfl,.rfl,.rfl,.of (qY AV.bool g0),pA⟩))
   .exact AF AA (Ac 2 AA (AB (Q (decide (b.1=2)) (AT f) _ Ao)))
theorem XF {N:Nat}:∀(n:Nat),∀{tm:List Int} {tu:Int} {s1:List AU} {tp:List AL} {p2:List Int} {p3:Int} {p4:Int} {r:AD×Int},J4 N n tm tu s1 tp p2 p3 p4=some r->Bd 134 (Yq tp s1 p2 p3 p4) (Dz tm tu s1 []) (DV r.1.op r.1.num r.1.kids) (Dz tm r.2 s1 []):=by
 intro n
 induction n with
 |zero=>intro tm tu s1 tp p2 p3 p4 r a;cases a
 |succ n ih=>
  intro tm tu s1 tp p2 p3 p4 r a;rw[J4]at a;exact Xj (λh=>ih h) a
theorem GW {N:Nat}:∀{tm:List Int} {tu:Int} {s1:List AU} {tp:List AL} {p2:List Int} {p3:Int} {p4:Int} {r:AD×Int},Hc N tm tu s1 tp p2 p3 p4=some r->Bd 134 (Yq tp s1 p2 p3 p4) (Dz tm tu s1 []) (DV r.1.op r.1.num r.1.kids) (Dz tm r.2 s1 []):=by
 intro tm tu s1 tp p2 p3 p4 r a;exact XF N a
theorem Ue {N:Nat}{tm:List Int}{tu p1:Int}{r:AD×Int}(h0:KW N tm tu p1=some r):Bd 135 [BG,i64 p1] [FB tm tu] (DV r.1.op r.1.num r.1.kids) [FB tm r.2]:=by
 unfold KW at h0;refine BJ.wk (r0:=DV r.1.op r.1.num r.1.kids) (st0:=[FB tm r.2,Jl r.1.op r.1.num r.1.kids]) ?_ (D2 (L:=[(0,DV r.1.op r.1.num r.1.kids)]) (st':=[FB tm r.2]) [0] AA (by decide) rfl AA (.raw AA pA) (.same AA));refine ai Tryz.func135 AA AA AA AA (sr AA λK1 Z=>DE 1 De AA (dn Z AA (sr AA λK2 b0=>?_)));refine CC 2 ([]:List AD) Ar BZ (by simp only[List.map,Af];rfl) ?_;refine Au (Wk.BY (L:=[(0,BG),(1,i64 p1),(4,CJ),(10,eM)]) (st':=[FB tm tu,Jj,D0]) (id:=2) rfl td (Ah Aa) ⟨.rfl,.rfl,.rfl,.BY AA,pA⟩ AA) (bs h0 λA b1 h0=>Df (Bc A) (hb 114) (BS b1) rfl (DE 3 De AA (Bw BI AA (Au (Wk.BY (L:=[(0,BG),(1,i64 p1),(4,CJ),(5,EP A)]) (st':=[FB tm tu,Jj,D0,D0]) (id:=3) rfl (show 1<=3 by decide) (Ei AA) (.same AA) rfl) (dn b0 AA (AE λK4 b2=>Ap AA ?_))))));refine ci h0 AA ?_ ?_<;>intro b6 h0
 .refine sr AA λK7 b3=>?_;refine CC 4 ([]:List AD) Ar BZ (by simp only[List.map,Af];rfl) ?_;refine Au (Wk.BY (L:=[(0,BG),(4,CJ),(14,eM)]) (st':=[FB tm tu,Jj,D0,D0,D0]) (id:=4) rfl tZ (Ah Aa) ⟨.rfl,.rfl,.BY AA,pA⟩ AA) (bs h0 λk b4 h0=>Df (Bc k) (hb 114) (BS b4) rfl (DE 5 De AA (Bw BI AA (Au (Wk.BY (L:=[(0,BG),(4,CJ),(6,EP k)]) (st':=[FB tm tu,Jj,D0,D0,D0,D0]) (id:=5) rfl (show 1<=5 by decide) (Ei AA) (.same AA) rfl) (dn b3 AA (AE λK9 b5=>?_))))));refine AG (D3 (L:=[(0,BG),(4,CJ),(6,EP k)]) (st':=[FB tm tu,Jj,Ic,Ic,Ic,Ic]) (.raw AA AA AA (.raw AA AA AA (.pure AA (by intro x a;cases a) (.pure AA (by intro x a;cases a) (.pure AA (by intro x a;cases a) (.pure AA (by intro x a;cases a) .nil)))))) (.same AA)) ?_;refine L0 [Jj,Ic,Ic,Ic,Ic] 8 ?_;refine BL (Bc k) AN AA (λ_ _=>IF BI AA tL rfl) (BL BG AN AA (λ_ _=>BP AA) (bs h0 λc D h0=>?_));refine TU (i64 c.1) (FB tm c.2) [0] AN (hb 83) (Ay D) rfl (λ_=>AA) ?_;refine bs h0 λE F h0=>F3 AN (λB zz=>BU (v:=Bc E) AN (hb 115) (Dh F) rfl AA AA (As AA)) (BL (Bc k) AN AA (λ_ _=>IF BI AA tL rfl) ?_);refine F3 AN (λB zz=>Gu (l:=[k,E,k]) (enc:=Ar) AN BZ (by decide) rfl AA AA (by simp only[List.map,Af];rfl) rfl (Ah Aa) (As AA)) ?_;refine bs h0 λo G h0=>F3 AN (λB zz=>BU (v:=Bc o) AN (hb 114) (BS G) rfl AA AA (As AA)) (bf De AA (FU AA (Bw BI AA (Au (Wk.BY (L:=[(0,BG),(4,CJ),(6,EP k),(7,EP o)]) (st':=[FB tm c.2,Jj,Ic,Ic,Ic,Ic,D0]) (id:=6) rfl (show 1<=6 by decide) (Ei AA) (.same AA) rfl) (dn b5 AA (AE λb9 H=>?_))))));refine AG (D3 (L:=[(0,BG),(4,CJ),(6,EP k),(7,EP o)]) (st':=[FB tm c.2,Jj,Ic,Ic,Ic,Ic,Ic]) (.raw AA AA AA (.raw AA AA AA (.pure AA (by intro x a;cases a) (.pure AA (by intro x a;cases a) (.pure AA (by intro x a;cases a) (.pure AA (by intro x a;cases a) (.pure AA (by intro x a;cases a) .nil))))))) (.same AA)) ?_;refine L0 [Jj,Ic,Ic,Ic,Ic,Ic] 7 ?_;refine BL (Bc o) AN AA (λ_ _=>IF BI AA tL rfl) (BL BG AN AA (λ_ _=>BP AA) (bs h0 λq I h0=>?_));refine TU (i64 q.1) (FB tm q.2) [0] AN (hb 83) (Ay I) rfl (λ_=>AA) ?_;refine bs h0 λJ K h0=>F3 AN (λB zz=>BU (v:=Bc J) AN (hb 115) (Dh K) rfl AA AA (As AA)) (BL (Bc k) AN AA (λ_ _=>IF BI AA tL rfl) ?_);refine F3 AN (λB zz=>Gu (l:=[o,J,k]) (enc:=Ar) AN BZ (by decide) rfl AA AA (by simp only[List.map,Af];rfl) rfl (Ah Aa) (As AA)) ?_;refine bs h0 λd M h0=>F3 AN (λB zz=>BU (v:=Bc d) AN (hb 114) (BS M) rfl AA AA (As AA)) (FU AA (Bw BI AA (dn H AA ?_)));cases h0;exact An ⟨_,(AM (L:=[(4,CJ)]) (st':=[FB tm q.2,Jl d.op d.num d.kids]) [0,1] AA AA (.w (.w .nil)) ⟨.rfl,pA⟩).trans (Ag (L:=[(4,CJ)]) ⟨.rfl,pA⟩),FX (.tmp 4) (Lh d) BI AA _ ⟨AA,AA⟩⟩
 .refine AH (b2 _ (sr AA λc0 O=>AS AA (DE 4 De AA (Bw BI AA (dn O AA (AE λb7 P=>sr AA λc1 Q=>AS AA (bs h0 λp R h0=>?_)))))));refine Hl [FB tm p.2,Jj,D0,D0,Jl A.op A.num A.kids] (i64 p.1) [0] AN (hb 83) (Ay R) rfl AA ?_;refine Ac 2 AA (dn Q AA (bs h0 λC b h0=>?_));have b8:∀t e f g,C=(t,e,f,g)->∀s,Wk 1 s ⟨45,AP [(4,CJ),(8,CY)],[FB tm t,Jj,Jl e f g]⟩->b7 s:=by
   rintro t e f g rfl s hw;refine P _ (AG hw (sr AA λc2 S=>AS AA (Bw BI AA (dn S AA ?_))));cases h0;exact An ⟨_,(AM (L:=[(4,CJ)]) (st':=[FB tm t,Jl e f g]) [0,1] AA AA (.w (.w .nil)) ⟨.rfl,pA⟩).trans (Ag (L:=[(4,CJ)]) ⟨.rfl,pA⟩),FX (.tmp 4) (Ts e f g) BI AA _ ⟨AA,AA⟩⟩
  refine AK (Am (σ:=Int×Int×Int×Int×(List AD)) (λn v=>GH tm n v.1 v.2.1 v.2.2.1 v.2.2.2.1 v.2.2.2.2=some C) (λ(n21,u,h,i,j)=>⟨45,AP [(0,.ptr 0 0 0 0),(4,.ptr 1 0 0 0),(8,.ptr 2 0 0 0),(9,i64 n21)],[FB tm u,Jj,Jl h i j]⟩) N (Sh.w (1+p.1),p.2,A.op,A.num,A.kids) b (AM [0,1,4] AA AA (.w (.w (.w .nil))) (.same AA)) (λ_ hv=>by rw[GH]at hv;cases hv) ?_);rintro n ⟨n21,u,h,i,j⟩ b;rw[GH]at b;refine AE λc3 T=>Ap AA ?_;refine ci b AA ?_ ?_<;>intro c4 b
  .refine AH (T _ (AE λc5 U=>AK ?_));refine L0 [Jj,Jl h i j] 6 ?_;refine BL BG AN AA (λ_ _=>BP AA) (bs b λy V b=>?_);refine TU (i64 y.1) (FB tm y.2) [0] AN (hb 143) (Oe V) rfl (λ_=>AA) ?_;refine bs b λW X b=>F3 AN (λB zz=>BU (v:=Bc W) AN (hb 115) (Dh X) rfl AA AA (As AA)) (BL (DV h i j) AN AA (λ_ _=>Cq BI AA AA AA tL rfl) ?_);refine F3 AN (λB zz=>Gu (l:=[W,AD.mk h i j]) (enc:=Ar) AN BZ (by decide) rfl AA AA (by simp only[List.map,Af];rfl) rfl (Ah Aa) (As AA)) ?_;exact bs b λz Y b=>F3 AN (λB zz=>BU (v:=Bc z) AN (hb 114) (BS Y) rfl AA AA (As AA)) (FU AA (Bw BI AA (dn U AA (AF AA (Ac 3 AA (AB (xi (Sh.w (n21-1),y.2,z.op,z.num,z.kids) b Ao)))))))
  .exact Av (b8 u h i j (AT b) _ Ao)
theorem TV {N:Nat}{tm:List Int}{tu:Int}{s1:List AU}{tp:List AL}{r:AD×Int}(h0:Jq N tm tu s1 tp=some r):Bd 119 [BG,H2 tp s1] (Dz tm tu s1 []) (DV r.1.op r.1.num r.1.kids) (Dz tm r.2 s1 []):=by
 unfold Jq at h0;refine BJ.wk (r0:=DV r.1.op r.1.num r.1.kids) (st0:=Dz tm r.2 s1 [Jl r.1.op r.1.num r.1.kids]) ?_ (D2 (L:=[(0,DV r.1.op r.1.num r.1.kids)]) (st':=Dz tm r.2 s1 []) [0,1] AA (by decide) rfl AA (.raw AA (.pure Bn pA)) (.same AA));refine ai Tryz.func119 AA AA AA AA (sr AA λM z=>Ef 2 AA (DE 3 De AA (dn z AA (sr AA λO A=>AS AA ?_))));refine CC 4 [(1:Int),1,3] eI BF AA ?_;refine Ea [(0,BG),(3,CY),(4,IH),(7,BG),(8,ls eI [(1:Int),1,3])] (HJ tm tu s1 tp [⟨1,3,1,[]⟩]) 4 AA ⟨.rfl,.rfl,.rfl,.rfl,.BY AA,pA⟩ (λ_=>AA) rfl (bs h0 λf B h0=>?_);refine Hl (HJ tm f.2 s1 tp [⟨1,3,1,[]⟩]) (i64 f.1) [0] AN (hb 70) (Bm B) rfl AA ?_;refine AS AA (dn A AA (sr AA λP C=>Ac 3 AA ?_));refine CC 5 [f.1] eI BF AA ?_;refine Ea [(0,BG),(4,IH),(5,i64 f.1),(10,BG),(11,H2 tp s1),(13,ls eI [f.1])] (HJ tm f.2 s1 tp (Ck [])) 5 AA ⟨.rfl,.rfl,.rfl,.rfl,.agg ⟨.rfl,.rfl,pA⟩,.BY AA,pA⟩ (λ_=>AA) rfl (bs h0 λa D h0=>?_);refine Ov (HJ tm a.2 s1 tp (Ck [])) (DV a.1.op a.1.num a.1.kids) [0,1] AN (hb 134) (GW D) rfl AA (λ_=>AA) (λ_=>AA) ?_;refine DE 6 De AA (Bw BI AA (dn C AA (AE λF E=>bs h0 λk g h0=>?_)));have n:∀y i j c,k=(y,i,j,c)->∀s,Wk 2 s ⟨27,AP [(0,BG),(4,CY),(5,i64 f.1),(6,IH)],Dz tm y s1 [Jj,Jl i j c]⟩->F s:=by
  rintro y i j c rfl s G;refine E _ (AG G (AE λH o=>?_));refine L0 [MK s1,Jj,Jl i j c] 6 ?_;refine BL BG AN AA (λ_ _=>BP AA) (BL (i64 f.1) AN AA (λ_ _=>BP AA) (bs h0 λb p h0=>?_));refine TU (DV b.1.op b.1.num b.1.kids) (FB tm b.2) [0] AN (hb 135) (Ue p) rfl (λ_=>AA) ?_;refine BL (DV i j c) AN AA (λ_ _=>Cq BI AA AA AA tL rfl) ?_;refine F3 AN (λI zz=>Gu (l:=[b.1,AD.mk i j c]) (enc:=Ar) AN BZ (by decide) rfl AA AA (by simp only[List.map,Af];rfl) rfl (Ah Aa) (As AA)) ?_;refine bs h0 λd q h0=>F3 AN (λI zz=>BU (v:=Bc d) AN (hb 114) (BS q) rfl AA AA (As AA)) (FU AA (Bw BI AA (dn o AA ?_)));cases h0;exact An ⟨_,(AM (L:=[(4,CY)]) (st':=Dz tm b.2 s1 [Jl d.op d.num d.kids]) [0,1,2] AA AA (.w (.p (.w .nil))) ⟨.rfl,pA⟩).trans (Ag (L:=[(4,CY)]) ⟨.rfl,pA⟩),FX (.tmp 4) (Lh d) BI AA _ ⟨AA,AA⟩⟩
 refine sr AA λJ t=>AS AA (bs g λe u g=>?_);refine Hl (HJ tm e.2 s1 tp (Ck [Jl a.1.op a.1.num a.1.kids])) (i64 e.1) [0] AN (hb 83) (Ay u) rfl AA ?_;refine AS AA (dn t AA ?_);refine ci g AA ?_ ?_<;>intro K g
 .refine AF AA (AS AA ?_);refine CC 7 [a.1] Ar BZ (by simp only[List.map,Af];rfl) ?_;refine Au (Wk.BY (L:=[(0,BG),(4,IH),(5,i64 f.1),(6,.ptr 6 0 0 0),(19,ls Ar [a.1])]) (st':=HJ tm e.2 s1 tp (Ck [Jl a.1.op a.1.num a.1.kids,D0])) (id:=7) rfl (show 2<=7 by decide) (Ah Aa) ⟨.rfl,.rfl,.rfl,.rfl,.BY AA,pA⟩ AA) (bs g λh w g=>Df (Bc h) (hb 114) (BS w) rfl (Bw BI AA ?_));exact AB (n e.2 h.op h.num h.kids (AT g) _ (AM [0,1,3,6] AA AA (.w (.p (.w (.w .nil)))) (.same AA)))
 .exact AH (n e.2 a.1.op a.1.num a.1.kids (AT g) _ (AM [0,1,3,6] AA AA (.w (.p (.w (.w .nil)))) (.same AA)))
end
end Go.Proofs.YtihdgoiebmfapaaGreat
