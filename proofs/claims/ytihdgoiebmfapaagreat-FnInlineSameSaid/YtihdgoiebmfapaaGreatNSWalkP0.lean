import Derived.Test.YtihdgoiebmfapaaGreatGAbsZRToAbsZS
import Derived.Test.YtihdgoiebmfapaaGreatCFWalk
import Derived.Test.YtihdgoiebmfapaaGreatLAWalk
set_option linter.all false
namespace Go.Proofs.YtihdgoiebmfapaaGreat
noncomputable section
open Go Go.Abs RC
attribute [local irreducible] Go.Abs.EK
set_option maxRecDepth 100000
theorem Ip:([11,12,17,18,19,20,21,22,23,24,25,26,27,29,31,32,33,34,39,40,41,42,43,44,45,46,47,48,49,50,51,52,53,54,55,56,57,58,59,60,61,62,63,65,66,67,69,70,72,73,74,75,76,77,78,79,80,81,82,83,84,85,86,87,88,89,90,91,92,93,94,95,96,97,98,99,100,101,102,103,104,106,108,109,110,111,112,113,114,115,116,117,118,119,120,121,122,123,126,127,128,130,131,132,133,134,135,136,137,138,139,140,141,142,143,144,145,146,147].all λn=>Cq Tryz.prog n)=true:=by kernel_rfl
theorem hb (n:Nat)(h:[11,12,17,18,19,20,21,22,23,24,25,26,27,29,31,32,33,34,39,40,41,42,43,44,45,46,47,48,49,50,51,52,53,54,55,56,57,58,59,60,61,62,63,65,66,67,69,70,72,73,74,75,76,77,78,79,80,81,82,83,84,85,86,87,88,89,90,91,92,93,94,95,96,97,98,99,100,101,102,103,104,106,108,109,110,111,112,113,114,115,116,117,118,119,120,121,122,123,126,127,128,130,131,132,133,134,135,136,137,138,139,140,141,142,143,144,145,146,147].contains n=true:=by decide):Cq Tryz.prog n=true:=pG.1 Ip n (List.contains_iff_mem.1 h)
abbrev FT (z0:List Int)(z1:Int):Go.Abs.Row:=⟨0,72,2,[[ls FP z0,i64 z1]]⟩
abbrev Kr:Go.Abs.Row:=⟨0,35,3,[[i64 0,i64 0,.zc]]⟩
abbrev GM (z0 z1:Int)(z2:List AD):Go.Abs.Row:=⟨0,35,3,[[i64 z0,i64 z1,ls Ar z2]]⟩
abbrev Qa:Go.Abs.Row:=⟨0,26,2,[[.zc,.zc]]⟩
abbrev mq (z0:List AK):Go.Abs.Row:=⟨0,26,2,[[ls Ah z0,.zc]]⟩
abbrev FM (z0:List Int)(z1:Int):Go.Abs.Row:=⟨0,72,2,[[ls FP z0,i64 z1]]⟩
abbrev KL:Go.Abs.Row:=⟨0,26,2,[[.zc,.zc]]⟩
abbrev bT (z0:List AK)(z1:List AU):Go.Abs.Row:=⟨0,26,2,[[ls Ah z0,ls BP z1]]⟩
abbrev mP (z0 z1:Int)(z2:List AD):Go.Abs.Row:=⟨0,35,3,[[i64 z0,i64 z1,ls Ar z2]]⟩
abbrev Ul (z0:Int):Go.Abs.Row:=⟨0,3,1,[[i64 z0]]⟩
abbrev iF:Go.Abs.Row:=⟨0,80,3,[[i64 0,i64 0,.zc]]⟩
abbrev dg:Go.Abs.Row:=⟨0,99,2,[[.zc,.zc]]⟩
abbrev HH (z0:List AK)(z1:List AU):Go.Abs.Row:=⟨0,26,2,[[ls Ah z0,ls BP z1]]⟩
abbrev PY (z0 z1:Int)(z2:List AD):Go.Abs.Row:=⟨0,35,3,[[i64 z0,i64 z1,ls Ar z2]]⟩
abbrev Hk:Go.Abs.Row:=⟨0,35,3,[[i64 0,i64 0,.zc]]⟩
abbrev I8 (z0:Int):Go.Abs.Row:=⟨0,3,1,[[i64 z0]]⟩
abbrev VZ:Go.Abs.Row:=⟨0,26,2,[[.zc,.zc]]⟩
abbrev Cx (z0:List AK)(z1:List AU):Go.Abs.Row:=⟨0,26,2,[[ls Ah z0,ls BP z1]]⟩
abbrev DC (z0:Int):Go.Abs.Row:=⟨0,3,1,[[i64 z0]]⟩
abbrev Mm (z0 z1:Int)(z2:List AD):Go.Abs.Row:=⟨0,35,3,[[i64 z0,i64 z1,ls Ar z2]]⟩
abbrev JV:Go.Abs.Row:=⟨0,26,2,[[.zc,.zc]]⟩
abbrev jd:Go.Abs.Row:=⟨0,35,3,[[i64 0,i64 0,.zc]]⟩
abbrev nv (z0:List Int)(z1 z2 z3:Int)(z4:List AD):Go.Abs.Row:=⟨0,37,5,[[ls eI z0,i64 z1,i64 z2,i64 z3,ls Ar z4]]⟩
abbrev ot (z0:List AK)(z1:List AU):Go.Abs.Row:=⟨0,26,2,[[ls Ah z0,ls BP z1]]⟩
abbrev LZ (z0:AD):=([i64 z0.op,i64 z0.num,ls Ar z0.kids]:List AV)
abbrev X6 (z0:AU):=([ls eI z0.params,i64 z0.result,i64 z0.body.op,i64 z0.body.num,ls Ar z0.body.kids]:List AV)
abbrev dp z0{α1:Type}(z1:List α1):=(⟨0,26,2,[[ls Ah z0,ow 1 0 z1]]⟩:Row)
abbrev BG:=((.ptr 0 0 0 0):AV)
abbrev ML z0:=((ro 0 37 5 BP z0):Row)
abbrev DS (z0 z1 z2:_):=((.agg [i64 z0,i64 z1,ls Ar z2]):AV)
abbrev CV:=((.ptr 2 0 0 0):AV)
abbrev CM:=((.ptr 1 0 0 0):AV)
abbrev nq (z0:AJ):=([ls Ah z0.decls,ls BP z0.funcs]:List AV)
abbrev D1:=(⟨1,35,3,[]⟩:Row)
abbrev BY z0:=((ro 0 3 1 eI z0):Row)
abbrev Bd z0:=((.agg (LZ z0)):AV)
abbrev IJ:=((.ptr 3 0 0 0):AV)
abbrev H3 z0{α1:Type}(z1:List α1):=((.agg [ls Ah z0,ow 1 0 z1]):AV)
abbrev G8 (z0:AD):=((ro 0 35 3 (Bv 35) z0.kids):Row)
abbrev Gh z0:=((ro 0 35 3 (Bv 35) z0):Row)
abbrev Mb z0:=(⟨0,99,2,[Gx z0]⟩:Row)
abbrev G4 z0:=((ro 0 35 3 Ar z0):Row)
abbrev Qb (z0:AD):=([i64 z0.op,i64 z0.num,ow 3 0 z0.kids]:List AV)
abbrev UZ (z0:AU):=((.agg [i64 z0.body.op,i64 z0.body.num,ls Ar z0.body.kids]):AV)
abbrev D5 z0:=((ls Ah z0):AV)
abbrev EP z0:=((.C9 (LZ z0) 0):AV)
abbrev hX (z0 z1:_):=((.C9 [i64 0,i64 0,ls CL [z0,z1]] 0):AV)
abbrev dS:=([.sl (List.map Ah []),.sl (List.map BP [])]:List AV)
abbrev G7 {α0:Type}(z0:List α0):=((i64 (Sh.len z0)):AV)
abbrev OI:=(⟨1,80,3,[]⟩:Row)
abbrev Rf z0:=([⟨0,62,1,[[ow 1 0 z0]]⟩,ro 0 4 1 eB z0]:List Row)
abbrev gx (z0 z1:_)(z2:AU):=(⟨0,37,5,hole z0 (ES 3 35) z1 [ow 6 0 z2.params,i64 z2.result,i64 z2.body.op,i64 z2.body.num,ow 7 0 z2.body.kids]⟩:Row)
abbrev IX:=(⟨0,35,3,[]⟩:Row)
abbrev Pf z0:=((ro 0 37 5 (ES 3 35) z0):Row)
abbrev I5 z0:=((ro 0 80 3 Ah z0):Row)
abbrev Ha z0:=((ls Ar z0):AV)
abbrev Qt z0:=((ro 0 80 3 (Bu 82 3) z0):Row)
abbrev LF z0:=((.ptr 1 0 (Int.toNat z0) 0):AV)
abbrev gQ {α0:Type}(z0:List α0){α1:Type}(z1:List α1):=(⟨0,26,2,[[ow 2 0 z0,ow 3 0 z1]]⟩:Row)
abbrev bX z0:=([⟨0,62,1,[[.own 1 0 (List.length z0)]]⟩,⟨0,4,1,List.map eB z0⟩]:List Row)
abbrev Ku z0:=((.agg (Gx z0)):AV)
abbrev Mn:=(⟨1,82,1,[]⟩:Row)
abbrev Ux (z0:AD):=([i64 z0.op,i64 z0.num,ow 0 0 z0.kids]:List AV)
abbrev TI (z0 z1:_){α2:Type}(z2:List α2):=(⟨0,35,3,[[i64 z0,i64 z1,ow 0 0 z2]]⟩:Row)
abbrev I0:=((.ptr 4 0 0 0):AV)
abbrev WD (z0:AD):=([i64 z0.op,i64 z0.num,ow 5 0 z0.kids]:List AV)
abbrev WE (z0:AD) z1{α2:Type}(z2:List α2):=(⟨0,35,3,[[i64 z0.op,i64 z1,ow 1 0 z2]]⟩:Row)
abbrev Ga z0:=((.agg (X6 z0)):AV)
abbrev Kt z0:=((i64 (Sh.w (z0+1))):AV)
abbrev Tz (z0 z1 z2:_):=([i64 z0,i64 z1,Ha z2]:List AV)
abbrev Ns (z0 z1 z2 z3 z4 z5:_):=((ro 0 37 5 BP [z0,z1,z2,z3,z4,z5]):Row)
abbrev Y3:=((.own 0 0 (List.length ([]:List Int))):AV)
abbrev Uc (z0 z1:_):=([D5 z0,ls BP z1]:List AV)
abbrev Rp:=((.sl (List.map eI [])):AV)
abbrev bg:=((.sl (List.map CL [])):AV)
abbrev KN z0:=((.agg (CL z0)):AV)
abbrev KT z0:=((.agg (nq z0)):AV)
abbrev Ug:=(⟨1,37,5,[]⟩:Row)
abbrev fA:=((.sl (List.map Ar [])):AV)
abbrev Ye (z0:AU):=((ro 0 35 3 (Bv 35) z0.body.kids):Row)
abbrev aA:=([.sl (List.map Ah []),.zc]:List AV)
abbrev Yc (z0 z1:_):=((.C8 [.agg (Ah z0),.bool z1]):AV)
abbrev eV (z0:AD):=([i64 z0.op,i64 z0.num,ow 4 0 z0.kids]:List AV)
abbrev bL (z0:AD):=((i64 (Sh.len z0.kids)):AV)
abbrev TV:=([⟨1,3,1,[]⟩]:List Row)
abbrev Y4 z0{α1:Type}(z1:List α1)(z2 z3 z4:_):=([BG,H3 z0 z1,ls eI z2,i64 z3,i64 z4]:List AV)
abbrev dY (z0:AJ):=((ls BP z0.funcs):AV)
abbrev Sn z0:=((ro 0 35 3 Ar [z0]):Row)
abbrev XM z0:=(⟨0,80,3,[Ah z0]⟩:Row)
abbrev WI (z0 z1:_){α2:Type}(z2:List α2):=([i64 z0,i64 z1,ow 3 0 z2]:List AV)
abbrev WX z0:=((.C9 (BP z0) 0):AV)
abbrev iR (z0:AD) z1:=([i64 z0.op,i64 z0.num,Ha z1]:List AV)
abbrev nH (z0:AU):=([ow 7 0 z0.params,i64 z0.result,i64 z0.body.op,i64 z0.body.num,ow 6 0 z0.body.kids]:List AV)
abbrev oB:=([.own 2 0 (List.length ([]:List AK)),.own 3 0 (List.length ([]:List AU))]:List AV)
abbrev aj (z0:AD):=((ls Ar z0.kids):AV)
abbrev TG z0:=((.C9 (Ah z0) 0):AV)
abbrev S5:=((.ptr 5 0 0 0):AV)
abbrev dT z0{α1:Type}(z1:List α1):=(⟨0,26,2,[[D5 z0,ow 1 1 z1]]⟩:Row)
abbrev Xg (z0 z1 z2:_):=([KT z0,ls eI z1,Bd z2]:List AV)
abbrev iK (z0 z1 z2 z3:_):=([KL,FM z0 z1,Ug,bT z2 z3,⟨1,3,1,[]⟩]:List Row)
abbrev gX (z0 z1 z2:_):=(⟨0,35,3,hole z0 (Bv 35) z1 (Qb z2)⟩:Row)
abbrev lx:=((ro 0 80 3 (Bu 82 3) ([]:List AK)):Row)
abbrev gK z0{α1:Type}(z1:List α1):=(⟨0,26,2,[[D5 z0,ow 2 0 z1]]⟩:Row)
abbrev kr (z0 z1 z2:_){α3:Type}(z3:List α3) z4:=([D5 z0,.agg [i64 z1,i64 z2,ow 0 0 z3],i64 z4,.fn 42 [CM,CV]]:List AV)
abbrev jM z0:=((.agg [i64 0,i64 0,ls CL [z0]]):AV)
abbrev iZ:=([i64 0,i64 0,bg]:List AV)
abbrev cU z0:=((.ptr 4 0 (Int.toNat z0) 0):AV)
abbrev kM z0:=((ls (eS eI) z0):AV)
abbrev TW z0:=((ro 0 3 1 eI [z0]):Row)
abbrev Ym (z0:AK):=((i64 (Sh.len z0.cons)):AV)
abbrev ma (z0:AU):=((.agg [i64 z0.body.op,i64 z0.body.num,ow 7 0 z0.body.kids]):AV)
abbrev jo:=((.agg [i64 1,i64 0,.zc]):AV)
abbrev jn {α0:Type}(z0:List α0){α1:Type}(z1:List α1):=(⟨0,26,2,[[ow 1 0 z0,ow 3 0 z1]]⟩:Row)
abbrev UD z0:=((.C9 (eI z0) 0):AV)
abbrev gw:=([i64 0,i64 0,.zc]:List AV)
abbrev gO:=(⟨0,26,2,[dS]⟩:Row)
abbrev cL z0:=((ro 1 37 5 BP z0):Row)
abbrev Z5 (z0 z1 z2:_):=([Bd z0,i64 z1,i64 z2]:List AV)
abbrev lF (z0 z1 z2:_):=((.C8 [.agg (Uc z0 z1),.bool z2]):AV)
abbrev jP (z0 z1:_):=([VZ,gQ z0 z1,Qt z0,Pf z1]:List Row)
abbrev nC:=((ro 0 37 5 (ES 3 35) ([]:List AU)):Row)
abbrev kg:=((.agg [i64 0,i64 1,.zc]):AV)
abbrev ko (z0:AD) z1{α2:Type}(z2:List α2):=(⟨0,35,3,[[i64 z0.op,i64 z1,ow 2 0 z2]]⟩:Row)
abbrev mZ:=((.own 7 0 (List.length ([]:List AK))):AV)
abbrev kp (z0 z1:_):=((.agg [i64 0,i64 0,ls CL [z0,z1]]):AV)
abbrev dH:=((.ptr 2 0 0 1):AV)
abbrev mY:=((ls eI [(1:Int),2,3,1,3,0,-1,4]):AV)
abbrev iT:=(⟨0,80,3,[]⟩:Row)
abbrev Y0 z0:=((.C9 (LZ z0) 1):AV)
abbrev iO:=(⟨0,37,5,[]⟩:Row)
abbrev nG (z0 z1:_):=([ls eI z0,i64 z1,i64 0,i64 0,fA]:List AV)
abbrev bS z0:=((ls Cv z0):AV)
abbrev gR z0:=((.C9 (X6 z0) 0):AV)
abbrev jb z0:=((.C9 (nq z0) 0):AV)
abbrev ic:=((ls eI [(0:Int)]):AV)
set_option maxHeartbeats 4000000
abbrev Bf (f:FuncId)(a:List AV)(r:List Go.Abs.Row)(v:AV)(s:List Go.Abs.Row):Prop:=BJ Tryz.prog f a r λx y=>x=v/\y=s
def tb:LN Tryz.prog where
 t:=[(22,false,1),(23,false,1),(24,false,1),(26,true,2),(3,false,1),(32,false,1),(33,false,1),(35,true,3),(37,true,5),(4,false,1),(5,false,1),(62,false,1),(78,false,1),(80,true,3),(82,true,1),(93,false,1),(95,true,3),(99,true,2)]
 f:=[(26,0,0),(26,1,1),(35,0,0),(35,1,1),(35,2,2),(37,0,0),(37,1,1),(37,2,2),(72,0,0),(72,1,1),(80,0,0),(80,1,1),(80,2,2),(82,0,0),(95,0,0),(95,1,1),(95,2,2),(99,0,0),(99,1,1)]
 v:=[]
 b:=[4]
 s:=[119,22,23,24,32,33,62,78,93]
 ht:=by kernel_rfl
 hf:=by kernel_rfl
 hv:=by kernel_rfl
 hb:=by kernel_rfl
 hs:=by kernel_rfl
section
variable {k n : Nat} {ops : Array Oper} {Q : Exit -> St -> Prop} {st : List Row} {e e' : Nat -> AV} {ds ds' : List (Option Tmp)} {t : Tmp} {op : Op} {ty : TypeId} {ps : String} {ed : Array Edge} {v : AV} {r l l' : List Oper} {jj id : Nat} {b want : Bool} {x : Operand} {t' : TypeId} {α : Type} {enc : α -> List AV} {xs : List α} {y : Code}
theorem AT (h:qL tb ⟨n,e,st⟩ op=some v)(hk:AO Tryz.prog k ops Q (ds++[some t]) r ⟨n,DQ e t v,st⟩):AO Tryz.prog k ops Q ds (⟨some t,op,ty,ps,ed,none⟩::r) ⟨n,e,st⟩:=zq tb h hk
theorem Ay (hb:b=want)(h:gL tb ds jj ⟨n,e,st⟩ op=some (b,v))(hk:AO Tryz.prog k ops Q (ds++[some t]) r ⟨n,DQ e t v,st⟩):AO Tryz.prog k ops Q ds (⟨some t,op,ty,ps,ed,some (jj,want)⟩::r) ⟨n,e,st⟩:=zg tb hb h hk
theorem Ac (m:Nat)(h:Go.Abs.runN tb n st m l ds e=some (l',ds',e'))(hk:AO Tryz.prog k ops Q ds' l' ⟨n,e',st⟩):AO Tryz.prog k ops Q ds l ⟨n,e,st⟩:=zm tb m h hk
theorem Ap (h:(Go.Abs.ZX tb n st ops.toList e,ops.toList.all λo=>Cy n o.dst)=(some e',true))(hk:AW Tryz.prog k y Q ⟨n,e',st⟩):AW Tryz.prog k (.seq (.region id ops false) y) Q ⟨n,e,st⟩:=zr tb (qX Prod.fst h) (qX Prod.snd h) hk
theorem CY (h:(has tb.s t',St.ev ⟨n,e,st⟩ x)=(true,.sl (xs.map enc)))(hk:AO Tryz.prog k ops Q (ds++[some t]) r ⟨n,DQ e t (i64 (Sh.len xs)),st⟩):AO Tryz.prog k ops Q ds (⟨some t,.call ⟨.builtin .len,#[x],#[t']⟩,ty,ps,ed,none⟩::r) ⟨n,e,st⟩:=zl tb (qX Prod.fst h) (qX Prod.snd h) hk
end
abbrev E9 (z0:List Int)(z1:Int):Go.Abs.Row:=⟨0,72,2,[[ls FP z0,i64 z1]]⟩
abbrev Jl:Go.Abs.Row:=⟨0,35,3,[[i64 0,i64 0,.zc]]⟩
abbrev Jo (z0 z1:Int)(z2:List AD):Go.Abs.Row:=⟨0,35,3,[[i64 z0,i64 z1,ls Ar z2]]⟩
abbrev ZI (z0:List AK)(z1:List AU):Go.Abs.Row:=⟨0,26,2,[[ls Ah z0,ls BP z1]]⟩
abbrev Ch (r:List (Go.Abs.Row)):=⟨1,3,1,[]⟩::⟨1,3,1,[]⟩::r
abbrev OQ (r:List (Go.Abs.Row)):=⟨0,3,1,[]⟩::⟨0,3,1,[]⟩::⟨0,3,1,[]⟩::r
abbrev Gt (z0:List Int)(z1:Int)(z2 z3:_)(r:List (Go.Abs.Row)):=(FT z0 z1)::(ML z2)::(dp z3 z2)::Kr::r
abbrev Rg (z0 z1 z2:_)(r:List (Nat×AV)):=(0,BG)::(2,ls eI z0)::(3,i64 z1)::(4,i64 z2)::(6,CV)::(10,IJ)::r
abbrev HG (z0:List Int)(z1:Int)(z2 z3:_)(r:List (Go.Abs.Row)):=(E9 z0 z1)::(ML z2)::(dp z3 z2)::Jl::r
abbrev Pj (z0 z1:_)(r:List (Nat×AV)):=(0,BG)::(2,i64 z0)::(3,i64 z1)::(5,CV)::(8,IJ)::r
abbrev Nn z0(r:List (Nat×AV)):=(0,BG)::(2,i64 z0)::(4,CV)::(6,IJ)::r
abbrev Z6 (z0 z1:_)(z2:AD) z3(r:List (Nat×AV)):=(1,i64 z0)::(2,i64 z1)::(3,BG)::(6,CV)::(27,aj z2)::(28,bL z2)::(29,i64 z3)::r
abbrev Ri (z0 z1:_)(r:List (Nat×AV)):=(13,Ha z0)::(14,G7 z0)::(15,i64 z1)::r
abbrev Rt (z0 z1:_)(r:List (Nat×AV)):=(1,ls eI z0)::(3,kM z1)::(4,BG)::r
abbrev hH z0(z1:AD)(r:List (Nat×AV)):=(1,ls eI z0)::(3,BG)::(5,CM)::(7,.bool (decide (z1.num=0)))::(15,i64 z1.op)::r
abbrev Dy (z0:List Int)(z1:Int) z2(r:List (Go.Abs.Row)):=(E9 z0 z1)::(ML z2)::r
abbrev PT (r:List (Nat×AV)):=(0,BG)::(2,CM)::(3,IJ)::r
abbrev Yh (z0:AD)(r:List (Nat×AV)):=(4,CM)::(65,i64 z0.op)::(67,i64 z0.num)::r
abbrev aU (z0 z1:_)(r:List (Nat×AV)):=(0,D5 z0)::(2,i64 z1)::(3,.fn 42 [CM,CV])::r
abbrev Ok (z0 z1:_)(r:List (Nat×AV)):=(2,i64 z0)::(3,ls eI z1)::r
abbrev VC (z0:AJ)(r:List (Nat×AV)):=(2,BG)::(3,CM)::(11,dY z0)::r
abbrev jz (z0 z1:_)(r:List (Nat×AV)):=(1,.fn 42 [BG,CM])::(2,jb z0)::(4,CV)::(6,IJ)::(7,i64 z1)::r
abbrev KC (z0 z1:_)(r:List (Go.Abs.Row)):=(ML z0)::(dp z1 z0)::r
abbrev et z0{α1:Type}(z1:List α1) z2(r:List (Nat×AV)):=(1,i64 z0)::(2,BG)::(5,ow 1 0 z1)::(6,i64 z2)::r
abbrev jl {α0:Type}(z0:List α0)(z1 z2:_)(r:List (Nat×AV)):=(3,ow 1 0 z0)::(63,ow 1 0 z0)::(64,i64 z1)::(66,i64 z2)::r
abbrev dM (z0 z1:_)(z2:AD)(r:List (Go.Abs.Row)):=(BY z0)::(Mb z1)::(PY z2.op z2.num z2.kids)::r
abbrev LG (z0:List Int)(z1:Int) z2(r:List (Go.Abs.Row)):=(FT z0 z1)::(ML z2)::r
abbrev Rr (z0:List Int)(z1:Int)(z2:List AK)(r:List (Go.Abs.Row)):=(FT z0 z1)::Qa::OI::(mq z2)::r
abbrev VJ {α0:Type}(z0:List α0) z1(r:List (Nat×AV)):=(13,G7 z0)::(14,i64 z1)::r
abbrev fB (z0 z1:_){α2:Type}(z2:List α2)(r:List (Nat×AV)):=(0,ls eI z0)::(1,i64 z1)::(5,ow 0 0 z2)::r
abbrev aa (z0:List Int)(z1:Int) z2(r:List (Go.Abs.Row)):=(FM z0 z1)::(I5 z2)::⟨1,3,1,[]⟩::r
abbrev NL (z0:Int)(z1:List AK)(z2:List AU)(r:List (Go.Abs.Row)):=(I8 z0)::(HH z1 z2)::D1::r
abbrev bI (z0 z1 z2 z3:_)(r:List (Nat×AV)):=(0,BG)::(3,hX z0 z1)::(4,hX z2 z3)::r
abbrev dG (r:List (Go.Abs.Row)):=Mn::OI::⟨1,3,1,[]⟩::r
abbrev dO (z0 z1:_)(r:List (Go.Abs.Row)):=VZ::(gQ z0 z1)::(Qt z0)::(Pf z1)::r
abbrev eZ (r:List (Nat×AV)):=(4,BG)::(5,.bool false)::r
abbrev jX (z0 z1:_)(r:List (Nat×AV)):=(1,i64 z0)::(2,i64 z1)::(3,BG)::(6,CM)::r
abbrev PB (z0:List Int)(z1:Int) z2(r:List (Go.Abs.Row)):=(FT z0 z1)::Kr::(G4 z2)::r
abbrev me (z0:AJ)(r:List (Go.Abs.Row)):=(ro 0 80 3 (Bu 82 3) z0.decls)::(ro 0 37 5 (ES 3 35) z0.funcs)::r
abbrev mB (z0 z1:_)(r:List (Nat×AV)):=(0,BG)::(3,CV)::(4,IJ)::(5,i64 z0)::(6,gR z1)::r
abbrev dc (z0:AD)(r:List (Go.Abs.Row)):=(Mm z0.op z0.num z0.kids)::jd::r
abbrev jV {α0:Type}(z0:List α0){α1:Type}(z1:List α1) z2(r:List (Nat×AV)):=(11,ow 4 0 z0)::(12,ow 5 0 z1)::(13,i64 z2)::r
abbrev iH z0(z1:AD)(r:List (Go.Abs.Row)):=(Mb z0)::(mP z1.op z1.num z1.kids)::r
abbrev lT {α0:Type}(z0:List α0) z1(r:List (Nat×AV)):=(3,ow 1 0 z0)::(27,ow 1 0 z0)::(28,i64 z1)::r
abbrev dL {α0:Type}(z0:List α0)(r:List (Nat×AV)):=(2,BG)::(5,ow 1 0 z0)::r
theorem R3:I6 Tryz.prog 35=true:=by kernel_rfl
theorem Vq:I6 Tryz.prog 37=true:=by kernel_rfl
theorem nw:I6 Tryz.prog 72=true:=by kernel_rfl
theorem Mj:I6 Tryz.prog 80=true:=by kernel_rfl
theorem kU:I6 Tryz.prog 82=true:=by kernel_rfl
theorem R6:Kl Tryz.prog 35=some [(0,1),(1,1),(2,1)]:=by kernel_rfl
theorem Ve:Kl Tryz.prog 37=some [(0,1),(1,1),(2,3)]:=by kernel_rfl
theorem oF:Kl Tryz.prog 72=some [(0,1),(1,1)]:=by kernel_rfl
theorem Ml:Kl Tryz.prog 80=some [(0,1),(1,1),(2,1)]:=by kernel_rfl
theorem kT:Kl Tryz.prog 82=some [(0,1)]:=by kernel_rfl
theorem fG:fE Tryz.prog 5 3=some .i64:=by kernel_rfl
theorem fZ:DB Tryz.prog 22=some ⟨5,1,1,[.int .u8 0]⟩:=by kernel_rfl
theorem DI:DB Tryz.prog 23=some ⟨80,3,40,[.int .i64 0,.int .i64 0,.sl []]⟩:=by kernel_rfl
theorem Ck:DB Tryz.prog 24=some ⟨37,5,72,[.sl [],.int .i64 0,.int .i64 0,.int .i64 0,.sl []]⟩:=by kernel_rfl
theorem BF:DB Tryz.prog 32=some ⟨3,1,8,[.int .i64 0]⟩:=by kernel_rfl
theorem Ba:DB Tryz.prog 33=some ⟨35,3,40,[.int .i64 0,.int .i64 0,.sl []]⟩:=by kernel_rfl
theorem JZ:DB Tryz.prog 78=some ⟨82,1,24,[.sl []]⟩:=by kernel_rfl
theorem Wj:IH Tryz.prog 26 0=some 0:=by kernel_rfl
theorem Ki:IH Tryz.prog 26 1=some 1:=by kernel_rfl
theorem Tb:IH Tryz.prog 37 0=some 0:=by kernel_rfl
theorem lS:IH Tryz.prog 80 0=some 0:=by kernel_rfl
theorem nm:DG Tryz.prog 22=true:=by kernel_rfl
theorem Gd:DG Tryz.prog 32=true:=by kernel_rfl
theorem Q9:DG Tryz.prog 78=true:=by kernel_rfl
theorem dQ:Dc Tryz.prog 23=some (false,1):=by kernel_rfl
theorem P1:Dc Tryz.prog 24=some (false,1):=by kernel_rfl
theorem Dz:Dc Tryz.prog 26=some (true,2):=by kernel_rfl
theorem Hy:Dc Tryz.prog 3=some (false,1):=by kernel_rfl
theorem Le:Dc Tryz.prog 32=some (false,1):=by kernel_rfl
theorem BI:Dc Tryz.prog 35=some (true,3):=by kernel_rfl
theorem Ln:Dc Tryz.prog 37=some (true,5):=by kernel_rfl
theorem KP:Dc Tryz.prog 80=some (true,3):=by kernel_rfl
theorem Pw:Dc Tryz.prog 82=some (true,1):=by kernel_rfl
theorem Dd:IK Tryz.prog 35=some [.int .i64 0,.int .i64 0,.zc]:=by kernel_rfl
theorem MQ:IK Tryz.prog 37=some [.zc,.int .i64 0,.int .i64 0,.int .i64 0,.zc]:=by kernel_rfl
theorem nj:IK Tryz.prog 72=some [.zc,.int .i64 0]:=by kernel_rfl
theorem HV:IK Tryz.prog 80=some [.int .i64 0,.int .i64 0,.zc]:=by kernel_rfl
theorem SB:IK Tryz.prog 82=some [.zc]:=by kernel_rfl
theorem S4 {p0:List Int}{r:(List Int)×Int}(h0:JF p0=some r):Bf 26 [ls FP p0] [] BG [E9 r.1 r.2]:=by
 unfold JF at h0;refine ai Tryz.func26 AA AA AA AA (Ap AA (AE λk c=>bs h0 λg b h0=>?_));have h:∀a,g=a->∀s,Wk 0 s ⟨11,AP [(0,ls FP a)],[]⟩->k s:=by
  intro a o s l;subst g;refine c _ (AG l (sr AA λp d=>AT AA (zz (.agg [ls FP a,i64 0]) (DK nw oF nj AA AA) rfl (Ee 0 AA (AT AA (dn d AA ?_))))));cases h0;exact rt [(2,BG)]
 refine sr AA λq e=>AT AA (CY AA (AT AA (dn e AA ?_)));refine ci b AA ?_ ?_<;>intro t b
 .exact AF AA (AT AA (bs b λn f b=>TZ (i:=0) (j:=2000) AN fZ AA AA AA (λ_=>AA) f (AT AA (AB (h n (AS b) _ Aq)))))
 .exact AH (h p0 (AS b) _ Aq)
theorem EE {p0:List Int}{r:D7}(h0:Fk p0=some r):Bf 117 [ls eI p0] [] (KN r) []:=by
 unfold Fk at h0;refine Ci AA (ai Tryz.func117 AA AA AA AA (sr AA λc a=>DL 0 SB AA (dn a AA (sr AA λd b=>AT AA (zz (.agg [ls eI p0]) (DK kU kT SB AA AA) rfl (Bx Pw AA (dn b AA ?_)))))));cases h0;exact Am ⟨_,Wk.refl _ _,FY (.tmp 2) [ls eI p0] Pw AA _ AA⟩
theorem Ax {tl:List Int}{tr p1:Int}{r:Int×Int}(h0:Az tl tr p1=some r):Bf 83 [BG,i64 p1] [E9 tl tr] (i64 r.1) [E9 tl r.2]:=by
 unfold Az at h0;refine ai Tryz.func83 AA AA AA AA (Ap AA (sr AA λR z=>Ac 8 AA (Bx Hy AA (dn z AA (AE λS A=>AE λI B=>bs h0 λG e h0=>?_)))));have H:∀C,G=C->∀s,Wk 1 s ⟨99,AP [(0,BG),(1,i64 p1),(24,.bool C)],[⟨0,72,2,[[ls FP tl,Kt tr]]⟩]⟩->I s:=by
  intro C T s J;subst G;refine B _ (AG J ?_);refine ci h0 AA ?_ ?_<;>intro U h0
  .refine Ap AA ?_;cases h0;exact rt [(4,i64 0)]
  .refine AH (A _ (Ap AA (AE λK f=>sr AA λL g=>Ac 5 AA (CY AA (AT AA (dn g AA ?_))))));refine ci h0 AA ?_ ?_<;>intro M h0
   .refine sr AA λN h=>Ac 5 AA (bs h0 λD i h0=>zx fZ i AA AA AA (AT AA (zz (i64 (Sh.wk .i64 D)) (dt fG AA) rfl (AT AA (bs h0 λj k h0=>zz (i64 j) (T2 AA AA k) rfl (AT AA (dn h AA ?_)))))));cases h0;exact rt [(4,i64 j)]
   .refine AH (f _ (AE λO l=>?_));refine Cc (by kernel_rfl) (by kernel_rfl) (by rfl) ?_;iterate 9 refine yq tb rfl ?_
    refine yl tb AA AA (bs h0 λE m h0=>yz (i64 E) (T2 AA AA m) rfl (bs h0 λb n h0=>yx fZ n AA AA AA (yq tb AA (yz (i64 (Sh.wk .i64 b)) (dt fG AA) rfl ?_))));iterate 12 refine yq tb rfl ?_
    refine yl tb AA AA (bs h0 λF o h0=>yz (i64 F) (T2 AA AA o) rfl (bs h0 λc p h0=>yx fZ p AA AA AA (yq tb AA (yz (i64 (Sh.wk .i64 c)) (dt fG AA) rfl ?_))));iterate 10 refine yq tb rfl ?_
    refine yl tb AA AA (bs h0 λd q h0=>yz (i64 d) (XN AA AA q) rfl ?_);iterate 3 refine yq tb rfl ?_
    refine Av (l _ (sr AA λP t=>Ac 2 AA ?_));refine zz (i64 (Sh.w (Int.tdiv (Sh.w ((Sh.w ((Sh.w ((Sh.w ((Sh.wk .i64 b)*131))+Sh.w ((Sh.wk .i64 c)*1117)))+Sh.w ((Sh.w ((Sh.w (tr+1))-1))*29)))+Sh.w (d*53))) 64))) (Wl AA AA (by decide)) rfl ?_;refine zz (i64 (Sh.xor (Sh.w ((Sh.w ((Sh.w ((Sh.w ((Sh.wk .i64 b)*131))+Sh.w ((Sh.wk .i64 c)*1117)))+Sh.w ((Sh.w ((Sh.w (tr+1))-1))*29)))+Sh.w (d*53))) (Sh.w (Int.tdiv (Sh.w ((Sh.w ((Sh.w ((Sh.w ((Sh.wk .i64 b)*131))+Sh.w ((Sh.wk .i64 c)*1117)))+Sh.w ((Sh.w ((Sh.w (tr+1))-1))*29)))+Sh.w (d*53))) 64)))) (lg AA AA) rfl (AT AA (dn t AA (sr AA λQ u=>Ac 2 AA (bs h0 λx y h0=>zz (i64 x) (T2 AA AA y) rfl (AT AA (dn u AA ?_))))));cases h0;exact rt [(4,i64 x)]
 refine AF AA (Ac 3 AA ?_);rcases Sh.Ae e with ⟨a,e⟩|⟨a,e⟩
 .refine zs a AA ?_;iterate 5 refine zs a rfl ?_
  exact zt a AA (AB (H true (AS e) _ Aq))
 .refine Ay a AA ?_;iterate 3 refine Ay a rfl ?_
  exact BW (v:=G7 tl) (CR AA AA a) rfl (CU nm AA) (Ay a AA (zf a AA (AB (H (decide ((Sh.len tl)=0)) (AS e) _ Aq))))
theorem NX {tl:List Int}{tr:Int}{r:(List AK)×Int}(h0:Hu tl tr=some r):Bf 87 [BG] [E9 tl tr] (ow 1 0 r.1) [E9 tl r.2,I5 r.1]:=by
 unfold Hu at h0;refine ai Tryz.func87 AA AA AA AA (Ap AA (sr AA λT F=>?_));refine CC 1 ([]:List Int) eI BF AA ?_;refine EU [(0,BG),(8,Rp)] [E9 tl tr,⟨1,3,1,[]⟩] 1 AA ⟨.rfl,.BZ AA,oz⟩ (λ_=>AA) rfl (bs h0 λe G h0=>D0 (KN e) (hb 117) (EE G) rfl ?_);refine CC 2 [(0:Int),1] eI BF AA ?_;refine EU [(0,BG),(9,KN e),(10,ls eI [(0:Int),1])] ((E9 tl tr)::Ch []) 2 AA ⟨.rfl,.rfl,.BZ AA,oz⟩ (λ_=>AA) rfl (bs h0 λf H h0=>D0 (KN f) (hb 117) (EE H) rfl ?_);refine CC 3 [e,f] CL JZ AA ?_;refine zz (.agg [i64 0,i64 0,ow 3 0 [e,f]]) (DK Mj Ml HV AA AA) rfl (DL 4 HV AA (EU [(0,BG),(3,I0),(13,kp e f)] ((E9 tl tr)::Ch [Mn,⟨0,80,3,[gw]⟩]) 3 AA ⟨.rfl,.rfl,.agg ⟨.rfl,.rfl,.IF AA,oz⟩,oz⟩ (λ_=>AA) rfl (Bx KP AA (As (Wk.BZ (L:=[(0,BG),(3,hX e f)]) (st':=((E9 tl tr)::Ch [Mn,OI])) (id:=4) rfl tY (Ek AA) (.same AA) rfl) (dn F AA (sr AA λU I=>?_))))));refine CC 5 ([]:List Int) eI BF AA ?_;refine EU [(0,BG),(3,hX e f),(14,Rp)] ((E9 tl tr)::Ch (dG [])) 5 AA ⟨.rfl,.rfl,.BZ AA,oz⟩ (λ_=>AA) rfl (bs h0 λg J h0=>D0 (KN g) (hb 117) (EE J) rfl ?_);refine CC 6 [(3:Int),0,3] eI BF AA ?_;refine EU [(0,BG),(3,hX e f),(15,KN g),(16,ls eI [(3:Int),0,3])] ((E9 tl tr)::Ch (Mn::OI::Ch [])) 6 AA ⟨.rfl,.rfl,.rfl,.BZ AA,oz⟩ (λ_=>AA) rfl (bs h0 λh K h0=>D0 (KN h) (hb 117) (EE K) rfl ?_);refine CC 7 [g,h] CL JZ AA ?_;refine zz (.agg [i64 0,i64 0,ow 7 0 [g,h]]) (DK Mj Ml HV AA AA) rfl (DL 8 HV AA (EU [(0,BG),(3,hX e f),(4,.ptr 8 0 0 0),(19,kp g h)] ((E9 tl tr)::Ch (Mn::OI::Ch [Mn,⟨0,80,3,[gw]⟩])) 7 AA ⟨.rfl,.rfl,.rfl,.agg ⟨.rfl,.rfl,.IF AA,oz⟩,oz⟩ (λ_=>AA) rfl (Bx KP AA (As (Wk.BZ (L:=bI e f g h []) (st':=((E9 tl tr)::Ch (Mn::OI::Ch [Mn,OI]))) (id:=8) rfl (show 1<=8 by decide) (Ek AA) (.same AA) rfl) (dn I AA (sr AA λV M=>?_))))));refine CC 9 [(1:Int),3] eI BF AA ?_;refine EU (bI e f g h [(20,ls eI [(1:Int),3])]) ((E9 tl tr)::Ch (Mn::OI::Ch (dG []))) 9 AA ⟨.rfl,.rfl,.rfl,.BZ AA,oz⟩ (λ_=>AA) rfl (bs h0 λi N h0=>D0 (KN i) (hb 117) (EE N) rfl ?_);refine CC 10 [i] CL JZ AA ?_;refine zz (.agg [i64 0,i64 0,ow 10 0 [i]]) (DK Mj Ml HV AA AA) rfl (zz jo (DK Mj Ml HV AA AA) rfl ?_);refine CC 11 [(1:Int),1,0] eI BF AA ?_;refine EU (bI e f g h [(23,.agg [i64 0,i64 0,ow 10 0 [i]]),(24,jo),(25,ls eI [(1:Int),1,0])]) ((E9 tl tr)::Ch (Mn::OI::Ch (dG [ro 0 82 1 CL [i],⟨1,3,1,[]⟩]))) 11 AA ⟨.rfl,.rfl,.rfl,.agg ⟨.rfl,.rfl,.rfl,oz⟩,.rfl,.BZ AA,oz⟩ (λ_=>AA) rfl (bs h0 λa t h0=>D0 (KN a) (hb 117) (EE t) rfl ?_);refine CC 12 [(0:Int)] eI BF AA ?_;refine EU (bI e f g h [(23,.agg [i64 0,i64 0,ow 10 0 [i]]),(24,jo),(26,KN a),(27,ic)]) ((E9 tl tr)::Ch (Mn::OI::Ch (dG ((ro 0 82 1 CL [i])::Ch [])))) 12 AA ⟨.rfl,.rfl,.rfl,.agg ⟨.rfl,.rfl,.rfl,oz⟩,.rfl,.rfl,.BZ AA,oz⟩ (λ_=>AA) rfl (bs h0 λb u h0=>D0 (KN b) (hb 117) (EE u) rfl ?_);refine CC 13 [(3:Int)] eI BF AA ?_;refine EU (bI e f g h [(23,.agg [i64 0,i64 0,ow 10 0 [i]]),(24,jo),(26,KN a),(28,KN b),(29,ls eI [(3:Int)])]) ((E9 tl tr)::Ch (Mn::OI::Ch (dG ((ro 0 82 1 CL [i])::Ch [⟨1,3,1,[]⟩])))) 13 AA ⟨.rfl,.rfl,.rfl,.agg ⟨.rfl,.rfl,.rfl,oz⟩,.rfl,.rfl,.rfl,.BZ AA,oz⟩ (λ_=>AA) rfl (bs h0 λd w h0=>D0 (KN d) (hb 117) (EE w) rfl ?_);refine CC 14 [a,b,d] CL JZ AA ?_;refine zz (.agg [i64 0,i64 0,ow 14 0 [a,b,d]]) (DK Mj Ml HV AA AA) rfl (zz kg (DK Mj Ml HV AA AA) rfl (EU (bI e f g h [(23,jM i),(24,jo),(32,.agg [i64 0,i64 0,ow 14 0 [a,b,d]]),(33,kg)]) ((E9 tl tr)::Ch (Mn::OI::Ch (dG (Mn::Ch [⟨1,3,1,[]⟩,ro 0 82 1 CL [a,b,d]])))) 10 AA ⟨.rfl,.rfl,.rfl,.agg ⟨.rfl,.rfl,.IF AA,oz⟩,.rfl,.agg ⟨.rfl,.rfl,.rfl,oz⟩,.rfl,oz⟩ (λ_=>AA) rfl (As (Ag (L:=bI e f g h [(23,jM i),(24,.agg [i64 1,i64 0,bg]),(32,.agg [i64 0,i64 0,ow 14 0 [a,b,d]]),(33,kg)]) ⟨.rfl,.rfl,.rfl,.rfl,.agg ⟨.rfl,.rfl,.zc,oz⟩,.rfl,.rfl,oz⟩) (EU (bI e f g h [(23,jM i),(24,.agg [i64 1,i64 0,bg]),(32,.agg [i64 0,i64 0,ls CL [a,b,d]]),(33,kg)]) ((E9 tl tr)::Ch (Mn::OI::Ch (dG (Mn::Ch [⟨1,3,1,[]⟩,Mn])))) 14 AA ⟨.rfl,.rfl,.rfl,.rfl,.rfl,.agg ⟨.rfl,.rfl,.IF AA,oz⟩,.rfl,oz⟩ (λ_=>AA) rfl (As (Ag (L:=bI e f g h [(23,jM i),(24,.agg [i64 1,i64 0,bg]),(32,.agg [i64 0,i64 0,ls CL [a,b,d]]),(33,.agg [i64 0,i64 1,bg])]) ⟨.rfl,.rfl,.rfl,.rfl,.rfl,.rfl,.agg ⟨.rfl,.rfl,.zc,oz⟩,oz⟩) ?_)))));refine CC 15 ([AK.mk 0 0 [i],AK.mk 1 0 [],AK.mk 0 0 [a,b,d],AK.mk 0 1 []]) Ah DI AA ?_;refine AT AA (dn M AA (sr AA λP y=>AT AA (zz (.agg gw) (DK Mj Ml HV AA AA) rfl (AT AA (As (Ag (L:=[(0,BG),(5,.own 15 0 (List.length ([AK.mk 0 0 [i],AK.mk 1 0 [],AK.mk 0 0 [a,b,d],AK.mk 0 1 []]))),(35,kp e f),(36,.agg iZ),(37,kp g h)]) ⟨.rfl,.rfl,.rfl,.agg ⟨.rfl,.rfl,.zc,oz⟩,.rfl,oz⟩) ?_)))));refine CC 16 ([AK.mk 0 0 [e,f],AK.mk 0 0 [],AK.mk 0 0 [g,h]]) Ah DI AA ?_;refine AT AA (dn y AA (sr AA λQ z=>AT AA (bs h0 λj A h0=>?_)));refine Hl ((E9 tl j.2)::Ch (Mn::OI::Ch (dG (Mn::Ch [⟨1,3,1,[]⟩,Mn,ro 0 80 3 Ah ([AK.mk 0 0 [i],AK.mk 1 0 [],AK.mk 0 0 [a,b,d],AK.mk 0 1 []]),ro 0 80 3 Ah ([AK.mk 0 0 [e,f],AK.mk 0 0 [],AK.mk 0 0 [g,h]])])))) (i64 j.1) [0] AN (hb 83) (Ax A) rfl AA ?_;refine AT AA (dn z AA (AE λO B=>bs h0 λC n h0=>?_));have D:∀k,C=k->∀s,Wk 1 s ⟨51,AP [(6,ow 1 0 k)],[E9 tl j.2,I5 k]⟩->O s:=by
  intro k W s R;subst C;refine B _ (AG R (Ap AA ?_));cases h0;exact rt [(2,ow 1 0 k)]
 refine Ap AA ?_;refine ci n AA ?_ ?_<;>intro S n
 .refine AF AA (Ac 3 AA (bs n λo p n=>zz (.ptr 15 0 (Int.toNat j.1) 0) (CD DI AA AA AA AA p) rfl (zz (.agg (Ah o)) (Cp KP AA AA (CQ p) tK rfl) rfl ?_)));refine CC 17 [o] Ah DI AA ?_;refine bs n λq E n=>Ct (l2:=[o]) AN DI AA AA AA AA (HD AA AA) (λ_=>AA) E AA (AT AA ?_);exact AB (D q (AS n) _ (by refine Wk.trans (D4 (L:=[(6,ow 16 0 q)]) (st':=((E9 tl j.2)::⟨0,3,1,[]⟩::⟨0,3,1,[]⟩::⟨0,82,1,[]⟩::iT::⟨0,3,1,[]⟩::⟨0,3,1,[]⟩::⟨0,82,1,[]⟩::iT::⟨0,3,1,[]⟩::⟨0,82,1,[]⟩::OQ [⟨0,82,1,[]⟩,ro 0 80 3 Ah ([AK.mk 0 0 [i],AK.mk 1 0 [],AK.mk 0 0 [a,b,d],AK.mk 0 1 []]),I5 q,ro 0 80 3 Ah [o]])) (.raw AA AA AA (.pure AA (by intro x c;cases c) (.pure AA (by intro x c;cases c) (.pure AA (by intro x c;cases c) (.pure AA (by intro x c;cases c) (.pure AA (by intro x c;cases c) (.pure AA (by intro x c;cases c) (.pure AA (by intro x c;cases c) (.pure AA (by intro x c;cases c) (.pure AA (by intro x c;cases c) (.pure AA (by intro x c;cases c) (.pure AA (by intro x c;cases c) (.pure AA (by intro x c;cases c) (.pure AA (by intro x c;cases c) (.pure AA (by intro x c;cases c) (.pure AA Bn (.pure AA Bn (.pure AA Bn .nil)))))))))))))))))) (.same AA)) ?_;exact AM [0,16] AA AA (.w (.p .nil)) (.same AA)))
 .exact AH (D ([AK.mk 0 0 [e,f],AK.mk 0 0 [],AK.mk 0 0 [g,h]]) (AS n) _ (AM [0,16] AA AA (.w (.p .nil)) (.same AA)))
theorem Dn {p0:List Int}{p1:Int}{r:AU}(h0:FR p0 p1=some r):Bf 88 [ls eI p0,i64 p1] [] (Ga r) []:=by
 unfold FR at h0;refine Ci AA (ai Tryz.func88 AA AA AA AA (sr AA λc a=>DL 0 MQ AA (dn a AA (sr AA λd b=>Ac 2 AA (zz (.agg [ls eI p0,i64 p1,i64 0,i64 0,.zc]) (DK Vq Ve MQ AA AA) rfl (Bx Ln AA (dn b AA ?_)))))));cases h0;exact Am ⟨_,(HN (id:=0) (cs:=[ls eI p0,i64 p1,i64 0,i64 0,.zc]) (cs':=nG p0 p1) (st':=[⟨0,37,5,[nG p0 p1]⟩]) rfl ⟨le.rfl,le.rfl,le.rfl,le.rfl,le.zc,oz⟩ AA AA).trans (Ag (L:=[(4,BG)]) (.same AA)),FY (.tmp 4) (nG p0 p1) Ln AA _ AA⟩
theorem Bm {tl:List Int}{tr:Int}{p1:List Int}{r:Int×Int}(h0:Bw tl tr p1=some r):Bf 70 [BG,ls eI p1] [E9 tl tr] (i64 r.1) [E9 tl r.2]:=by
 unfold Bw at h0;refine ai Tryz.func70 AA AA AA AA (Ap AA (sr AA λf a=>Ac 3 AA (CY AA (bs h0 λb c h0=>?_))));refine Hl [E9 tl b.2] (i64 b.1) [0] AN (hb 83) (Ax c) rfl AA ?_;refine bs h0 λe d h0=>zx BF d AA AA AA (Ac 2 AA (dn a AA ?_));cases h0;exact rt [(4,i64 e)]
theorem Ui {N:Nat}{p0:List Int}{p1 r:Int}(h0:Ke N p0 p1=some r):Bf 118 [ls eI p0,i64 p1] [] (i64 r) []:=by
 unfold Ke at h0;refine ai Tryz.func118 AA AA AA AA (Ap AA (AE λk f=>Ap AA ?_));obtain⟨g,a,h0⟩:=Sh.Bj h0;have l:∀(_:Unit),g=Sum.inr ()->∀s,Wk 0 s ⟨19,AP [],[]⟩->k s:=by
  intro _ u s m;subst g;refine f _ (AG m (Ap AA ?_));cases h0;exact rt [(4,i64 (-1))]
 refine AL (An (σ:=Int) (λn v=>FW p0 p1 n v=some g) (λe=>⟨19,AP [(0,ls eI p0),(1,i64 p1),(5,i64 e)],[]⟩) N 0 a Aq (λ_ j=>by rw[FW]at j;cases j) ?_);rintro n e a;rw[FW]at a;refine AE λx h=>sr AA λy i=>Ac 2 AA (CY AA (AT AA (dn i AA ?_)));refine ci a AA ?_ ?_<;>intro z a
 .refine AH (h _ (AE λo b=>AL (sr AA λp c=>Ac 2 AA (bs a λq d a=>zx BF d AA AA AA (Ac 3 AA (dn c AA ?_))))));refine ci a AA ?_ ?_<;>intro t a
  .refine Ap AA ?_;cases a;cases h0;exact rt [(4,i64 e)]
  .exact AH (b _ (AF AA (Ac 3 AA (AB (xi (Sh.w (e+1)) a Aq)))))
 .exact Au (l () (AS a) _ Aq)
theorem Dj {p0:Int}{r:AD}(h0:Fs p0=some r):Bf 115 [i64 p0] [] (Bd r) []:=by
 unfold Fs at h0;refine Ci AA (ai Tryz.func115 AA AA AA AA (sr AA λc a=>DL 0 Dd AA (dn a AA (sr AA λd b=>AT AA ?_))));refine CC 1 ([]:List AD) Ar Ba (by simp only[List.map,Af];rfl) ?_;refine zz (.agg [i64 0,i64 p0,.own 1 0 (List.length ([]:List AD))]) (DK R3 R6 Dd AA AA) rfl (As (Wk.BZ (L:=[(2,BG),(5,.agg [i64 0,i64 p0,fA])]) (st':=[Jl,D1]) (id:=1) rfl tV (Ai Aa) ⟨.rfl,.agg ⟨.rfl,.rfl,.IF AA,oz⟩,oz⟩ AA) (Bx BI AA (dn b AA ?_)));cases h0;exact Am ⟨_,Wk.refl _ _,FY (.tmp 2) [i64 0,i64 p0,fA] BI AA _ AA⟩
theorem Rm {N:Nat}{p0:List Int}{p1:Int}{r:List Int}(h0:Ie N p0 p1=some r):Bf 144 [ls eI p0,i64 p1] [] (ow 0 0 r) [BY r]:=by
 unfold Ie at h0;refine ai Tryz.func144 AA AA AA AA (Ap AA (sr AA λM u=>?_));refine CC 0 ([]:List Int) eI BF AA ?_;refine AT AA (dn u AA (AE λC x=>Ap AA (bs h0 λy a h0=>?_)));have D:∀f,y=f->∀s,Wk 0 s ⟨25,AP [(5,ow 0 0 f)],[BY f]⟩->C s:=by
  intro f E s z;subst y;try dsimp only at h0
  refine x _ (AG z (Ap AA ?_));obtain rfl:=Sh.BU h0;exact rt [(4,ow 0 0 f)]
 refine AL (An (σ:=Int×(List Int)) (λn v=>ED p0 p1 n v.1 v.2=some y) (λ(d,g)=>⟨25,AP [(0,ls eI p0),(1,i64 p1),(5,ow 0 0 g),(6,i64 d)],[ro 0 3 1 eI g]⟩) N (0,[]) a Aq (λ_ B=>by rw[ED]at B;cases B) ?_);rintro n ⟨d,g⟩ a;rw[ED]at a;refine AE λF h=>sr AA λG i=>Ac 2 AA (CY AA (AT AA (dn i AA ?_)));refine ci a AA ?_ ?_<;>intro H a
 .refine AH (h _ (AE λA j=>bs a λk c a=>?_));have o:∀b,k=b->∀s,Wk 0 s ⟨25,AP (fB p0 p1 b [(6,i64 d)]),[BY b]⟩->A s:=by
   intro b E s z;subst k;exact j _ (AG z (AF AA (Ac 3 AA (AB (xi (Sh.w (d+1),b) a Aq)))))
  refine AL (sr AA λI p=>Ac 2 AA (bs c λJ q c=>zx BF q AA AA AA (Ac 3 AA (dn p AA ?_))));refine ci c AA ?_ ?_<;>intro K c
  .refine AF AA (Ac 2 AA ?_);refine CC 1 [d] eI BF AA ?_;refine bs c λe t c=>Ct (l2:=[d]) AN BF AA AA AA AA (HD AA AA) (λ_=>AA) t AA (AT AA ?_);exact AB (o e (AS c) _ (by refine Wk.trans (Da (L:=fB p0 p1 e [(6,i64 d)]) (st':=[BY e,TW d]) (.pure Bn (.pure Bn .nil)) (.same AA)) ?_;exact AM [0] AA AA (.p .nil) (.same AA)))
  .exact AH (o g (AS c) _ Aq)
 .exact Au (D g (AS a) _ Aq)
theorem De {p0 p1 p2:Int}{r:Bool}(h0:Cw p0 p1 p2=some r):Bf 72 [i64 p0,i64 p1,i64 p2] [] (.bool r) []:=by
 unfold Cw at h0;refine ai Tryz.func72 AA AA AA AA (Ap AA (AE λg d=>bs h0 λe b h0=>?_));have f:∀c,e=c->∀s,Wk 0 s ⟨15,AP [(6,.bool c)],[]⟩->g s:=by
  intro c i s h;subst e;try dsimp only at h0
  refine d _ (AG h ?_);obtain rfl:=Sh.BU h0;exact rt [(6,.bool c)]
 refine AF AA (Ac 4 AA ?_);rcases Sh.Ae b with ⟨a,b⟩|⟨a,b⟩
 .exact Ay a AA (Ay a AA (Ay a AA (zt a AA (AT AA (AB (f (decide (p0<=p2)) (AS b) _ Aq))))))
 .exact zs a AA (zs a AA (zs a AA (zf a AA (AT AA (AB (f false (AS b) _ Aq))))))
theorem KF {p0:List AK}{p1:Int}{r:Bool}(h0:HR p0 p1=some r):Bf 102 [D5 p0,i64 p1] [] (.bool r) []:=by
 unfold HR at h0;refine ai Tryz.func102 AA AA AA AA (Ap AA (AE λj d=>bs h0 λh b h0=>?_));have i:∀c,h=c->∀s,Wk 0 s ⟨19,AP [(4,.bool c)],[]⟩->j s:=by
  intro c l s k;subst h;try dsimp only at h0
  refine d _ (AG k ?_);obtain rfl:=Sh.BU h0;exact rt [(4,.bool c)]
 refine AF AA (Ac 2 AA (CY AA (bs b λm e b=>G5 (hb 72) (De e) rfl (AT AA ?_))));rcases Sh.Ae b with ⟨a,b⟩|⟨a,b⟩
 .exact Ay a AA (Ay a AA (Ay a AA (bs b λf g b=>BW (v:=TG f) (CR AA AA a) rfl (CZ DI AA AA g AA) (Ay a AA (Ay a AA (BW (v:=Ym f) (CR AA AA a) rfl (CU Q9 AA) (Ay a AA (zt a AA (AT AA (AB (i (decide ((Sh.len f.cons)=0)) (AS b) _ Aq)))))))))))
 .refine zs a AA ?_;iterate 7 refine zs a rfl ?_
  exact zf a AA (AT AA (AB (i false (AS b) _ Aq)))
theorem O5 {N:Nat}{p0:List AK}{p1 p2 r:Int}(h0:JM N p0 p1 p2=some r):Bf 128 [D5 p0,i64 p1,i64 p2] [] (i64 r) []:=by
 unfold JM at h0;refine ai Tryz.func128 AA AA AA AA (Ap AA (AE λy m=>Ap AA ?_));obtain⟨o,c,h0⟩:=Sh.Bj h0;have z:∀(_:Unit),o=Sum.inr ()->∀s,Wk 0 s ⟨41,AP [],[]⟩->y s:=by
  intro _ A s p;subst o;refine m _ (AG p (Ap AA ?_));cases h0;exact rt [(6,i64 (-1))]
 refine AL (An (σ:=Int) (λn v=>FQ p0 p1 p2 n v=some o) (λi=>⟨41,AP [(0,ls Ah p0),(1,i64 p1),(2,i64 p2),(7,i64 i)],[]⟩) N 0 c Aq (λ_ x=>by rw[FQ]at x;cases x) ?_);rintro n i c;rw[FQ]at c;refine AE λD q=>sr AA λE t=>Ac 2 AA (CY AA (AT AA (dn t AA ?_)));refine ci c AA ?_ ?_<;>intro F c
 .refine AH (q _ (AE λB j=>AL (AE λu k=>bs c λl d c=>?_)));have f:∀g,l=g->∀s,Wk 0 s ⟨41,AP [(0,D5 p0),(1,i64 p1),(2,i64 p2),(7,i64 i),(38,.bool g)],[]⟩->u s:=by
   intro g A s p;subst l;refine k _ (AG p ?_);refine ci c AA ?_ ?_<;>intro C c
   .refine Ap AA ?_;cases c;cases h0;exact rt [(6,Kt i)]
   .exact AH (j _ (AF AA (Ac 3 AA (AB (xi (Sh.w (i+1)) c Aq)))))
  refine AF AA (Ac 2 AA (bs d λh e d=>zx DI e AA AA AA (Ac 2 AA (CY AA (Ac 2 AA ?_)))));rcases Sh.Ae d with ⟨a,d⟩|⟨a,d⟩
  .refine Ay a AA (Ay a AA (BW (v:=TG h) (CR AA AA a) rfl (CZ DI AA AA e AA) ?_));iterate 4 refine Ay a rfl ?_
   refine zt a AA (AT AA ?_);rcases Sh.Ae d with ⟨b,d⟩|⟨b,d⟩
   .refine Ay b AA (Ay b AA (BW (v:=TG h) (CR AA AA b) rfl (CZ DI AA AA e AA) ?_));iterate 4 refine Ay b rfl ?_
    exact zt b AA (AB (f (decide (h.to=p2)) (AS d) _ Aq))
   .refine zs b AA ?_;iterate 6 refine zs b rfl ?_
    exact zf b AA (AB (f false (AS d) _ Aq))
  .refine zs a AA ?_;iterate 6 refine zs a rfl ?_
   refine zf a AA (AT AA ?_);iterate 7 refine zs rfl rfl ?_
   exact zf AA AA (AB (f false (AS d) _ Aq))
 .exact Au (z () (AS c) _ Aq)
theorem Nu {N:Nat}{p0:AJ}{p1:Int}{r:List Int}(h0:Ii N p0 p1=some r):Bf 147 [KT p0,i64 p1] [] (ow 0 0 r) [BY r]:=by
 unfold Ii at h0;refine ai Tryz.func147 AA AA AA AA (sr AA λZ H=>Ee 0 AA (AT AA (dn H AA (sr AA λK2 I=>?_))));refine CC 1 ([]:List Int) eI BF AA ?_;refine AT AA (dn I AA (AE λS J=>Ap AA (bs h0 λK b h0=>?_)));have T:∀k,K=k->∀s,Wk 0 s ⟨53,AP [(5,ow 0 0 k)],[BY k]⟩->S s:=by
  intro k Q s o;subst K;try dsimp only at h0
  refine J _ (AG o (Ap AA ?_));obtain rfl:=Sh.BU h0;exact rt [(4,ow 0 0 k)]
 refine AL (An (σ:=Int×(List Int)) (λn v=>Et N p0 p1 n v.1 v.2=some K) (λ(f,h)=>⟨53,AP [(1,i64 p1),(2,.ptr 0 0 0 0),(5,ow 1 0 h),(6,i64 f)],[ZI p0.decls p0.funcs,ro 0 3 1 eI h]⟩) N (0,[]) b Aq (λ_ R=>by rw[Et]at R;cases R) ?_);rintro n ⟨f,h⟩ b;rw[Et]at b;refine AE λU p=>sr AA λV q=>Ac 3 AA (CY AA (AT AA (dn q AA ?_)));refine ci b AA ?_ ?_<;>intro W b
 .refine AH (p _ (AE λM t=>bs b λu c b=>?_));have x:∀d,u=d->∀s,Wk 0 s ⟨53,AP (et p1 d f []),[ZI p0.decls p0.funcs,BY d]⟩->M s:=by
   intro d Q s o;subst u;exact t _ (AG o (AF AA (Ac 3 AA (AB (xi (Sh.w (f+1),d) b Aq)))))
  refine AL (sr AA λX y=>Ac 3 AA (bs c λz e c=>zx Ck e AA AA AA (Ac 2 AA (CY AA (AT AA (dn y AA (AE λO A=>bs c λB g c=>?_)))))));have C:∀i,B=i->∀s,Wk 0 s ⟨53,AP (et p1 h f [(47,.bool i)]),[ZI p0.decls p0.funcs,BY h]⟩->O s:=by
   intro i Q s o;subst B;refine A _ (AG o ?_);refine ci c AA ?_ ?_<;>intro Y c
   .refine AF AA (Ac 2 AA ?_);refine CC 2 [f] eI BF AA ?_;refine bs c λj D c=>Ct (l2:=[f]) AN BF AA AA AA AA (HD AA AA) (λ_=>AA) D AA (AT AA ?_);exact AB (x j (AS c) _ (by refine Wk.trans (Da (L:=et p1 j f []) (st':=[ZI p0.decls p0.funcs,BY j,TW f]) (.raw AA AA (.pure Bn (.pure Bn .nil))) (.same AA)) ?_;exact AM [0,1] AA AA (.w (.p .nil)) (.same AA)))
   .exact AH (x h (AS c) _ Aq)
  refine Cc (by kernel_rfl) (by kernel_rfl) (by rfl) ?_;iterate 3 refine yq tb rfl ?_
  rcases Sh.Ae g with ⟨a,g⟩|⟨a,g⟩
  .refine yg tb a AA ?_;iterate 4 refine yg tb a rfl ?_
   refine Io (v:=WX z) (CR AA AA a) rfl (CZ Ck AA AA e AA) ?_;iterate 4 refine yg tb a rfl ?_
   refine bs g λP E g=>Io (v:=UD P) (CR AA AA a) rfl (CZ BF AA AA E AA) ?_;iterate 4 refine yg tb a rfl ?_
   refine Io (v:=WX z) (CR AA AA a) rfl (CZ Ck AA AA e AA) ?_;iterate 2 refine yg tb a rfl ?_
   refine bs g λF G g=>BV (v:=i64 F) (CR AA AA a) (hb 128) (O5 G) rfl AA AA ?_;iterate 2 refine yg tb a rfl ?_
   exact yt a AA (Av (C (decide (F=p1)) (AS g) _ Aq))
  .refine ys a AA ?_;iterate 20 refine ys a rfl ?_
   exact yf a AA (Av (C false (AS g) _ Aq))
 .exact Au (T h (AS b) _ (AM [1] AA AA (.p .nil) (.same AA)))
theorem MA {N:Nat}{p0:List Int}{p1:Int}{r:Bool}(h0:HB N p0 p1=some r):Bf 74 [ls eI p0,i64 p1] [] (.bool r) []:=by
 unfold HB at h0;refine ai Tryz.func74 AA AA AA AA (Ap AA (AE λk e=>Ap AA ?_));obtain⟨f,a,h0⟩:=Sh.Bj h0;have l:∀(_:Unit),f=Sum.inr ()->∀s,Wk 0 s ⟨18,AP [],[]⟩->k s:=by
  intro _ u s m;subst f;refine e _ (AG m (Ap AA ?_));cases h0;exact rt [(4,.bool false)]
 refine AL (An (σ:=Int) (λn v=>Ej p0 p1 n v=some f) (λg=>⟨18,AP [(0,ls eI p0),(1,i64 p1),(5,i64 g)],[]⟩) N 0 a Aq (λ_ j=>by rw[Ej]at j;cases j) ?_);rintro n g a;rw[Ej]at a;refine AE λx h=>sr AA λy i=>Ac 2 AA (CY AA (AT AA (dn i AA ?_)));refine ci a AA ?_ ?_<;>intro z a
 .refine AH (h _ (AE λo b=>AL (sr AA λp c=>Ac 2 AA (bs a λq d a=>zx BF d AA AA AA (Ac 3 AA (dn c AA ?_))))));refine ci a AA ?_ ?_<;>intro t a
  .refine Ap AA ?_;cases a;cases h0;exact rt [(4,.bool true)]
  .exact AH (b _ (AF AA (Ac 3 AA (AB (xi (Sh.w (g+1)) a Aq)))))
 .exact Au (l () (AS a) _ Aq)
theorem KO {N:Nat}{p0:AJ}{p1:List Int}{p2:Int}{r:Bool}(h0:HX N p0 p1 p2=some r):Bf 145 [KT p0,ls eI p1,i64 p2] [] (.bool r) []:=by
 unfold HX at h0;refine ai Tryz.func145 AA AA AA AA (sr AA λq e=>Ee 0 AA (AT AA (dn e AA (AE λn f=>bs h0 λk a h0=>?_))));have g:∀d,k=d->∀s,Wk 0 s ⟨24,AP [(6,.bool d)],[]⟩->n s:=by
  intro d t s o;subst k;try dsimp only at h0
  refine f _ (AG o ?_);obtain rfl:=Sh.BU h0;exact rt [(6,.bool d)]
 refine AF AA (Ac 3 AA (bs a λu h a=>G5 (hb 102) (KF h) rfl (Ac 2 AA ?_)));rcases Sh.Ae a with ⟨b,a⟩|⟨b,a⟩
 .refine zs b AA ?_;iterate 4 refine zs b rfl ?_
  refine zt b AA (AT AA ?_);iterate 3 refine zs rfl rfl ?_
  exact zt AA AA (AT AA (AB (g true (AS a) _ (Be _ AA))))
 .refine Ay b AA (Ay b AA (bs a λl i a=>Bo (v':=ow 1 0 l) (CR AA AA b) (hb 147) (Nu i) rfl AA ⟨(Bq λ_=>AA),oz⟩ AA AA (BW (v:=G7 l) (CR AA AA b) rfl (DE Gd AA AA AA) (Ay b AA (zf b AA (AT AA ?_))))));rcases Sh.Ae a with ⟨c,a⟩|⟨c,a⟩
  .exact zs c AA (zs c AA (zs c AA (zt c AA (AT AA (AB (g true (AS a) _ (Be _ AA)))))))
  .exact Ay c AA (Ay c AA (bs a λp j a=>zd c (hb 74) (MA j) rfl AA AA AA (zf c AA (AT AA (AB (g p (AS a) _ (Be _ AA)))))))
theorem CK {p0:Int}{r:AD}(h0:CW p0=some r):Bf 116 [i64 p0] [] (Bd r) []:=by
 unfold CW at h0;refine Ci AA (ai Tryz.func116 AA AA AA AA (sr AA λc a=>DL 0 Dd AA (dn a AA (sr AA λd b=>AT AA ?_))));refine CC 1 ([]:List AD) Ar Ba (by simp only[List.map,Af];rfl) ?_;refine zz (.agg [i64 12,i64 p0,.own 1 0 (List.length ([]:List AD))]) (DK R3 R6 Dd AA AA) rfl (As (Wk.BZ (L:=[(2,BG),(5,.agg [i64 12,i64 p0,fA])]) (st':=[Jl,D1]) (id:=1) rfl tV (Ai Aa) ⟨.rfl,.agg ⟨.rfl,.rfl,.IF AA,oz⟩,oz⟩ AA) (Bx BI AA (dn b AA ?_)));cases h0;exact Am ⟨_,Wk.refl _ _,FY (.tmp 2) [i64 12,i64 p0,fA] BI AA _ AA⟩
theorem LP {N:Nat}{p0:List AK}{p1 r:Int}(h0:Hd N p0 p1=some r):Bf 106 [D5 p0,i64 p1] [] (i64 r) []:=by
 unfold Hd at h0;refine ai Tryz.func106 AA AA AA AA ?_;iterate 2 refine Ap rfl ?_
 refine AE λj e=>Ap AA (bs h0 λf a h0=>?_);have k:∀n7,f=n7->∀s,Wk 0 s ⟨21,AP [(5,i64 n7)],[]⟩->j s:=by
  intro n7 q s l;subst f;try dsimp only at h0
  refine e _ (AG l (Ap AA ?_));obtain rfl:=Sh.BU h0;exact rt [(4,i64 n7)]
 refine AL (An (σ:=Int×Int) (λn v=>Ev p0 p1 n v.1 v.2=some f) (λ(n5,g)=>⟨21,AP [(0,ls Ah p0),(1,i64 p1),(5,i64 n5),(6,i64 g)],[]⟩) N (0,0) a Aq (λ_ i=>by rw[Ev]at i;cases i) ?_);rintro n ⟨n5,g⟩ a;rw[Ev]at a;refine AE λm b=>Ap AA ?_;refine ci a AA ?_ ?_<;>intro o a
 .refine AH (b _ (AE λp c=>AL (AF AA (Ac 3 AA (bs a λh d a=>zx DI d AA AA AA (Ac 2 AA (CY AA (Ac 2 AA (dn c AA (AF AA ?_))))))))));exact Ac 3 AA (AB (xi (Sh.w (n5+Sh.len h.cons),Sh.w (g+1)) a Aq))
 .exact Au (k n5 (AS a) _ Aq)
theorem JL {N:Nat}{p0:List AK}{p1:Int}{r:List Int}(h0:Gw N p0 p1=some r):Bf 104 [D5 p0,i64 p1] [] (ow 0 0 r) [BY r]:=by
 unfold Gw at h0;refine ai Tryz.func104 AA AA AA AA (Ap AA (sr AA λK t=>?_));refine CC 0 ([]:List Int) eI BF AA ?_;refine AT AA (dn t AA (AE λM u=>sr AA λO x=>Ac 2 AA (CY AA (bs h0 λB y h0=>G5 (hb 72) (De y) rfl (AT AA (dn x AA ?_))))));refine ci h0 AA ?_ ?_<;>intro C h0
 .have P:B=false:=by simpa using C
  refine Ap AA ?_;cases h0;exact rt [(4,Y3)]
 .have Q:B=true:=by simpa using C
  refine AH (u _ (AE λz h=>Ap AA (bs h0 λe a h0=>?_)));have A:∀c,e=c->∀s,Wk 0 s ⟨35,AP [(5,ow 0 0 c)],[BY c]⟩->z s:=by
   intro c R s E;subst e;try dsimp only at h0
   refine h _ (AG E (Ap AA ?_));obtain rfl:=Sh.BU h0;exact rt [(4,ow 0 0 c)]
  refine AL (An (σ:=Int×(List Int)) (λn v=>F6 N p0 p1 n v.1 v.2=some e) (λ(b,d)=>⟨35,AP [(0,ls Ah p0),(1,i64 p1),(5,ow 0 0 d),(6,i64 b)],[ro 0 3 1 eI d]⟩) N (0,[]) a Aq (λ_ D=>by rw[F6]at D;cases D) ?_);rintro n ⟨b,d⟩ a;rw[F6]at a;refine AE λF i=>sr AA λG j=>Ac 4 AA (bs a λH k a=>zx DI k AA AA AA (Ac 2 AA (CY AA (AT AA (dn j AA ?_)))));refine ci a AA ?_ ?_<;>intro I a
  .refine AH (i _ (AE λJ o=>AL (AF AA (Ac 4 AA (bs a λf p a=>G5 (hb 106) (LP p) rfl (Ac 2 AA ?_))))));refine CC 1 [Sh.w (f+b)] eI BF AA ?_;refine bs a λg q a=>Ct (l2:=[Sh.w (f+b)]) AN BF AA AA AA AA (HD AA AA) (λ_=>AA) q AA (AT AA (dn o AA (AF AA (Ac 3 AA ?_))));exact AB (xi (Sh.w (b+1),g) a (by refine Wk.trans (Da (L:=[(0,D5 p0),(1,i64 p1),(5,ow 0 0 g),(6,Kt b)]) (st':=[BY g,ro 0 3 1 eI [Sh.w (f+b)]]) (.pure Bn (.pure Bn .nil)) (.same AA)) ?_;exact AM [0] AA AA (.p .nil) (.same AA)))
  .exact Au (A d (AS a) _ Aq)
theorem L5 {N:Nat}{p0:List AK}{p1 r:Int}(h0:Gu N p0 p1=some r):Bf 97 [D5 p0,i64 p1] [] (i64 r) []:=by
 unfold Gu at h0;refine ai Tryz.func97 AA AA AA AA (Ap AA (AE λo i=>Ap AA ?_));obtain⟨j,a,h0⟩:=Sh.Bj h0;have p:∀(_:Unit),j=Sum.inr ()->∀s,Wk 0 s ⟨30,AP [],[]⟩->o s:=by
  intro _ C s q;subst j;refine i _ (AG q (Ap AA ?_));cases h0;exact rt [(4,i64 (-1))]
 refine AL (An (σ:=Int) (λn v=>EI N p0 p1 n v=some j) (λh=>⟨30,AP [(0,ls Ah p0),(1,i64 p1),(5,i64 h)],[]⟩) N 0 a Aq (λ_ m=>by rw[EI]at m;cases m) ?_);rintro n h a;rw[EI]at a;refine AE λD k=>sr AA λE l=>Ac 2 AA (CY AA (AT AA (dn l AA ?_)));refine ci a AA ?_ ?_<;>intro F a
 .refine AH (k _ (AE λt b=>AL (sr AA λu c=>Ac 2 AA (bs a λx d a=>G5 (hb 106) (LP d) rfl (AT AA (dn c AA (sr AA λy e=>Ac 5 AA (bs a λz f a=>?_))))))));refine zx DI f AA AA AA (Ac 2 AA (CY AA (Ac 2 AA (bs a λA g a=>G5 (hb 72) (De g) rfl (dn e AA ?_)))));refine ci a AA ?_ ?_<;>intro B a
  .refine Ap AA ?_;cases a;cases h0;exact rt [(4,Kt h)]
  .exact AH (b _ (AF AA (Ac 3 AA (AB (xi (Sh.w (h+1)) a Aq)))))
 .exact Au (p () (AS a) _ Aq)
theorem FG {N:Nat}{p0:List AK}{p1:Int}{r:List Int}(h0:Bs N p0 p1=some r):Bf 99 [D5 p0,i64 p1] [] (ls eI r) []:=by
 unfold Bs at h0;refine ai Tryz.func99 AA AA AA AA (Ap AA (sr AA λk c=>Ac 2 AA (bs h0 λn d h0=>G5 (hb 97) (L5 d) rfl (AT AA (dn c AA (AE λo e=>Ap AA ?_))))));refine ci h0 AA ?_ ?_<;>intro p h0
 .refine sr AA λq f=>?_;refine CC 0 ([]:List Int) eI BF AA ?_;refine AT AA (dn f AA ?_);cases h0;exact Am (Exists.intro ⟨27,AP [(4,Rp)],[]⟩ (And.intro (by refine Wk.trans (Wk.BZ (L:=[(4,Rp)]) (st':=TV) (id:=0) rfl tM Bn ⟨.BZ AA,oz⟩ AA) ?_;exact AM [] AA AA .nil (.same AA)) (And.intro AA AA)))
 .refine AH (e _ (AE λs g=>?_));refine Cc (by kernel_rfl) (by kernel_rfl) (by rfl) ?_;iterate 3 refine yq tb rfl ?_
  refine bs h0 λt h h0=>yx DI h AA AA AA ?_;iterate 6 refine yq tb rfl ?_
  refine bs h0 λi a h0=>BV (v:=i64 i) AN (hb 106) (LP a) rfl AA AA (yq tb AA (bs h0 λj b h0=>yx JZ b AA AA AA ?_));iterate 3 refine yq tb rfl ?_
  refine Av (g _ ?_);cases h0;exact rt [(4,ls eI j.fields)]
theorem BT {p0 p1:Int}{p2:List AD}{r:AD}(h0:Bg p0 p1 p2=some r):Bf 114 (Tz p0 p1 p2) [] (Bd r) []:=by
 unfold Bg at h0;refine Ci AA (ai Tryz.func114 AA AA AA AA (sr AA λc a=>DL 0 Dd AA (dn a AA (sr AA λd b=>Ac 3 AA (zz (DS p0 p1 p2) (DK R3 R6 Dd AA AA) rfl (Bx BI AA (dn b AA ?_)))))));cases h0;exact Am ⟨_,Wk.refl _ _,FY (.tmp 6) (Tz p0 p1 p2) BI AA _ AA⟩
theorem Ox {tl:List Int}{tr:Int}{r:Int×Int}(h0:JT tl tr=some r):Bf 143 [BG] [E9 tl tr] (i64 r.1) [E9 tl r.2]:=by
 unfold JT at h0;refine ai Tryz.func143 AA AA AA AA (Ap AA (sr AA λj e=>Ac 2 AA (bs h0 λb f h0=>?_)));refine Hl [E9 tl b.2] (i64 b.1) [0] AN (hb 83) (Ax f) rfl AA ?_;refine AT AA (bs h0 λc g h0=>?_);refine Hl [E9 tl c.2] (i64 c.1) [0] AN (hb 83) (Ax g) rfl AA ?_;refine AT AA (bs h0 λa h h0=>?_);refine Hl [E9 tl a.2] (i64 a.1) [0] AN (hb 83) (Ax h) rfl AA ?_;refine lh (m:=1) (st':=[E9 tl a.2,ro 0 3 1 eI [b.1,c.1,0,1,2,-1,3,a.1,999,-998]]) (l:=[b.1,c.1,0,1,2,-1,3,a.1,999,-998]) (enc:=eI) AN BF (by decide) rfl AA ⟨AA,AA,AA,⟨AA,AA,AA,⟨AA,AA,AA,⟨AA,AA,AA,⟨AA,AA,AA,⟨AA,AA,AA,⟨AA,AA,AA,⟨AA,AA,AA,⟨AA,AA,AA,⟨AA,AA,AA,oz⟩⟩⟩⟩⟩⟩⟩⟩⟩⟩ AA AA AA ?_;refine EU [(3,BG),(10,ls eI [b.1,c.1,0,1,2,-1,3,a.1,999,-998])] [E9 tl a.2,⟨1,3,1,[]⟩] 1 AA ⟨.rfl,.BZ AA,oz⟩ (λ_=>AA) rfl (bs h0 λd i h0=>?_);refine Hl [E9 tl d.2,⟨1,3,1,[]⟩] (i64 d.1) [0] AN (hb 70) (Bm i) rfl AA ?_;refine AT AA (dn e AA ?_);cases h0;exact Am (xr (AM (L:=[(2,i64 d.1)]) (st':=[E9 tl d.2]) [0] AA AA (.w .nil) ⟨.rfl,oz⟩))
theorem Rj {N:Nat}{uC:(List Int)->Int->(List AU)->(List AK)->Int->Option (AD×Int)}(vX :∀{tl:List Int} {tr:Int} {s1:List AU} {tn:List AK} {p2:Int} {r:AD×Int},uC tl tr s1 tn p2=some r->Bf 146 [BG,H3 tn s1,i64 p2] (Dy tl tr s1 []) (DS r.1.op r.1.num r.1.kids) (Dy tl r.2 s1 [])){tl:List Int}{tr:Int}{s1:List AU}{tn:List AK}{p2:Int}{r:AD×Int}(h0:IZ N uC tl tr s1 tn p2=some r):Bf 146 [BG,H3 tn s1,i64 p2] (Dy tl tr s1 []) (DS r.1.op r.1.num r.1.kids) (Dy tl r.2 s1 []):=by
 unfold IZ at h0;refine BJ.wk (r0:=DS r.1.op r.1.num r.1.kids) (st0:=Dy tl r.2 s1 [Jo r.1.op r.1.num r.1.kids]) ?_ (D3 (L:=[(0,DS r.1.op r.1.num r.1.kids)]) (st':=Dy tl r.2 s1 []) [0,1] AA (by decide) rfl AA (.raw AA (.pure Bn oz)) (.same AA));refine ai Tryz.func146 AA AA AA AA (sr AA λK1 k4=>Ee 2 AA (DL 3 Dd AA (dn k4 AA (sr AA λK2 k5=>Ac 3 AA (bs h0 λP k6 h0=>Bo (v':=ow 4 0 P) AN (hb 104) (JL k6) rfl AA ⟨(Bq λ_=>AA),oz⟩ AA AA (AT AA (dn k5 AA (AE λK4 k7=>?_))))))));refine sr AA λK5 k8=>AT AA (zz (G7 P) (DE Gd AA AA AA) rfl (AT AA (dn k8 AA ?_)));refine ci h0 AA ?_ ?_<;>intro b6 h0
 .refine sr AA λK7 k9=>AT AA (bs h0 λc8 H h0=>zz (.ptr 4 0 (Int.toNat 0) 0) (CD BF AA AA AA AA H) rfl (zz (i64 c8) (CF Hy AA AA (CQ H) rfl) rfl (AT AA (dn k9 AA (AE λK9 l0=>bs h0 λb0 a h0=>?_)))));have b1:∀I q,b0=(I,q)->∀s,Wk 2 s ⟨118,AP (Nn p2 [(7,ow 4 0 P),(8,i64 I)]),HG tl q s1 tn [BY P]⟩->K9 s:=by
   rintro I q rfl s t;refine l0 _ (AG t (AE λl1 b2=>bs h0 λb3 a h0=>?_));have b4:∀g,b3=g->∀s,Wk 2 s ⟨118,AP [(0,BG),(4,CV),(6,IJ),(8,i64 g)],HG tl q s1 tn []⟩->l1 s:=by
    intro g hq s t;subst b3;refine b2 _ (AG t (sr AA λl9 b5=>?_));refine CC 4 ([]:List AD) Ar Ba (by simp only[List.map,Af];rfl) ?_;refine AT AA (dn b5 AA (sr AA λm0 b7=>Ac 3 AA (bs h0 λJ b8 h0=>G5 (hb 99) (FG b8) rfl (AT AA (dn b7 AA (AE λl3 b9=>Ap AA (bs h0 λT a h0=>?_)))))));have l4:∀u y,T=(u,y)->∀s,Wk 2 s ⟨118,AP [(6,CV),(8,i64 g),(9,ow 3 0 y)],Dy tl u s1 [Jl,G4 y]⟩->l3 s:=by
     rintro u y rfl s t;refine b9 _ (AG t (sr AA λm1 c0=>Ac 2 AA (As (Wk.BZ (L:=[(6,CV),(68,i64 g),(69,Ha y)]) (st':=Dy tl u s1 [Jl,D1]) (id:=3) rfl tZ (Ai Aa) ⟨.rfl,.rfl,.BZ AA,oz⟩ AA) (bs h0 λh c1 h0=>D0 (Bd h) (hb 114) (BT c1) rfl (Bx BI AA (dn c0 AA ?_))))));cases h0;exact Am ⟨_,(AM (L:=[(6,CV)]) (st':=Dy tl u s1 [Jo h.op h.num h.kids]) [0,1,2] AA AA (.w (.p (.w .nil))) ⟨.rfl,oz⟩).trans (Ag (L:=[(6,CV)]) ⟨.rfl,oz⟩),FY (.tmp 6) (LZ h) BI AA _ ⟨AA,AA⟩⟩
    refine AL (An (σ:=Int×Int×(List AD)) (λn v=>Cz tl s1 tn J uC n v.1 v.2.1 v.2.2=some T) (λ(z,K,i)=>⟨118,AP [(0,.ptr 0 0 0 0),(4,.ptr 2 0 0 0),(6,.ptr 3 0 0 0),(8,i64 g),(9,ow 4 0 i),(10,ls eI J),(11,i64 z)],[E9 tl K,ro 0 37 5 BP s1,⟨0,26,2,[[ls Ah tn,ow 1 0 s1]]⟩,Jl,ro 0 35 3 Ar i]⟩) N (0,q,[]) a Aq (λ_ hv=>by rw[Cz]at hv;cases hv) ?_);rintro n ⟨z,K,i⟩ a;rw[Cz]at a;refine AE λm2 c2=>sr AA λm3 c3=>Ac 2 AA (CY AA (AT AA (dn c3 AA ?_)));refine ci a AA ?_ ?_<;>intro m4 a
    .refine AH (c2 _ (AE λm5 c4=>AL ?_));refine L0 (KC s1 tn [Jl,G4 i]) 9 ?_;refine BL (ow 4 0 i) AN AA (λ_ _=>BQ AA) (BL BG AN AA (λ_ _=>BQ AA) (BL (H3 tn s1) AN AA (λ_ _=>Cp Dz AA AA AA tL rfl) (BL (ls eI J) AN AA (λ_ _=>BQ AA) (BL (i64 z) AN AA (λ_ _=>BQ AA) (bs a λc5 c6 a=>BL (UD c5) AN AA (λ_ _=>CZ BF AA AA c6 AA) (BL (i64 c5) AN AA (λ_ _=>IM Hy AA AA) (bs a λb c7 a=>?_)))))));refine PI (DS b.1.op b.1.num b.1.kids) (E9 tl b.2) [0,1] AN (hb 146) (vX c7) rfl (λ_=>AA) (λ_=>AA) (λ_=>AA) ?_;refine F8 AN (λx0 zz=>Gr (l:=[b.1]) (enc:=Ar) AN Ba (by decide) rfl AA AA (by simp only[List.map,Af];rfl) rfl (Ai Aa) (Av AA)) ?_;exact FU AA (bs a λU c9 a=>Ct (l2:=[b.1]) AN Ba AA AA AA AA Mk DV c9 AA (AT AA (dn c4 AA (AF AA (Ac 3 AA (AB (xi (Sh.w (z+1),b.2,U) a (D4 (L:=[(0,BG),(4,CV),(6,IJ),(8,i64 g),(9,ow 4 0 U),(10,ls eI J),(11,Kt z)]) (st':=HG tl b.2 s1 tn [G4 U]) (.raw AA AA AA (.pure AA Bn (.raw AA AA AA (.raw AA AA AA (.pure AA (Ai Aa) .nil))))) (.same AA)))))))))
    .exact Au (l4 K i (AS a) _ (AM [0,1,3,4] AA AA (.w (.p (.w (.pure (Ai Aa) .nil)))) (.same AA)))
   refine sr AA λm6 d0=>Ac 3 AA (bs a λm7 d1 a=>G5 (hb 99) (FG d1) rfl (AT AA (bs a λm8 d2 a=>G5 (hb 74) (MA d2) rfl (dn d0 AA ?_))));refine ci a AA ?_ ?_<;>intro m9 a
   .refine AF AA (AT AA (zz (.ptr 4 0 (Int.toNat 0) 0) (CD BF AA AA AA AA H) rfl (zz (i64 c8) (CF Hy AA AA (CQ H) rfl) rfl (AT AA ?_))));exact AB (b4 c8 (AS a) _ (AM [0,1,2,3] AA AA (.w (.p (.w (.w .nil)))) (.same AA)))
   .exact AH (b4 I (AS a) _ (AM [0,1,2,3] AA AA (.w (.p (.w (.w .nil)))) (.same AA)))
  refine AE λl5 d3=>bs a λd4 V a=>?_;have d5:∀W A,d4=(W,A)->∀s,Wk 2 s ⟨118,AP (Nn p2 [(7,ow 4 0 P),(8,i64 c8),(34,.bool W)]),HG tl A s1 tn [BY P]⟩->l5 s:=by
   rintro W A rfl s t;refine d3 _ (AG t ?_);refine ci a AA ?_ ?_<;>intro q0 a
   .exact AF AA (AT AA (bs a λd6 Q a=>zz (.ptr 4 0 (Int.toNat 1) 0) (CD BF AA AA AA AA Q) rfl (zz (i64 d6) (CF Hy AA AA (CQ Q) rfl) rfl (AT AA (AB (b1 d6 A (AS a) _ Aq))))))
   .exact AH (b1 c8 A (AS a) _ Aq)
  refine AF AA (AT AA (zz (G7 P) (DE Gd AA AA AA) rfl (Ac 2 AA ?_)));rcases Sh.Ae V with ⟨c,V⟩|⟨c,V⟩
  .refine Ay c AA (bs V λB d7 V=>?_);refine Hl (HG tl B.2 s1 tn [BY P]) (i64 B.1) [0] (CR AA AA c) (hb 83) (Ax d7) rfl AA ?_;exact Ay c AA (zt c AA (AB (d5 (decide (B.1=0)) B.2 (AS V) _ Aq)))
  .exact zs c AA (zs c AA (zs c AA (zf c AA (AB (d5 false tr (AS V) _ Aq)))))
 .refine AH (k7 _ (sr AA λq1 d8=>Ac 2 AA (bs h0 λf d9 h0=>Lw (v':=ow 5 0 f) AN (hb 147) (Nu d9) rfl (.agg (.val AA (.own AA AA (λ_=>AA) .nil)) (.val AA .nil)) rfl (mE (λ_=>AA) oz) rfl AA (AT AA (dn d8 AA (AE λq2 g0=>AE λl6 g1=>bs h0 λg2 a h0=>?_))))));have g3:∀X,g2=X->∀s,Wk 2 s ⟨118,AP [(0,BG),(4,CV),(6,IJ),(12,ow 4 0 f),(80,.bool X)],HG tl tr s1 tn [BY f]⟩->l6 s:=by
   intro X hq s t;subst g2;refine g1 _ (AG t ?_);refine ci h0 AA ?_ ?_<;>intro q4 h0
   .refine sr AA λq5 g4=>Ac 3 AA (zz (G7 f) (DE Gd AA AA AA) rfl (bs h0 λC g5 h0=>?_));refine Hl (HG tl C.2 s1 tn [BY f]) (i64 C.1) [0] AN (hb 83) (Ax g5) rfl AA ?_;refine bs h0 λj R h0=>zz (cU C.1) (CD BF AA AA AA AA R) rfl (zz (i64 j) (CF Hy AA AA (CQ R) rfl) rfl (AT AA (dn g4 AA (sr AA λq6 g6=>Ac 3 AA (bs h0 λD S h0=>zz (LF j) (CD Ck AA AA AA AA S) rfl (AT AA (zz (ls eI D.params) (CF Le AA AA (CQ S) rfl) rfl (AT AA ?_))))))));refine dn g6 AA (sr AA λq7 g7=>?_);refine CC 5 ([]:List AD) Ar Ba (by simp only[List.map,Af];rfl) ?_;refine AT AA (dn g7 AA (AE λl7 g8=>Ap AA (bs h0 λY a h0=>?_)));have l8:∀E F,Y=(E,F)->∀s,Wk 2 s ⟨118,AP [(6,CV),(13,i64 j),(15,ow 3 0 F)],Dy tl E s1 [Jl,G4 F]⟩->l7 s:=by
     rintro E F rfl s t;refine g8 _ (AG t (sr AA λq8 g9=>Ac 2 AA (As (Wk.BZ (L:=[(6,CV),(112,i64 j),(113,Ha F)]) (st':=Dy tl E s1 [Jl,D1]) (id:=3) rfl tZ (Ai Aa) ⟨.rfl,.rfl,.BZ AA,oz⟩ AA) (bs h0 λk h3 h0=>D0 (Bd k) (hb 114) (BT h3) rfl (Bx BI AA (dn g9 AA ?_))))));cases h0;exact Am ⟨_,(AM (L:=[(6,CV)]) (st':=Dy tl E s1 [Jo k.op k.num k.kids]) [0,1,2] AA AA (.w (.p (.w .nil))) ⟨.rfl,oz⟩).trans (Ag (L:=[(6,CV)]) ⟨.rfl,oz⟩),FY (.tmp 6) (LZ k) BI AA _ ⟨AA,AA⟩⟩
    refine AL (An (σ:=Int×Int×(List AD)) (λn v=>D9 D tl s1 tn uC n v.1 v.2.1 v.2.2=some Y) (λ(G,M,o)=>⟨118,AP [(0,.ptr 0 0 0 0),(4,.ptr 2 0 0 0),(6,.ptr 3 0 0 0),(13,i64 j),(14,ls eI D.params),(15,ow 4 0 o),(16,i64 G)],[E9 tl M,ro 0 37 5 BP s1,⟨0,26,2,[[ls Ah tn,ow 1 0 s1]]⟩,Jl,ro 0 35 3 Ar o]⟩) N (0,C.2,[]) a (AM [0,1,2,3,5] AA AA (.w (.p (.w (.w (.pure (Ai Aa) .nil))))) (.same AA)) (λ_ hv=>by rw[D9]at hv;cases hv) ?_);rintro n ⟨G,M,o⟩ a;rw[D9]at a;refine AE λq9 h4=>sr AA λt0 h5=>Ac 3 AA (CY AA (AT AA (dn h5 AA ?_)));refine ci a AA ?_ ?_<;>intro t1 a
    .refine AH (h4 _ (AE λt2 h6=>AL ?_));refine L0 (KC s1 tn [Jl,G4 o]) 9 ?_;refine BL (ow 4 0 o) AN AA (λ_ _=>BQ AA) (BL BG AN AA (λ_ _=>BQ AA) (BL (H3 tn s1) AN AA (λ_ _=>Cp Dz AA AA AA tL rfl) (BL (ls eI D.params) AN AA (λ_ _=>BQ AA) (BL (i64 G) AN AA (λ_ _=>BQ AA) (bs a λh7 h8 a=>BL (UD h7) AN AA (λ_ _=>CZ BF AA AA h8 AA) (BL (i64 h7) AN AA (λ_ _=>IM Hy AA AA) (bs a λd h9 a=>?_)))))));refine PI (DS d.1.op d.1.num d.1.kids) (E9 tl d.2) [0,1] AN (hb 146) (vX h9) rfl (λ_=>AA) (λ_=>AA) (λ_=>AA) ?_;refine F8 AN (λx0 zz=>Gr (l:=[d.1]) (enc:=Ar) AN Ba (by decide) rfl AA AA (by simp only[List.map,Af];rfl) rfl (Ai Aa) (Av AA)) ?_;exact FU AA (bs a λZ k0 a=>Ct (l2:=[d.1]) AN Ba AA AA AA AA Mk DV k0 AA (AT AA (dn h6 AA (AF AA (Ac 3 AA (AB (xi (Sh.w (G+1),d.2,Z) a (D4 (L:=[(0,BG),(4,CV),(6,IJ),(13,i64 j),(14,ls eI D.params),(15,ow 4 0 Z),(16,Kt G)]) (st':=HG tl d.2 s1 tn [G4 Z]) (.raw AA AA AA (.pure AA Bn (.raw AA AA AA (.raw AA AA AA (.pure AA (Ai Aa) .nil))))) (.same AA)))))))))
    .exact Au (l8 M o (AS a) _ (AM [0,1,3,4] AA AA (.w (.p (.w (.pure (Ai Aa) .nil)))) (.same AA)))
   .refine AH (g0 _ (sr AA λt3 k1=>AT AA (bs h0 λO k2 h0=>?_)));refine Hl (HG tl O.2 s1 tn [BY f]) (i64 O.1) [0] AN (hb 143) (Ox k2) rfl AA ?_;refine bs h0 λp k3 h0=>D0 (Bd p) (hb 115) (Dj k3) rfl (Bx BI AA (dn k1 AA ?_));cases h0;exact Am ⟨_,(AM (L:=[(6,CV)]) (st':=Dy tl O.2 s1 [Jo p.op p.num p.kids]) [0,1,3] AA AA (.w (.p (.w .nil))) ⟨.rfl,oz⟩).trans (Ag (L:=[(6,CV)]) ⟨.rfl,oz⟩),FY (.tmp 6) (LZ p) BI AA _ ⟨AA,AA⟩⟩
  refine AF AA (Ac 3 AA ?_);rcases Sh.Ae a with ⟨e,a⟩|⟨e,a⟩
  .refine Ay e AA (BW (v:=G7 f) (CR AA AA e) rfl (DE Gd AA AA AA) (Ay e AA (zt e AA ?_)));exact AB (g3 (decide (0<Sh.len f)) (AS a) _ (AM [0,1,2,3,5] AA AA (.w (.p (.w (.w (.p .nil))))) (.same AA)))
  .refine zs e AA (zs e AA (zs e AA (zf e AA ?_)));exact AB (g3 false (AS a) _ (AM [0,1,2,3,5] AA AA (.w (.p (.w (.w (.p .nil))))) (.same AA)))
theorem Ro {N:Nat}:∀(n:Nat),∀{tl:List Int} {tr:Int} {s1:List AU} {tn:List AK} {p2:Int} {r:AD×Int},Dh N n tl tr s1 tn p2=some r->Bf 146 [BG,H3 tn s1,i64 p2] (Dy tl tr s1 []) (DS r.1.op r.1.num r.1.kids) (Dy tl r.2 s1 []):=by
 intro n
 induction n with
 |zero=>intro tl tr s1 tn p2 r a;cases a
 |succ n ih=>
  intro tl tr s1 tn p2 r a;rw[Dh]at a;exact Rj (λh=>ih h) a
theorem T9 {N:Nat}:∀{tl:List Int} {tr:Int} {s1:List AU} {tn:List AK} {p2:Int} {r:AD×Int},Nl N tl tr s1 tn p2=some r->Bf 146 [BG,H3 tn s1,i64 p2] (Dy tl tr s1 []) (DS r.1.op r.1.num r.1.kids) (Dy tl r.2 s1 []):=by
 intro tl tr s1 tn p2 r a;exact Ro N a
theorem JO {N:Nat}{tl:List Int}{tr:Int}{s1:List AU}{tn:List AK}{p2:List Int}{p3:Int}{r:AD×Int}(h0:IG N tl tr s1 tn p2 p3=some r):Bf 136 [BG,H3 tn s1,ls eI p2,i64 p3] (Dy tl tr s1 []) (DS r.1.op r.1.num r.1.kids) (Dy tl r.2 s1 []):=by
 unfold IG at h0;refine BJ.wk (r0:=DS r.1.op r.1.num r.1.kids) (st0:=Dy tl r.2 s1 [Jo r.1.op r.1.num r.1.kids]) ?_ (D3 (L:=[(0,DS r.1.op r.1.num r.1.kids)]) (st':=Dy tl r.2 s1 []) [0,1] AA (by decide) rfl AA (.raw AA (.pure Bn oz)) (.same AA));refine ai Tryz.func136 AA AA AA AA (sr AA λM y=>Ee 2 AA (DL 3 Dd AA (dn y AA (sr AA λO z=>Ac 2 AA (bs h0 λg A h0=>Bo (v':=ow 4 0 g) AN (hb 144) (Rm A) rfl AA ⟨(Bq λ_=>AA),oz⟩ AA AA (AT AA (dn z AA (AE λP B=>?_))))))));refine AE λH C=>bs h0 λG e h0=>?_;have D:∀E k,G=(E,k)->∀s,Wk 2 s ⟨40,AP [(0,BG),(3,i64 p3),(5,CV),(8,IJ),(9,ow 4 0 g),(27,.bool E)],HG tl k s1 tn [BY g]⟩->H s:=by
  rintro E k rfl s I;refine C _ (AG I ?_);refine ci h0 AA ?_ ?_<;>intro R h0
  .refine sr AA λJ n=>Ac 3 AA (zz (G7 g) (DE Gd AA AA AA) rfl (bs h0 λh o h0=>?_));refine Hl (HG tl h.2 s1 tn [BY g]) (i64 h.1) [0] AN (hb 83) (Ax o) rfl AA ?_;refine bs h0 λF i h0=>zz (cU h.1) (CD BF AA AA AA AA i) rfl (zz (i64 F) (CF Hy AA AA (CQ i) rfl) rfl (bs h0 λf p h0=>D0 (Bd f) (hb 116) (CK p) rfl (Bx BI AA (dn n AA ?_))));cases h0;exact Am ⟨_,(AM (L:=[(8,CV)]) (st':=Dy tl h.2 s1 [Jo f.op f.num f.kids]) [0,1,3] AA AA (.w (.p (.w .nil))) ⟨.rfl,oz⟩).trans (Ag (L:=[(8,CV)]) ⟨.rfl,oz⟩),FY (.tmp 8) (LZ f) BI AA _ ⟨AA,AA⟩⟩
  .refine AH (B _ (sr AA λK q=>Ac 3 AA (bs h0 λa t h0=>?_)));refine Ow (HG tl a.2 s1 tn [BY g]) (DS a.1.op a.1.num a.1.kids) [0,1] AN (hb 146) (T9 t) rfl AA (λ_=>AA) (λ_=>AA) ?_;refine Bx BI AA (dn q AA ?_);cases h0;exact Am ⟨_,(AM (L:=[(8,CV)]) (st':=Dy tl a.2 s1 [Jo a.1.op a.1.num a.1.kids]) [0,1,3] AA AA (.w (.p (.w .nil))) ⟨.rfl,oz⟩).trans (Ag (L:=[(8,CV)]) ⟨.rfl,oz⟩),FY (.tmp 8) (Tz a.1.op a.1.num a.1.kids) BI AA _ ⟨AA,AA⟩⟩
 refine AF AA (AT AA (zz (G7 g) (DE Gd AA AA AA) rfl (Ac 2 AA ?_)));rcases Sh.Ae e with ⟨b,e⟩|⟨b,e⟩
 .refine Ay b AA (bs e λd u e=>?_);refine Hl (HG tl d.2 s1 tn [BY g]) (i64 d.1) [0] (CR AA AA b) (hb 83) (Ax u) rfl AA ?_;refine Ay b AA (Ay b AA ?_);rcases Sh.Ae e with ⟨c,e⟩|⟨c,e⟩
  .refine zs c AA ?_;iterate 4 refine zs c rfl ?_
   exact BW (v:=.bool true) (CR AA AA b) rfl (Km AA c AA) (zt b AA (AB (D true d.2 (AS e) _ Aq)))
  .refine Ay c AA ?_;refine So (m:=5) (l:=([]:List Int)) (enc:=eI) (CR AA AA c) BF (by decide) rfl AA AA AA AA AA ?_;refine Ay c AA (EU [(0,BG),(3,i64 p3),(5,CV),(8,IJ),(9,ow 4 0 g),(16,.bool (decide (0<Sh.len g))),(20,.bool (decide (0<d.1))),(21,H3 tn s1),(22,Rp),(23,i64 p3)] (HG tl d.2 s1 tn [BY g,⟨1,3,1,[]⟩]) 5 AA ⟨.rfl,.rfl,.rfl,.rfl,.rfl,.rfl,.rfl,.agg ⟨.rfl,.rfl,oz⟩,.BZ AA,.rfl,oz⟩ (λ_=>AA) rfl (bs e λj w e=>Lw (v':=.bool j) (CR AA AA c) (hb 145) (KO w) rfl (.agg (.val AA (.own AA AA (λ_=>AA) .nil)) (.val AA (.val AA .nil))) rfl oz AA AA (Ay c AA (BW (v:=.bool (!j)) (CR AA AA b) rfl (LR AA c AA) (zt b AA ?_)))));exact AB (D (!j) d.2 (AS e) _ (AM [0,1,2,3,4] AA AA (.w (.p (.w (.w (.p .nil))))) (.same AA)))
 .refine zs b AA ?_;iterate 3 refine zs b rfl ?_
  iterate 5 refine zn rfl ?_
  exact zs b AA (zf b AA (AB (D false tr (AS e) _ Aq)))
theorem U9 {N:Nat}{tl:List Int}{tr:Int}{s1:List AU}{tn:List AK}{p2:List Int}{r:Int×Int}(h0:KY N tl tr s1 tn p2=some r):Bf 138 [BG,H3 tn s1,ls eI p2] (Dy tl tr s1 []) (i64 r.1) (Dy tl r.2 s1 []):=by
 unfold KY at h0;refine ai Tryz.func138 AA AA AA AA (sr AA λt f=>Ee 2 AA (AT AA (dn f AA (sr AA λu g=>AT AA ?_))));refine CC 3 [(1:Int),1,3,0,2,4,3] eI BF AA ?_;refine EU [(2,ls eI p2),(4,CV),(8,BG),(9,ls eI [(1:Int),1,3,0,2,4,3])] (Dy tl tr s1 [dp tn s1,⟨1,3,1,[]⟩]) 3 AA ⟨.rfl,.rfl,.rfl,.BZ AA,oz⟩ (λ_=>AA) rfl (bs h0 λc h h0=>?_);refine Hl (Dy tl c.2 s1 [dp tn s1,⟨1,3,1,[]⟩]) (i64 c.1) [0] AN (hb 70) (Bm h) rfl AA ?_;refine AT AA (dn g AA (AE λw i=>AE λp j=>bs h0 λn b h0=>?_));have o:∀k,n=k->∀s,Wk 2 s ⟨24,AP [(7,i64 c.1),(22,.bool k)],Dy tl c.2 s1 []⟩->p s:=by
  intro k x s q;subst n;refine j _ (AG q ?_);refine ci h0 AA ?_ ?_<;>intro y h0
  .refine Ap AA ?_;cases h0;exact rt [(6,i64 1)]
  .refine AH (i _ (Ap AA ?_));cases h0;exact rt [(6,i64 c.1)]
 refine AF AA (Ac 3 AA (CY AA (Ac 2 AA ?_)));rcases Sh.Ae b with ⟨a,b⟩|⟨a,b⟩
 .refine zs a AA ?_;iterate 4 refine zs a rfl ?_
  refine zt a AA ?_;exact AB (o true (AS b) _ (AM [0,1] AA AA (.w (.p .nil)) (.same AA)))
 .refine Ay a AA (Ay a AA (Ay a AA (bs b λd e b=>Lw (v':=.bool d) (CR AA AA a) (hb 145) (KO e) rfl (.agg (.val AA (.own AA AA (λ_=>AA) .nil)) (.val AA (.val AA .nil))) rfl oz AA AA (Ay a AA (zf a AA ?_)))));exact AB (o (!d) (AS b) _ (AM [0,1] AA AA (.w (.p .nil)) (.same AA)))
theorem Lk {p0 r:List Int}(h0:Fv p0=some r):Bf 62 [ls eI p0] [] (ow 0 0 r) [BY r]:=by
 unfold Fv at h0;refine ai Tryz.func62 AA AA AA AA (Ap AA (sr AA λd a=>?_));refine CC 0 ([]:List Int) eI BF AA ?_;refine AT AA (bs h0 λc b h0=>Ct (l2:=p0) AN BF AA AA AA AA Mk (λ_=>AA) b AA (AT AA (dn a AA ?_)));obtain rfl:=Sh.BU h0;exact Am (xr (Da (L:=[(2,ow 0 0 c)]) (st':=[BY c]) (.pure Bn .nil) (.same AA)))
theorem F7 {p0 p1 r:List Int}(h0:E3 p0 p1=some r):Bf 85 [ls eI p0,ls eI p1] [] (ow 0 0 r) [BY r]:=by
 unfold E3 at h0;refine ai Tryz.func85 AA AA AA AA (Ap AA (sr AA λf a=>AT AA (bs h0 λe b h0=>Bo (v':=ow 0 0 e) AN (hb 62) (Lk b) rfl AA ⟨(Bq λ_=>AA),oz⟩ AA AA (AT AA (bs h0 λd c h0=>Ct (l2:=p1) AN BF AA AA AA AA Mk (λ_=>AA) c AA (AT AA (dn a AA ?_)))))));obtain rfl:=Sh.BU h0;exact Am (xr (Da (L:=[(4,ow 0 0 d)]) (st':=[BY d]) (.pure Bn .nil) (.same AA)))
theorem JK {N:Nat}{tu:(List Int)->Int->(List AU)->(List AK)->(List Int)->Int->Int->Option (AD×Int)}(uH :∀{tl:List Int} {tr:Int} {s1:List AU} {tn:List AK} {p2:List Int} {p3:Int} {p4:Int} {r:AD×Int},tu tl tr s1 tn p2 p3 p4=some r->Bf 134 (Y4 tn s1 p2 p3 p4) (Dy tl tr s1 []) (DS r.1.op r.1.num r.1.kids) (Dy tl r.2 s1 [])){tl:List Int}{tr:Int}{s1:List AU}{tn:List AK}{p2 p3:List Int}{p4:Int}{r:(List AD)×Int}(h0:GW N tu tl tr s1 tn p2 p3 p4=some r):Bf 139 [BG,H3 tn s1,ls eI p2,ls eI p3,i64 p4] (Dy tl tr s1 []) (ow 2 0 r.1) (Dy tl r.2 s1 [G4 r.1]):=by
 unfold GW at h0;refine ai Tryz.func139 AA AA AA AA (sr AA λK x=>Ee 2 AA (AT AA (dn x AA (sr AA λM y=>?_))));refine CC 3 ([]:List AD) Ar Ba (by simp only[List.map,Af];rfl) ?_;refine AT AA (dn y AA (AE λE z=>Ap AA (bs h0 λc b h0=>?_)));have A:∀B f,c=(B,f)->∀s,Wk 2 s ⟨36,AP [(11,ow 2 0 f)],Dy tl B s1 [G4 f]⟩->E s:=by
  rintro B f rfl s F;refine z _ (AG F (Ap AA ?_));cases h0;exact rt [(10,ow 2 0 f)]
 refine AL (An (σ:=Int×Int×(List AD)) (λn v=>Fw tl s1 tn p2 p3 p4 tu n v.1 v.2.1 v.2.2=some c) (λ(g,u,e)=>⟨36,AP [(0,.ptr 0 0 0 0),(2,ls eI p2),(3,ls eI p3),(4,i64 p4),(6,.ptr 2 0 0 0),(11,ow 3 0 e),(12,i64 g)],[E9 tl u,ro 0 37 5 BP s1,⟨0,26,2,[[ls Ah tn,ow 1 0 s1]]⟩,ro 0 35 3 Ar e]⟩) N (0,tr,[]) b Aq (λ_ D=>by rw[Fw]at D;cases D) ?_);rintro n ⟨g,u,e⟩ b;rw[Fw]at b;refine AE λG h=>sr AA λH i=>Ac 2 AA (CY AA (AT AA (dn i AA ?_)));refine ci b AA ?_ ?_<;>intro I b
 .refine AH (h _ (AE λJ j=>AL ?_));refine L0 (KC s1 tn [G4 e]) 14 ?_;refine BL (ow 3 0 e) AN AA (λ_ _=>BQ AA) (BL BG AN AA (λ_ _=>BQ AA) (BL (H3 tn s1) AN AA (λ_ _=>Cp Dz AA AA AA tL rfl) (BL (ls eI p2) AN AA (λ_ _=>BQ AA) (BL (ls eI p3) AN AA (λ_ _=>BQ AA) (BL (i64 g) AN AA (λ_ _=>BQ AA) (bs b λk o b=>BL (UD k) AN AA (λ_ _=>CZ BF AA AA o AA) (BL (i64 k) AN AA (λ_ _=>IM Hy AA AA) (BL (i64 p4) AN AA (λ_ _=>BQ AA) (BL (ls eI p3) AN AA (λ_ _=>BQ AA) (BL (G7 p3) AN AA (λ_ _=>CU Gd AA) ?_))))))))));refine bs b λC p b=>BL (i64 C) AN AA (λ_ _=>XN AA AA p) (bs b λa q b=>?_);refine PI (DS a.1.op a.1.num a.1.kids) (E9 tl a.2) [0,1] AN (hb 134) (uH q) rfl (λ_=>AA) (λ_=>AA) (λ_=>AA) ?_;refine F8 AN (λP zz=>Gr (l:=[a.1]) (enc:=Ar) AN Ba (by decide) rfl AA AA (by simp only[List.map,Af];rfl) rfl (Ai Aa) (Av AA)) ?_;exact FU AA (bs b λd t b=>Ct (l2:=[a.1]) AN Ba AA AA AA AA Mk DV t AA (AT AA (dn j AA (AF AA (Ac 3 AA (AB (xi (Sh.w (g+1),a.2,d) b (D4 (L:=[(0,BG),(2,ls eI p2),(3,ls eI p3),(4,i64 p4),(6,CV),(11,ow 3 0 d),(12,Kt g)]) (st':=Dy tl a.2 s1 [dp tn s1,G4 d]) (.raw AA AA AA (.pure AA Bn (.raw AA AA AA (.pure AA (Ai Aa) .nil)))) (.same AA)))))))))
 .exact Au (A u e (AS b) _ (AM [0,1,3] AA AA (.w (.p (.pure (Ai Aa) .nil))) (.same AA)))
theorem Tr {N:Nat}{tu:(List Int)->Int->(List AU)->(List AK)->(List Int)->Int->Int->Option (AD×Int)}(uH :∀{tl:List Int} {tr:Int} {s1:List AU} {tn:List AK} {p2:List Int} {p3:Int} {p4:Int} {r:AD×Int},tu tl tr s1 tn p2 p3 p4=some r->Bf 134 (Y4 tn s1 p2 p3 p4) (Dy tl tr s1 []) (DS r.1.op r.1.num r.1.kids) (Dy tl r.2 s1 [])){tl:List Int}{tr:Int}{s1:List AU}{tn:List AK}{p2:List Int}{p3 p4:Int}{r:AD×Int}(h0:Jw N tu tl tr s1 tn p2 p3 p4=some r):Bf 140 (Y4 tn s1 p2 p3 p4) (Dy tl tr s1 []) (DS r.1.op r.1.num r.1.kids) (Dy tl r.2 s1 []):=by
 unfold Jw at h0;refine BJ.wk (r0:=DS r.1.op r.1.num r.1.kids) (st0:=Dy tl r.2 s1 [Jo r.1.op r.1.num r.1.kids]) ?_ (D3 (L:=[(0,DS r.1.op r.1.num r.1.kids)]) (st':=Dy tl r.2 s1 []) [0,1] AA (by decide) rfl AA (.raw AA (.pure Bn oz)) (.same AA));refine ai Tryz.func140 AA AA AA AA (sr AA λK1 U=>Ee 2 AA (DL 3 Dd AA (dn U AA (sr AA λK2 V=>AT AA ?_))));refine CC 4 [(1:Int),1,3,4] eI BF AA ?_;refine EU (Rg p2 p3 p4 [(15,BG),(16,ls eI [(1:Int),1,3,4])]) (HG tl tr s1 tn [⟨1,3,1,[]⟩]) 4 AA ⟨.rfl,.rfl,.rfl,.rfl,.rfl,.rfl,.rfl,.BZ AA,oz⟩ (λ_=>AA) rfl (bs h0 λo W h0=>?_);refine Hl (HG tl o.2 s1 tn [⟨1,3,1,[]⟩]) (i64 o.1) [0] AN (hb 70) (Bm W) rfl AA ?_;refine AT AA (dn V AA (AE λK4 X=>bs h0 λo6 a h0=>?_));have M6:∀q,o6=q->∀s,Wk 2 s ⟨69,AP (Rg p2 p3 p4 [(11,i64 q)]),HG tl o.2 s1 tn []⟩->K4 s:=by
  intro q hq s A;subst o6;refine X _ (AG A (sr AA λK7 Y=>Ac 3 AA (bs h0 λh Z h0=>Bo (v':=ow 4 0 h) AN (hb 104) (JL Z) rfl AA ⟨(Bq λ_=>AA),oz⟩ AA AA (AT AA (dn Y AA (sr AA λK9 b0=>Ac 4 AA (bs h0 λd B h0=>?_)))))));refine Ow (HG tl d.2 s1 tn [BY h]) (DS d.1.op d.1.num d.1.kids) [0,1] AN (hb 136) (JO B) rfl AA (λ_=>AA) (λ_=>AA) ?_;refine CC 5 [d.1] Ar Ba (by simp only[List.map,Af];rfl) ?_;refine AT AA (dn b0 AA (AE λb1 C=>Ap AA (bs h0 λt a h0=>?_)));have b2:∀i j,t=(i,j)->∀s,Wk 2 s ⟨69,AP [(10,CV),(11,i64 q),(13,ow 3 0 j)],Dy tl i s1 [Jl,G4 j]⟩->b1 s:=by
   rintro i j rfl s A;refine C _ (AG A (sr AA λb8 D=>Ac 2 AA (As (Wk.BZ (L:=[(10,CV),(66,i64 q),(67,Ha j)]) (st':=Dy tl i s1 [Jl,D1]) (id:=3) rfl tZ (Ai Aa) ⟨.rfl,.rfl,.BZ AA,oz⟩ AA) (bs h0 λe E h0=>D0 (Bd e) (hb 114) (BT E) rfl (Bx BI AA (dn D AA ?_))))));cases h0;exact Am ⟨_,(AM (L:=[(10,CV)]) (st':=Dy tl i s1 [Jo e.op e.num e.kids]) [0,1,2] AA AA (.w (.p (.w .nil))) ⟨.rfl,oz⟩).trans (Ag (L:=[(10,CV)]) ⟨.rfl,oz⟩),FY (.tmp 10) (LZ e) BI AA _ ⟨AA,AA⟩⟩
  refine AL (An (σ:=Int×Int×(List AD)) (λn v=>EO N tl s1 tn p2 p3 p4 h tu n v.1 v.2.1 v.2.2=some t) (λ(f,k,g)=>⟨69,AP [(0,.ptr 0 0 0 0),(2,ls eI p2),(3,i64 p3),(4,i64 p4),(6,.ptr 2 0 0 0),(10,.ptr 3 0 0 0),(11,i64 q),(12,ow 4 0 h),(13,ow 5 0 g),(14,i64 f)],[E9 tl k,ro 0 37 5 BP s1,⟨0,26,2,[[ls Ah tn,ow 1 0 s1]]⟩,Jl,ro 0 3 1 eI h,ro 0 35 3 Ar g]⟩) N (0,d.2,[d.1]) a Aq (λ_ hv=>by rw[EO]at hv;cases hv) ?_);rintro n ⟨f,k,g⟩ a;rw[EO]at a;refine AE λb9 F=>sr AA λc0 G=>Ac 2 AA (zz (G7 h) (DE Gd AA AA AA) rfl (AT AA (dn G AA ?_)));refine ci a AA ?_ ?_<;>intro c1 a
  .refine AH (F _ (AE λc2 H=>AL ?_));refine L0 (KC s1 tn [Jl,BY h,G4 g]) 20 ?_;refine BL (ow 5 0 g) AN AA (λ_ _=>BQ AA) (BL BG AN AA (λ_ _=>BQ AA) (BL (H3 tn s1) AN AA (λ_ _=>Cp Dz AA AA AA tL rfl) (BL (ls eI p2) AN AA (λ_ _=>BQ AA) (BL CV AN AA (λ_ _=>FN Wj AA AA ta rfl) (BL (D5 tn) AN AA (λ_ _=>CF dQ AA AA AA AA) (BL (ow 4 0 h) AN AA (λ_ _=>BQ AA) (BL (i64 f) AN AA (λ_ _=>BQ AA) (bs a λb3 p a=>BL (cU f) AN AA (λ_ _=>CD BF AA AA AA AA p) (BL (i64 b3) AN AA (λ_ _=>CF Hy AA AA (CQ p) rfl) (bs a λb4 I a=>?_))))))))));refine F8 AN (λx0 zz=>BV (v:=ls eI b4) AN (hb 99) (FG I) rfl AA AA (Av AA)) (bs a λJ K a=>?_);refine F8 AN (λx0 zz=>BV (v:=ls eI J) AN (hb 85) (BJ.wk (F7 K) (by refine Wk.trans (Wk.BZ (L:=[(0,ls eI J)]) (st':=TV) (id:=0) rfl tM Bn ⟨.BZ AA,oz⟩ AA) ?_;exact AM [] AA AA .nil (.same AA))) rfl AA AA (Av AA)) ?_;refine BL (i64 p3) AN AA (λ_ _=>BQ AA) (BL (i64 p4) AN AA (λ_ _=>BQ AA) (BL (i64 (Sh.w (p4-2))) AN AA (λ_ _=>PH AA AA) (BL (ow 4 0 h) AN AA (λ_ _=>BQ AA) (BL (G7 h) AN AA (λ_ _=>DE Gd AA AA AA) (bs a λb5 M a=>BL (i64 b5) AN AA (λ_ _=>XN AA AA M) (bs a λb O a=>?_))))));refine PI (DS b.1.op b.1.num b.1.kids) (E9 tl b.2) [0,1] AN (hb 134) (uH O) rfl (λ_=>AA) (λ_=>AA) (λ_=>AA) ?_;refine F8 AN (λx0 zz=>Gr (l:=[b.1]) (enc:=Ar) AN Ba (by decide) rfl AA AA (by simp only[List.map,Af];rfl) rfl (Ai Aa) (Av AA)) ?_;exact FU AA (bs a λu P a=>Ct (l2:=[b.1]) AN Ba AA AA AA AA Mk DV P AA (AT AA (dn H AA (AF AA (Ac 3 AA (AB (xi (Sh.w (f+1),b.2,u) a (D4 (L:=Rg p2 p3 p4 [(11,i64 q),(12,ow 4 0 h),(13,ow 5 0 u),(14,Kt f)]) (st':=HG tl b.2 s1 tn [BY h,G4 u]) (.raw AA AA AA (.pure AA Bn (.raw AA AA AA (.raw AA AA AA (.pure AA Bn (.pure AA (Ai Aa) .nil)))))) (.same AA)))))))))
  .exact Au (b2 k g (AS a) _ (AM [0,1,3,5] AA AA (.w (.p (.w (.pure (Ai Aa) .nil)))) (.same AA)))
 refine AE λb6 Q=>bs a λR y a=>?_;have S:∀z,R=z->∀s,Wk 2 s ⟨69,AP (Rg p2 p3 p4 [(11,i64 o.1),(28,.bool z)]),HG tl o.2 s1 tn []⟩->b6 s:=by
  intro z hq s A;subst R;refine Q _ (AG A ?_);refine ci a AA ?_ ?_<;>intro c3 a
  .exact AF AA (AT AA (AB (M6 1 (AS a) _ Aq)))
  .exact AH (M6 o.1 (AS a) _ Aq)
 refine AF AA (Ac 3 AA (CY AA (Ac 2 AA ?_)));rcases Sh.Ae y with ⟨c,y⟩|⟨c,y⟩
 .refine zs c AA ?_;iterate 3 refine zs c rfl ?_
  refine zt c AA ?_;exact AB (S true (AS y) _ (AM [0,1,2,3] AA AA (.w (.p (.w (.w .nil)))) (.same AA)))
 .refine Ay c AA (Ay c AA (Ay c AA (bs y λb7 T y=>zd c (hb 102) (KF T) rfl AA AA AA (zf c AA ?_))));exact AB (S b7 (AS y) _ (AM [0,1,2,3] AA AA (.w (.p (.w (.w .nil)))) (.same AA)))
theorem UA {N:Nat}{p0:AJ}{p1:Int}{r:List Int}(h0:J8 N p0 p1=some r):Bf 141 [KT p0,i64 p1] [] (ow 0 0 r) [BY r]:=by
 unfold J8 at h0;refine ai Tryz.func141 AA AA AA AA (sr AA λK1 S=>Ee 0 AA (AT AA (dn S AA (sr AA λK2 T=>?_))));refine CC 1 ([]:List Int) eI BF AA ?_;refine AT AA (dn T AA (AE λK3 U=>Ap AA (bs h0 λV c h0=>?_)));have M8:∀y,V=y->∀s,Wk 0 s ⟨57,AP [(5,ow 0 0 y)],[BY y]⟩->K3 s:=by
  intro y W s q;subst V;try dsimp only at h0
  refine U _ (AG q (Ap AA ?_));obtain rfl:=Sh.BU h0;exact rt [(4,ow 0 0 y)]
 refine AL (An (σ:=Int×(List Int)) (λn v=>E4 N p0 p1 n v.1 v.2=some V) (λ(f,g)=>⟨57,AP [(1,i64 p1),(2,.ptr 0 0 0 0),(5,ow 1 0 g),(6,i64 f)],[ZI p0.decls p0.funcs,ro 0 3 1 eI g]⟩) N (1,[]) c Aq (λ_ z=>by rw[E4]at z;cases z) ?_);rintro n ⟨f,g⟩ c;rw[E4]at c;refine AE λb2 A=>sr AA λb3 B=>Ac 3 AA (CY AA (AT AA (dn B AA ?_)));refine ci c AA ?_ ?_<;>intro b4 c
 .refine AH (A _ (AE λX C=>bs c λD d c=>?_));have E:∀h,D=h->∀s,Wk 0 s ⟨57,AP (et p1 h f []),[ZI p0.decls p0.funcs,BY h]⟩->X s:=by
   intro h W s q;subst D;exact C _ (AG q (AF AA (Ac 3 AA (AB (xi (Sh.w (f+1),h) c Aq)))))
  refine AL (sr AA λb5 F=>Ac 3 AA (bs d λt i d=>zx Ck i AA AA AA (Ac 5 AA (dn F AA (AE λY G=>Ap AA (bs d λu e d=>?_))))));have Z:∀j,u=j->∀s,Wk 0 s ⟨57,AP (et p1 g f [(7,.bool j)]),[ZI p0.decls p0.funcs,BY g]⟩->Y s:=by
   intro j W s q;subst u;refine G _ (AG q (Ap AA ?_));refine ci d AA ?_ ?_<;>intro b6 d
   .refine AF AA (Ac 2 AA ?_);refine CC 2 [f] eI BF AA ?_;refine bs d λx H d=>Ct (l2:=[f]) AN BF AA AA AA AA (HD AA AA) (λ_=>AA) H AA (AT AA ?_);exact AB (E x (AS d) _ (by refine Wk.trans (Da (L:=et p1 x f []) (st':=[ZI p0.decls p0.funcs,BY x,TW f]) (.raw AA AA (.pure Bn (.pure Bn .nil))) (.same AA)) ?_;exact AM [0,1] AA AA (.w (.p .nil)) (.same AA)))
   .exact AH (E g (AS d) _ Aq)
  refine AL (An (σ:=Bool×Int) (λn v=>Ew N t p0 n v.1 v.2=some u) (λ(k,o)=>⟨57,AP [(1,i64 p1),(2,.ptr 0 0 0 0),(5,ow 1 0 g),(6,i64 f),(7,.bool k),(8,i64 o)],[ZI p0.decls p0.funcs,ro 0 3 1 eI g]⟩) N (decide (t.result=p1),0) e Aq (λ_ z=>by rw[Ew]at z;cases z) ?_);rintro n ⟨k,o⟩ e;rw[Ew]at e;refine AE λb7 I=>sr AA λb8 J=>Ac 4 AA (zx Ck i AA AA AA (Ac 2 AA (CY AA (AT AA (dn J AA ?_)))));refine ci e AA ?_ ?_<;>intro b9 e
  .refine AH (I _ (AE λb0 K=>bs e λM p e=>?_));have O:∀b,M=b->∀s,Wk 0 s ⟨57,AP (et p1 g f [(7,.bool b),(8,i64 o)]),[ZI p0.decls p0.funcs,BY g]⟩->b0 s:=by
    intro b W s q;subst M;exact K _ (AG q (AF AA (Ac 3 AA (AB (xi (b,Sh.w (o+1)) e Aq)))))
   refine AL ?_;refine CG 15 (by kernel_rfl) (by kernel_rfl) (by rfl) ?_;iterate 2 refine yq tb rfl ?_
   rcases Sh.Ae p with ⟨a,p⟩|⟨a,p⟩
   .refine yg tb a AA ?_;refine Gr (l:=([]:List Int)) (enc:=eI) (CR AA AA a) BF (by decide) rfl AA AA AA AA Bn ?_;iterate 3 refine yg tb a rfl ?_
    refine Io (v:=WX t) (CR AA AA a) rfl (CZ Ck AA AA i AA) ?_;iterate 3 refine yg tb a rfl ?_
    exact bs p λb1 P p=>Io (v:=UD b1) (CR AA AA a) rfl (CZ BF AA AA P AA) (yg tb a AA (bs p λQ R p=>BV (v:=.bool Q) (CR AA AA a) (hb 145) (KO R) rfl AA AA (yt a AA (Av (AT AA (AB (O Q (AS p) _ Aq)))))))
   .refine ys a AA ?_;iterate 11 refine ys a rfl ?_
    exact yf a AA (Av (AT AA (AB (O false (AS p) _ Aq))))
  .exact Au (Z k (AS e) _ Aq)
 .exact Au (M8 g (AS c) _ (AM [1] AA AA (.p .nil) (.same AA)))
theorem TL {N:Nat}{tu:(List Int)->Int->(List AU)->(List AK)->(List Int)->Int->Int->Option (AD×Int)}(uH :∀{tl:List Int} {tr:Int} {s1:List AU} {tn:List AK} {p2:List Int} {p3:Int} {p4:Int} {r:AD×Int},tu tl tr s1 tn p2 p3 p4=some r->Bf 134 (Y4 tn s1 p2 p3 p4) (Dy tl tr s1 []) (DS r.1.op r.1.num r.1.kids) (Dy tl r.2 s1 [])){tl:List Int}{tr:Int}{s1:List AU}{tn:List AK}{p2:List Int}{p3 p4:Int}{r:AD×Int}(h0:Ju N tu tl tr s1 tn p2 p3 p4=some r):Bf 142 (Y4 tn s1 p2 p3 p4) (Dy tl tr s1 []) (DS r.1.op r.1.num r.1.kids) (Dy tl r.2 s1 []):=by
 unfold Ju at h0;refine BJ.wk (r0:=DS r.1.op r.1.num r.1.kids) (st0:=Dy tl r.2 s1 [Jo r.1.op r.1.num r.1.kids]) ?_ (D3 (L:=[(0,DS r.1.op r.1.num r.1.kids)]) (st':=Dy tl r.2 s1 []) [0,1] AA (by decide) rfl AA (.raw AA (.pure Bn oz)) (.same AA));refine ai Tryz.func142 AA AA AA AA (sr AA λK1 d4=>Ee 2 AA (DL 3 Dd AA (dn d4 AA (AE λK2 d5=>?_))));obtain⟨o4,y,h0⟩:=Sh.Bj h0;have M4:∀(I:Int),o4=Sum.inr I->∀s,Wk 2 s ⟨120,AP (Rg p2 p3 p4 []),HG tl I s1 tn []⟩->K2 s:=by
  intro I hq s K;subst o4;refine d5 _ (AG K (sr AA λK5 d6=>Ac 3 AA (bs h0 λz d7 h0=>Bo (v':=ow 4 0 z) AN (hb 104) (JL d7) rfl AA ⟨(Bq λ_=>AA),oz⟩ AA AA (AT AA (dn d6 AA (AE λK7 d8=>sr AA λK8 d9=>AT AA (zz (G7 z) (DE Gd AA AA AA) rfl (AT AA ?_))))))));refine dn d9 AA ?_;refine ci h0 AA ?_ ?_<;>intro b9 h0
  .refine sr AA λg5 M=>Ac 3 AA (zz (G7 z) (DE Gd AA AA AA) rfl (bs h0 λA O h0=>?_));refine Hl (HG tl A.2 s1 tn [BY z]) (i64 A.1) [0] AN (hb 83) (Ax O) rfl AA ?_;refine bs h0 λD C h0=>zz (cU A.1) (CD BF AA AA AA AA C) rfl (zz (i64 D) (CF Hy AA AA (CQ C) rfl) rfl (AT AA (dn M AA (AE λg6 P=>?_))));refine L0 (KC s1 tn [Jl,BY z]) 12 ?_;refine BL (i64 D) AN AA (λ_ _=>BQ AA) (BL BG AN AA (λ_ _=>BQ AA) (BL (H3 tn s1) AN AA (λ_ _=>Cp Dz AA AA AA tL rfl) (BL (ls eI p2) AN AA (λ_ _=>BQ AA) (BL CV AN AA (λ_ _=>FN Wj AA AA ta rfl) (BL (D5 tn) AN AA (λ_ _=>CF dQ AA AA AA AA) (BL (i64 D) AN AA (λ_ _=>BQ AA) (bs h0 λg0 Q h0=>F8 AN (λJ zz=>BV (v:=ls eI g0) AN (hb 99) (FG Q) rfl AA AA (Av AA)) (BL (i64 p4) AN AA (λ_ _=>BQ AA) (BL (i64 (Sh.w (p4-1))) AN AA (λ_ _=>PH AA AA) (bs h0 λk R h0=>?_))))))))));refine PI (Ha k.1) (E9 tl k.2) [0,1] AN (hb 139) (BJ.wk (JK uH R) (by refine Wk.trans (Wk.BZ (L:=[(0,Ha k.1)]) (st':=Dy tl k.2 s1 [D1]) (id:=2) rfl tW (Ai Aa) ⟨.BZ AA,oz⟩ AA) ?_;exact AM [0,1] AA AA (.w (.p .nil)) (.same AA))) rfl (λ_=>AA) (λ_=>AA) (λ_=>AA) ?_;refine bs h0 λo S h0=>F8 AN (λJ zz=>BV (v:=Bd o) AN (hb 114) (BT S) rfl AA AA (Av AA)) (FU AA (Bx BI AA (dn P AA ?_)));cases h0;exact Am ⟨_,(AM (L:=[(10,CV)]) (st':=Dy tl k.2 s1 [Jo o.op o.num o.kids]) [0,1,3] AA AA (.w (.p (.w .nil))) ⟨.rfl,oz⟩).trans (Ag (L:=[(10,CV)]) ⟨.rfl,oz⟩),FY (.tmp 10) (LZ o) BI AA _ ⟨AA,AA⟩⟩
  .refine AH (d8 _ (AE λg7 T=>Ap AA ?_));refine ci h0 AA ?_ ?_<;>intro g8 h0
   .refine sr AA λg9 U=>Ac 4 AA (bs h0 λa V h0=>?_);refine Ow (HG tl a.2 s1 tn [BY z]) (DS a.1.op a.1.num a.1.kids) [0,1] AN (hb 136) (JO V) rfl AA (λ_=>AA) (λ_=>AA) ?_;refine Bx BI AA (dn U AA ?_);cases h0;exact Am ⟨_,(AM (L:=[(10,CV)]) (st':=Dy tl a.2 s1 [Jo a.1.op a.1.num a.1.kids]) [0,1,3] AA AA (.w (.p (.w .nil))) ⟨.rfl,oz⟩).trans (Ag (L:=[(10,CV)]) ⟨.rfl,oz⟩),FY (.tmp 10) (Tz a.1.op a.1.num a.1.kids) BI AA _ ⟨AA,AA⟩⟩
   .refine AH (T _ (AE λh4 W=>sr AA λh5 X=>AT AA (bs h0 λg Y h0=>?_)));refine Hl (HG tl g.2 s1 tn [BY z]) (i64 g.1) [0] AN (hb 83) (Ax Y) rfl AA ?_;refine AT AA (dn X AA ?_);refine ci h0 AA ?_ ?_<;>intro h6 h0
    .refine sr AA λh7 Z=>Ac 3 AA ?_;refine CC 5 [(0:Int)] eI BF AA ?_;refine Ac 2 AA (EU [(10,IJ),(101,BG),(102,H3 tn s1),(103,ls eI p2),(104,ic),(106,i64 (Sh.w (p4-1)))] (HG tl g.2 s1 tn [BY z,⟨1,3,1,[]⟩]) 5 AA ⟨.rfl,.rfl,.agg ⟨.rfl,.rfl,oz⟩,.rfl,.BZ AA,.rfl,oz⟩ (λ_=>AA) rfl (bs h0 λc b0 h0=>?_));refine G6 (rowsP:=Dy tl g.2 s1 []) (rows0:=Dy tl g.2 s1 []) (rows1:=Dy tl c.2 s1 []) (rows2:=[G4 c.1]) (rows1':=Dy tl c.2 s1 []) (rows2':=[G4 c.1]) (st':=HG tl c.2 s1 tn [BY z,⟨1,3,1,[]⟩,G4 c.1]) (v':=ow 6 0 c.1) [0,1] AN (hb 139) (JK uH b0) rfl (by decide) rfl AA (.raw AA AA (.pure Bn .nil)) rfl AA (.raw AA AA (.pure Bn .nil)) (.pure (Ai Aa) .nil) rfl AA ?_;refine As (Wk.BZ (L:=[(10,IJ),(107,Ha c.1)]) (st':=HG tl c.2 s1 tn [BY z,⟨1,3,1,[]⟩,D1]) (id:=6) rfl tO (Ai Aa) ⟨.rfl,.BZ AA,oz⟩ AA) (bs h0 λp b1 h0=>D0 (Bd p) (hb 114) (BT b1) rfl (Bx BI AA (dn Z AA ?_)));cases h0;exact Am ⟨_,(AM (L:=[(10,CV)]) (st':=Dy tl c.2 s1 [Jo p.op p.num p.kids]) [0,1,3] AA AA (.w (.p (.w .nil))) ⟨.rfl,oz⟩).trans (Ag (L:=[(10,CV)]) ⟨.rfl,oz⟩),FY (.tmp 10) (LZ p) BI AA _ ⟨AA,AA⟩⟩
    .refine AH (W _ (AE λh8 b2=>?_));refine L0 (KC s1 tn [Jl,BY z]) 11 ?_;refine BL BG AN AA (λ_ _=>BQ AA) ?_;refine F8 AN (λJ zz=>Gr (l:=[(1:Int),2,3,4]) (enc:=eI) AN BF (by decide) rfl AA AA AA AA Bn (Av AA)) ?_;refine bs h0 λB b3 h0=>?_;refine UE (i64 B.1) (E9 tl B.2) [0] AN (hb 70) (Bm b3) rfl (λ_=>AA) ?_;refine BL BG AN AA (λ_ _=>BQ AA) (BL (H3 tn s1) AN AA (λ_ _=>Cp Dz AA AA AA tL rfl) (BL (ls eI p2) AN AA (λ_ _=>BQ AA) ?_));refine F8 AN (λJ zz=>Gr (l:=[(0:Int),0]) (enc:=eI) AN BF (by decide) rfl AA AA AA AA Bn (Av AA)) ?_;refine BL (i64 p4) AN AA (λ_ _=>BQ AA) (BL (i64 (Sh.w (p4-1))) AN AA (λ_ _=>PH AA AA) (bs h0 λq b4 h0=>?_));refine PI (Ha q.1) (E9 tl q.2) [0,1] AN (hb 139) (BJ.wk (JK uH b4) (by refine Wk.trans (Wk.BZ (L:=[(0,Ha q.1)]) (st':=Dy tl q.2 s1 [D1]) (id:=2) rfl tW (Ai Aa) ⟨.BZ AA,oz⟩ AA) ?_;exact AM [0,1] AA AA (.w (.p .nil)) (.same AA))) rfl (λ_=>AA) (λ_=>AA) (λ_=>AA) ?_;refine bs h0 λt b5 h0=>F8 AN (λJ zz=>BV (v:=Bd t) AN (hb 114) (BT b5) rfl AA AA (Av AA)) (FU AA (Bx BI AA (dn b2 AA ?_)));cases h0;exact Am ⟨_,(AM (L:=[(10,CV)]) (st':=Dy tl q.2 s1 [Jo t.op t.num t.kids]) [0,1,3] AA AA (.w (.p (.w .nil))) ⟨.rfl,oz⟩).trans (Ag (L:=[(10,CV)]) ⟨.rfl,oz⟩),FY (.tmp 10) (LZ t) BI AA _ ⟨AA,AA⟩⟩
 refine sr AA λh9 b6=>AT AA (bs y λd b7 y=>?_);refine Hl (HG tl d.2 s1 tn []) (i64 d.1) [0] AN (hb 83) (Ax b7) rfl AA ?_;refine AT AA (dn b6 AA ?_);refine ci y AA ?_ ?_<;>intro k0 y
 .refine Ap AA (RK λg1 b8=>?_);obtain⟨E,b,y⟩:=Sh.Bj y;have g2:∀(_:Unit),E=Sum.inr ()->∀s,Wk 2 s ⟨120,AP (Rg p2 p3 p4 []),HG tl d.2 s1 tn []⟩->g1 s:=by
   intro _ hq s K;subst E;exact b8 _ (M4 d.2 (AS y) _ (K.trans (Ag (L:=Rg p2 p3 p4 []) (.same AA))))
  refine AL (An (σ:=Int) (λn v=>Ex N tl s1 tn p2 p3 p4 d tu n v=some E) (λzj=>⟨120,AP [(0,.ptr 0 0 0 0),(2,ls eI p2),(3,i64 p3),(4,i64 p4),(6,.ptr 2 0 0 0),(10,.ptr 3 0 0 0),(11,i64 zj)],[E9 tl d.2,ro 0 37 5 BP s1,⟨0,26,2,[[ls Ah tn,ow 1 0 s1]]⟩,Jl]⟩) N 1 b Aq (λ_ hv=>by rw[Ex]at hv;cases hv) ?_);rintro n zj b;rw[Ex]at b;refine AE λk1 c0=>sr AA λk2 c1=>Ac 3 AA (CY AA (AT AA (dn c1 AA ?_)));refine ci b AA ?_ ?_<;>intro k3 b
  .refine AH (c0 _ (AE λk4 c2=>AL (AE λg3 c3=>bs b λc4 h b=>?_)));have F:∀G,c4=G->∀s,Wk 2 s ⟨120,AP (Rg p2 p3 p4 [(11,i64 zj),(44,.bool G)]),HG tl d.2 s1 tn []⟩->g3 s:=by
    intro G hq s K;subst c4;refine c3 _ (AG K ?_);refine ci b AA ?_ ?_<;>intro k5 b
    .refine AE λk6 c5=>?_;refine L0 (KC s1 tn [Jl]) 20 ?_;refine BL BG AN AA (λ_ _=>BQ AA) (BL (H3 tn s1) AN AA (λ_ _=>Cp Dz AA AA AA tL rfl) (BL (ls eI p2) AN AA (λ_ _=>BQ AA) (BL (i64 zj) AN AA (λ_ _=>BQ AA) (bs b λi c6 b=>?_))));refine PI (DS i.1.op i.1.num i.1.kids) (E9 tl i.2) [0,1] AN (hb 136) (JO c6) rfl (λ_=>AA) (λ_=>AA) (λ_=>AA) ?_;refine BL BG AN AA (λ_ _=>BQ AA) (BL (H3 tn s1) AN AA (λ_ _=>Cp Dz AA AA AA tL rfl) (BL (ls eI p2) AN AA (λ_ _=>BQ AA) (BL CV AN AA (λ_ _=>FN Wj AA AA ta rfl) (BL (D5 tn) AN AA (λ_ _=>CF dQ AA AA AA AA) (BL (i64 zj) AN AA (λ_ _=>BQ AA) (BL (i64 (Sh.w (zj-1))) AN AA (λ_ _=>PH AA AA) (bs b λH c7 b=>BL (TG H) AN AA (λ_ _=>CZ DI AA AA c7 AA) (BL (TG H) AN AA (λ_ _=>Iu lS AA AA) (BL (i64 H.from_) AN AA (λ_ _=>IM Hy AA AA) (BL (i64 p4) AN AA (λ_ _=>BQ AA) ?_))))))))));refine BL (i64 (Sh.w (p4-2))) AN AA (λ_ _=>PH AA AA) (bs b λj c8 b=>?_);refine PI (DS j.1.op j.1.num j.1.kids) (E9 tl j.2) [0,1] AN (hb 134) (uH c8) rfl (λ_=>AA) (λ_=>AA) (λ_=>AA) ?_;refine F8 AN (λJ zz=>Gr (l:=[i.1,j.1]) (enc:=Ar) AN Ba (by decide) rfl AA AA (by simp only[List.map,Af];rfl) rfl (Ai Aa) (Av AA)) ?_;refine bs b λu c9 b=>F8 AN (λJ zz=>BV (v:=Bd u) AN (hb 114) (BT c9) rfl AA AA (Av AA)) (FU AA (Bx BI AA (dn c5 AA ?_)));cases b;cases y;cases h0;exact Am ⟨_,(AM (L:=[(10,CV)]) (st':=Dy tl j.2 s1 [Jo u.op u.num u.kids]) [0,1,3] AA AA (.w (.p (.w .nil))) ⟨.rfl,oz⟩).trans (Ag (L:=[(10,CV)]) ⟨.rfl,oz⟩),FY (.tmp 10) (LZ u) BI AA _ ⟨AA,AA⟩⟩
    .exact AH (c2 _ (AF AA (Ac 3 AA (AB (xi (Sh.w (zj+1)) b Aq)))))
   refine AF AA (Ac 3 AA (bs h λk7 d0 h=>G5 (hb 102) (KF d0) rfl (AT AA ?_)));rcases Sh.Ae h with ⟨e,h⟩|⟨e,h⟩
   .refine Ay e AA ?_;iterate 3 refine Ay e rfl ?_
    refine bs h λg4 d1 h=>BW (v:=TG g4) (CR AA AA e) rfl (CZ DI AA AA d1 AA) ?_;iterate 4 refine Ay e rfl ?_
    refine zt e AA (AT AA ?_);rcases Sh.Ae h with ⟨f,h⟩|⟨f,h⟩
    .exact Ay f AA (Ay f AA (Ay f AA (bs h λd2 d3 h=>Lw (v':=.bool d2) (CR AA AA f) (hb 145) (KO d3) rfl (.agg (.val AA (.own AA AA (λ_=>AA) .nil)) (.val AA (.val AA .nil))) rfl oz AA AA (zt f AA (AB (F d2 (AS h) _ Aq))))))
    .refine zs f AA ?_;iterate 3 refine zs f rfl ?_
     exact zf f AA (AB (F false (AS h) _ Aq))
   .refine zs e AA ?_;iterate 8 refine zs e rfl ?_
    refine zf e AA (AT AA ?_);iterate 4 refine zs rfl rfl ?_
    exact zf AA AA (AB (F false (AS h) _ Aq))
  .exact Au (g2 () (AS b) _ Aq)
 .exact AH (M4 d.2 (AS y) _ Aq)
theorem Xc {N:Nat}{tu:(List Int)->Int->(List AU)->(List AK)->(List Int)->Int->Int->Option (AD×Int)}(uH :∀{tl:List Int} {tr:Int} {s1:List AU} {tn:List AK} {p2:List Int} {p3:Int} {p4:Int} {r:AD×Int},tu tl tr s1 tn p2 p3 p4=some r->Bf 134 (Y4 tn s1 p2 p3 p4) (Dy tl tr s1 []) (DS r.1.op r.1.num r.1.kids) (Dy tl r.2 s1 [])){tl:List Int}{tr:Int}{s1:List AU}{tn:List AK}{p2:List Int}{p3 p4:Int}{r:AD×Int}(h0:MF N tu tl tr s1 tn p2 p3 p4=some r):Bf 134 (Y4 tn s1 p2 p3 p4) (Dy tl tr s1 []) (DS r.1.op r.1.num r.1.kids) (Dy tl r.2 s1 []):=by
 unfold MF at h0;refine BJ.wk (r0:=DS r.1.op r.1.num r.1.kids) (st0:=Dy tl r.2 s1 [Jo r.1.op r.1.num r.1.kids]) ?_ (D3 (L:=[(0,DS r.1.op r.1.num r.1.kids)]) (st':=Dy tl r.2 s1 []) [0,1] AA (by decide) rfl AA (.raw AA (.pure Bn oz)) (.same AA));refine ai Tryz.func134 AA AA AA AA (sr AA λK1 c8=>Ee 2 AA (DL 3 Dd AA (dn c8 AA (AE λK2 c9=>Ap AA ?_))));refine ci h0 AA ?_ ?_<;>intro b4 h0
 .refine sr AA λK5 d0=>Ac 4 AA (bs h0 λh d1 h0=>?_);refine Ow (HG tl h.2 s1 tn []) (DS h.1.op h.1.num h.1.kids) [0,1] AN (hb 136) (JO d1) rfl AA (λ_=>AA) (λ_=>AA) ?_;refine Bx BI AA (dn d0 AA ?_);cases h0;exact Am ⟨_,(AM (L:=[(10,CV)]) (st':=Dy tl h.2 s1 [Jo h.1.op h.1.num h.1.kids]) [0,1,3] AA AA (.w (.p (.w .nil))) ⟨.rfl,oz⟩).trans (Ag (L:=[(10,CV)]) ⟨.rfl,oz⟩),FY (.tmp 10) (Tz h.1.op h.1.num h.1.kids) BI AA _ ⟨AA,AA⟩⟩
 .refine AH (c9 _ (AE λK7 d2=>?_));obtain⟨o9,a,h0⟩:=Sh.Bj h0;have M9:∀(f8:Int),o9=Sum.inr f8->∀s,Wk 2 s ⟨114,AP (Rg p2 p3 p4 []),HG tl f8 s1 tn []⟩->K7 s:=by
   intro f8 hq s B;subst o9;refine d2 _ (AG B (sr AA λg1 G=>Ac 5 AA (bs h0 λc H h0=>?_)));refine Ow (HG tl c.2 s1 tn []) (DS c.1.op c.1.num c.1.kids) [0,1] AN (hb 142) (TL uH H) rfl AA (λ_=>AA) (λ_=>AA) ?_;refine Bx BI AA (dn G AA ?_);cases h0;exact Am ⟨_,(AM (L:=[(10,CV)]) (st':=Dy tl c.2 s1 [Jo c.1.op c.1.num c.1.kids]) [0,1,3] AA AA (.w (.p (.w .nil))) ⟨.rfl,oz⟩).trans (Ag (L:=[(10,CV)]) ⟨.rfl,oz⟩),FY (.tmp 10) (Tz c.1.op c.1.num c.1.kids) BI AA _ ⟨AA,AA⟩⟩
  refine sr AA λg2 I=>AT AA (bs a λb J a=>?_);refine Hl (HG tl b.2 s1 tn []) (i64 b.1) [0] AN (hb 83) (Ax J) rfl AA ?_;refine dn I AA (AL (Ap AA ?_));refine ci a AA ?_ ?_<;>intro g3 a
  .refine sr AA λg4 K=>Ac 4 AA (bs a λd M a=>?_);refine Ow (HG tl d.2 s1 tn []) (DS d.1.op d.1.num d.1.kids) [0,1] AN (hb 136) (JO M) rfl AA (λ_=>AA) (λ_=>AA) ?_;refine Bx BI AA (dn K AA ?_);cases a;cases h0;exact Am ⟨_,(AM (L:=[(10,CV)]) (st':=Dy tl d.2 s1 [Jo d.1.op d.1.num d.1.kids]) [0,1,3] AA AA (.w (.p (.w .nil))) ⟨.rfl,oz⟩).trans (Ag (L:=[(10,CV)]) ⟨.rfl,oz⟩),FY (.tmp 10) (Tz d.1.op d.1.num d.1.kids) BI AA _ ⟨AA,AA⟩⟩
  .refine AE λd3 O=>bs a λP f a=>?_;have Q:∀C,P=C->∀s,Wk 2 s ⟨114,AP (Rg p2 p3 p4 [(22,i64 b.1),(30,.bool C)]),HG tl b.2 s1 tn []⟩->d3 s:=by
    intro C hq s B;subst P;refine O _ (AG B ?_);refine ci a AA ?_ ?_<;>intro g5 a
    .refine sr AA λg6 R=>Ac 3 AA (bs a λi S a=>?_);refine Ow (HG tl i.2 s1 tn []) (i64 i.1) [0,1] AN (hb 138) (U9 S) rfl AA (λ_=>AA) (λ_=>AA) ?_;refine AT AA (dn R AA (AE λg7 T=>?_));refine L0 (KC s1 tn [Jl]) 19 ?_;refine BL BG AN AA (λ_ _=>BQ AA) (BL (H3 tn s1) AN AA (λ_ _=>Cp Dz AA AA AA tL rfl) (BL (ls eI p2) AN AA (λ_ _=>BQ AA) (BL (i64 i.1) AN AA (λ_ _=>BQ AA) (BL (i64 p4) AN AA (λ_ _=>BQ AA) ?_))));refine BL (i64 (Sh.w (Int.tdiv p4 2))) AN AA (λ_ _=>Wl AA AA (by decide)) ?_;refine bs a λj U a=>?_;refine PI (DS j.1.op j.1.num j.1.kids) (E9 tl j.2) [0,1] AN (hb 134) (uH U) rfl (λ_=>AA) (λ_=>AA) (λ_=>AA) ?_;refine BL BG AN AA (λ_ _=>BQ AA) (BL (H3 tn s1) AN AA (λ_ _=>Cp Dz AA AA AA tL rfl) (BL (ls eI p2) AN AA (λ_ _=>BQ AA) (BL (i64 i.1) AN AA (λ_ _=>BQ AA) ?_)));refine F8 AN (λx0 zz=>Gr (l:=[i.1]) (enc:=eI) AN BF (by decide) rfl AA AA AA AA Bn (Av AA)) ?_;refine bs a λV W a=>?_;refine F8 AN (λx0 zz=>BV (v:=ls eI V) AN (hb 85) (BJ.wk (F7 W) (by refine Wk.trans (Wk.BZ (L:=[(0,ls eI V)]) (st':=TV) (id:=0) rfl tM Bn ⟨.BZ AA,oz⟩ AA) ?_;exact AM [] AA AA .nil (.same AA))) rfl AA AA (Av AA)) ?_;refine BL (i64 p3) AN AA (λ_ _=>BQ AA) (BL (i64 p4) AN AA (λ_ _=>BQ AA) ?_);refine BL (i64 (Sh.w (Int.tdiv p4 2))) AN AA (λ_ _=>Wl AA AA (by decide)) ?_;refine bs a λk X a=>?_;refine PI (DS k.1.op k.1.num k.1.kids) (E9 tl k.2) [0,1] AN (hb 134) (uH X) rfl (λ_=>AA) (λ_=>AA) (λ_=>AA) ?_;refine F8 AN (λx0 zz=>Gr (l:=[j.1,k.1]) (enc:=Ar) AN Ba (by decide) rfl AA AA (by simp only[List.map,Af];rfl) rfl (Ai Aa) (Av AA)) ?_;refine bs a λn Y a=>F8 AN (λx0 zz=>BV (v:=Bd n) AN (hb 114) (BT Y) rfl AA AA (Av AA)) (FU AA (Bx BI AA (dn T AA ?_)));cases a;cases h0;exact Am ⟨_,(AM (L:=[(10,CV)]) (st':=Dy tl k.2 s1 [Jo n.op n.num n.kids]) [0,1,3] AA AA (.w (.p (.w .nil))) ⟨.rfl,oz⟩).trans (Ag (L:=[(10,CV)]) ⟨.rfl,oz⟩),FY (.tmp 10) (LZ n) BI AA _ ⟨AA,AA⟩⟩
    .refine Ap AA ?_;refine ci a AA ?_ ?_<;>intro g8 a
     .refine sr AA λg9 Z=>Ac 5 AA ?_;refine CC 4 [0,p3,p3] eI BF AA ?_;refine Ac 2 AA (EU [(10,IJ),(58,BG),(59,H3 tn s1),(60,ls eI p2),(63,ls eI [0,p3,p3]),(65,i64 (Sh.w (p4-1)))] (HG tl b.2 s1 tn [⟨1,3,1,[]⟩]) 4 AA ⟨.rfl,.rfl,.agg ⟨.rfl,.rfl,oz⟩,.rfl,.BZ AA,.rfl,oz⟩ (λ_=>AA) rfl (bs a λg b0 a=>?_));refine G6 (rowsP:=Dy tl b.2 s1 []) (rows0:=Dy tl b.2 s1 []) (rows1:=Dy tl g.2 s1 []) (rows2:=[G4 g.1]) (rows1':=Dy tl g.2 s1 []) (rows2':=[G4 g.1]) (st':=HG tl g.2 s1 tn [⟨1,3,1,[]⟩,G4 g.1]) (v':=ow 5 0 g.1) [0,1] AN (hb 139) (JK uH b0) rfl (by decide) rfl AA (.raw AA AA (.pure Bn .nil)) rfl AA (.raw AA AA (.pure Bn .nil)) (.pure (Ai Aa) .nil) rfl AA ?_;refine As (Wk.BZ (L:=[(10,IJ),(66,Ha g.1)]) (st':=HG tl g.2 s1 tn [⟨1,3,1,[]⟩,D1]) (id:=5) rfl tX (Ai Aa) ⟨.rfl,.BZ AA,oz⟩ AA) (bs a λo b1 a=>D0 (Bd o) (hb 114) (BT b1) rfl (Bx BI AA (dn Z AA ?_)));cases a;cases h0;exact Am ⟨_,(AM (L:=[(10,CV)]) (st':=Dy tl g.2 s1 [Jo o.op o.num o.kids]) [0,1,3] AA AA (.w (.p (.w .nil))) ⟨.rfl,oz⟩).trans (Ag (L:=[(10,CV)]) ⟨.rfl,oz⟩),FY (.tmp 10) (LZ o) BI AA _ ⟨AA,AA⟩⟩
     .refine AE λd4 b2=>bs a λb3 f a=>?_;have D:∀E,b3=E->∀s,Wk 2 s ⟨114,AP (Rg p2 p3 p4 [(22,i64 b.1),(68,.bool E)]),HG tl b.2 s1 tn []⟩->d4 s:=by
       intro E hq s B;subst b3;refine b2 _ (AG B ?_);refine ci a AA ?_ ?_<;>intro h3 a
       .refine sr AA λh4 b5=>Ac 5 AA (bs a λe b6 a=>?_);refine Ow (HG tl e.2 s1 tn []) (DS e.1.op e.1.num e.1.kids) [0,1] AN (hb 140) (Tr uH b6) rfl AA (λ_=>AA) (λ_=>AA) ?_;refine Bx BI AA (dn b5 AA ?_);cases a;cases h0;exact Am ⟨_,(AM (L:=[(10,CV)]) (st':=Dy tl e.2 s1 [Jo e.1.op e.1.num e.1.kids]) [0,1,3] AA AA (.w (.p (.w .nil))) ⟨.rfl,oz⟩).trans (Ag (L:=[(10,CV)]) ⟨.rfl,oz⟩),FY (.tmp 10) (Tz e.1.op e.1.num e.1.kids) BI AA _ ⟨AA,AA⟩⟩
       .refine AE λd5 b7=>bs a λb8 f a=>?_;have b9:∀F,b8=F->∀s,Wk 2 s ⟨114,AP (Rg p2 p3 p4 [(78,.bool F)]),HG tl b.2 s1 tn []⟩->d5 s:=by
         intro F hq s B;subst b8;refine b7 _ (AG B ?_);refine ci a AA ?_ ?_<;>intro h5 a
         .refine sr AA λh6 c0=>Ac 2 AA (bs a λt c1 a=>Lw (v':=ow 4 0 t) AN (hb 141) (UA c1) rfl (.agg (.val AA (.own AA AA (λ_=>AA) .nil)) (.val AA .nil)) rfl (mE (λ_=>AA) oz) rfl AA (AT AA (dn c0 AA (sr AA λh7 c2=>AT AA (zz (G7 t) (DE Gd AA AA AA) rfl (AT AA (dn c2 AA ?_)))))));refine ci a AA ?_ ?_<;>intro h8 a
          .refine sr AA λh9 c3=>Ac 3 AA (zz (G7 t) (DE Gd AA AA AA) rfl (bs a λu c4 a=>?_));refine Hl (HG tl u.2 s1 tn [BY t]) (i64 u.1) [0] AN (hb 83) (Ax c4) rfl AA ?_;refine bs a λy z a=>zz (cU u.1) (CD BF AA AA AA AA z) rfl (zz (i64 y) (CF Hy AA AA (CQ z) rfl) rfl (AT AA (dn c3 AA (AE λk0 c5=>?_))));refine L0 (KC s1 tn [Jl,BY t]) 14 ?_;refine BL (i64 y) AN AA (λ_ _=>BQ AA) (BL BG AN AA (λ_ _=>BQ AA) (BL (H3 tn s1) AN AA (λ_ _=>Cp Dz AA AA AA tL rfl) (BL (ls eI p2) AN AA (λ_ _=>BQ AA) (BL dH AN AA (λ_ _=>FN Ki AA AA tN rfl) (BL (ow 1 0 s1) AN AA (λ_ _=>CF P1 AA AA AA AA) (BL (i64 y) AN AA (λ_ _=>BQ AA) (bs a λd6 A a=>BL (LF y) AN AA (λ_ _=>CD Ck AA AA AA AA A) (BL (LF y) AN AA (λ_ _=>FN Tb AA AA (show 0+0<=5 by decide) rfl) (BL (ls eI d6.params) AN AA (λ_ _=>CF Le AA AA (CQ A) rfl) (BL (i64 p4) AN AA (λ_ _=>BQ AA) ?_))))))))));refine BL (i64 (Sh.w (p4-1))) AN AA (λ_ _=>PH AA AA) (bs a λp c6 a=>?_);refine PI (Ha p.1) (E9 tl p.2) [0,1] AN (hb 139) (BJ.wk (JK uH c6) (by refine Wk.trans (Wk.BZ (L:=[(0,Ha p.1)]) (st':=Dy tl p.2 s1 [D1]) (id:=2) rfl tW (Ai Aa) ⟨.BZ AA,oz⟩ AA) ?_;exact AM [0,1] AA AA (.w (.p .nil)) (.same AA))) rfl (λ_=>AA) (λ_=>AA) (λ_=>AA) ?_;refine bs a λq c7 a=>F8 AN (λx0 zz=>BV (v:=Bd q) AN (hb 114) (BT c7) rfl AA AA (Av AA)) (FU AA (Bx BI AA (dn c5 AA ?_)));cases a;cases h0;exact Am ⟨_,(AM (L:=[(10,CV)]) (st':=Dy tl p.2 s1 [Jo q.op q.num q.kids]) [0,1,3] AA AA (.w (.p (.w .nil))) ⟨.rfl,oz⟩).trans (Ag (L:=[(10,CV)]) ⟨.rfl,oz⟩),FY (.tmp 10) (LZ q) BI AA _ ⟨AA,AA⟩⟩
          .exact AH (M9 b.2 (AS a) _ (AM [0,1,2,3] AA AA (.w (.p (.w (.w .nil)))) (.same AA)))
         .exact AH (M9 b.2 (AS a) _ Aq)
        refine Ap AA ?_;refine ci f AA ?_ ?_<;>intro d7 f
        .exact AH (b9 true (AS f) _ (Ag (L:=Rg p2 p3 p4 [(78,.bool true)]) ⟨.rfl,.rfl,.rfl,.rfl,.rfl,.rfl,.of (qX AV.bool d7),oz⟩))
        .exact AF AA (Ac 2 AA (AB (b9 (decide (b.1=8)) (AS f) _ Aq)))
      refine Ap AA ?_;refine ci f AA ?_ ?_<;>intro d8 f
      .exact AH (D true (AS f) _ (Ag (L:=Rg p2 p3 p4 [(22,i64 b.1),(68,.bool true)]) ⟨.rfl,.rfl,.rfl,.rfl,.rfl,.rfl,.rfl,.of (qX AV.bool d8),oz⟩))
      .refine Ap AA ?_;refine ci f AA ?_ ?_<;>intro d9 f
       .exact AH (D true (AS f) _ (Ag (L:=Rg p2 p3 p4 [(22,i64 b.1),(68,.bool true)]) ⟨.rfl,.rfl,.rfl,.rfl,.rfl,.rfl,.rfl,.of (qX AV.bool d9),oz⟩))
       .exact AF AA (Ac 2 AA (AB (D (decide (b.1=6)) (AS f) _ Aq)))
   refine Ap AA ?_;refine ci f AA ?_ ?_<;>intro g0 f
   .exact AH (Q true (AS f) _ (Ag (L:=Rg p2 p3 p4 [(22,i64 b.1),(30,.bool true)]) ⟨.rfl,.rfl,.rfl,.rfl,.rfl,.rfl,.rfl,.of (qX AV.bool g0),oz⟩))
   .exact AF AA (Ac 2 AA (AB (Q (decide (b.1=2)) (AS f) _ Aq)))
theorem XR {N:Nat}:∀(n:Nat),∀{tl:List Int} {tr:Int} {s1:List AU} {tn:List AK} {p2:List Int} {p3:Int} {p4:Int} {r:AD×Int},J7 N n tl tr s1 tn p2 p3 p4=some r->Bf 134 (Y4 tn s1 p2 p3 p4) (Dy tl tr s1 []) (DS r.1.op r.1.num r.1.kids) (Dy tl r.2 s1 []):=by
 intro n
 induction n with
 |zero=>intro tl tr s1 tn p2 p3 p4 r a;cases a
 |succ n ih=>
  intro tl tr s1 tn p2 p3 p4 r a;rw[J7]at a;exact Xc (λh=>ih h) a
theorem GU {N:Nat}:∀{tl:List Int} {tr:Int} {s1:List AU} {tn:List AK} {p2:List Int} {p3:Int} {p4:Int} {r:AD×Int},HZ N tl tr s1 tn p2 p3 p4=some r->Bf 134 (Y4 tn s1 p2 p3 p4) (Dy tl tr s1 []) (DS r.1.op r.1.num r.1.kids) (Dy tl r.2 s1 []):=by
 intro tl tr s1 tn p2 p3 p4 r a;exact XR N a
theorem U0 {N:Nat}{tl:List Int}{tr p1:Int}{r:AD×Int}(h0:Ka N tl tr p1=some r):Bf 135 [BG,i64 p1] [E9 tl tr] (DS r.1.op r.1.num r.1.kids) [E9 tl r.2]:=by
 unfold Ka at h0;refine BJ.wk (r0:=DS r.1.op r.1.num r.1.kids) (st0:=[E9 tl r.2,Jo r.1.op r.1.num r.1.kids]) ?_ (D3 (L:=[(0,DS r.1.op r.1.num r.1.kids)]) (st':=[E9 tl r.2]) [0] AA (by decide) rfl AA (.raw AA oz) (.same AA));refine ai Tryz.func135 AA AA AA AA (sr AA λK1 Z=>DL 1 Dd AA (dn Z AA (sr AA λK2 b0=>?_)));refine CC 2 ([]:List AD) Ar Ba (by simp only[List.map,Af];rfl) ?_;refine As (Wk.BZ (L:=[(0,BG),(1,i64 p1),(4,CM),(10,fA)]) (st':=[E9 tl tr,Jl,D1]) (id:=2) rfl tc (Ai Aa) ⟨.rfl,.rfl,.rfl,.BZ AA,oz⟩ AA) (bs h0 λA b1 h0=>D0 (Bd A) (hb 114) (BT b1) rfl (DL 3 Dd AA (Bx BI AA (As (Wk.BZ (L:=[(0,BG),(1,i64 p1),(4,CM),(5,EP A)]) (st':=[E9 tl tr,Jl,D1,D1]) (id:=3) rfl (show 1<=3 by decide) (Ek AA) (.same AA) rfl) (dn b0 AA (AE λK4 b2=>Ap AA ?_))))));refine ci h0 AA ?_ ?_<;>intro b6 h0
 .refine sr AA λK7 b3=>?_;refine CC 4 ([]:List AD) Ar Ba (by simp only[List.map,Af];rfl) ?_;refine As (Wk.BZ (L:=[(0,BG),(4,CM),(14,fA)]) (st':=[E9 tl tr,Jl,D1,D1,D1]) (id:=4) rfl tY (Ai Aa) ⟨.rfl,.rfl,.BZ AA,oz⟩ AA) (bs h0 λk b4 h0=>D0 (Bd k) (hb 114) (BT b4) rfl (DL 5 Dd AA (Bx BI AA (As (Wk.BZ (L:=[(0,BG),(4,CM),(6,EP k)]) (st':=[E9 tl tr,Jl,D1,D1,D1,D1]) (id:=5) rfl (show 1<=5 by decide) (Ek AA) (.same AA) rfl) (dn b3 AA (AE λK9 b5=>?_))))));refine AG (D4 (L:=[(0,BG),(4,CM),(6,EP k)]) (st':=[E9 tl tr,Jl,IX,IX,IX,IX]) (.raw AA AA AA (.raw AA AA AA (.pure AA (by intro x a;cases a) (.pure AA (by intro x a;cases a) (.pure AA (by intro x a;cases a) (.pure AA (by intro x a;cases a) .nil)))))) (.same AA)) ?_;refine L0 [Jl,IX,IX,IX,IX] 8 ?_;refine BL (Bd k) AN AA (λ_ _=>H0 BI AA tK rfl) (BL BG AN AA (λ_ _=>BQ AA) (bs h0 λc D h0=>?_));refine UE (i64 c.1) (E9 tl c.2) [0] AN (hb 83) (Ax D) rfl (λ_=>AA) ?_;refine bs h0 λE F h0=>F8 AN (λB zz=>BV (v:=Bd E) AN (hb 115) (Dj F) rfl AA AA (Av AA)) (BL (Bd k) AN AA (λ_ _=>H0 BI AA tK rfl) ?_);refine F8 AN (λB zz=>Gr (l:=[k,E,k]) (enc:=Ar) AN Ba (by decide) rfl AA AA (by simp only[List.map,Af];rfl) rfl (Ai Aa) (Av AA)) ?_;refine bs h0 λo G h0=>F8 AN (λB zz=>BV (v:=Bd o) AN (hb 114) (BT G) rfl AA AA (Av AA)) (cK Dd AA (FU AA (Bx BI AA (As (Wk.BZ (L:=[(0,BG),(4,CM),(6,EP k),(7,EP o)]) (st':=[E9 tl c.2,Jl,IX,IX,IX,IX,D1]) (id:=6) rfl (show 1<=6 by decide) (Ek AA) (.same AA) rfl) (dn b5 AA (AE λb9 H=>?_))))));refine AG (D4 (L:=[(0,BG),(4,CM),(6,EP k),(7,EP o)]) (st':=[E9 tl c.2,Jl,IX,IX,IX,IX,IX]) (.raw AA AA AA (.raw AA AA AA (.pure AA (by intro x a;cases a) (.pure AA (by intro x a;cases a) (.pure AA (by intro x a;cases a) (.pure AA (by intro x a;cases a) (.pure AA (by intro x a;cases a) .nil))))))) (.same AA)) ?_;refine L0 [Jl,IX,IX,IX,IX,IX] 7 ?_;refine BL (Bd o) AN AA (λ_ _=>H0 BI AA tK rfl) (BL BG AN AA (λ_ _=>BQ AA) (bs h0 λq I h0=>?_));refine UE (i64 q.1) (E9 tl q.2) [0] AN (hb 83) (Ax I) rfl (λ_=>AA) ?_;refine bs h0 λJ K h0=>F8 AN (λB zz=>BV (v:=Bd J) AN (hb 115) (Dj K) rfl AA AA (Av AA)) (BL (Bd k) AN AA (λ_ _=>H0 BI AA tK rfl) ?_);refine F8 AN (λB zz=>Gr (l:=[o,J,k]) (enc:=Ar) AN Ba (by decide) rfl AA AA (by simp only[List.map,Af];rfl) rfl (Ai Aa) (Av AA)) ?_;refine bs h0 λd M h0=>F8 AN (λB zz=>BV (v:=Bd d) AN (hb 114) (BT M) rfl AA AA (Av AA)) (FU AA (Bx BI AA (dn H AA ?_)));cases h0;exact Am ⟨_,(AM (L:=[(4,CM)]) (st':=[E9 tl q.2,Jo d.op d.num d.kids]) [0,1] AA AA (.w (.w .nil)) ⟨.rfl,oz⟩).trans (Ag (L:=[(4,CM)]) ⟨.rfl,oz⟩),FY (.tmp 4) (LZ d) BI AA _ ⟨AA,AA⟩⟩
 .refine AH (b2 _ (sr AA λc0 O=>AT AA (DL 4 Dd AA (Bx BI AA (dn O AA (AE λb7 P=>sr AA λc1 Q=>AT AA (bs h0 λp R h0=>?_)))))));refine Hl [E9 tl p.2,Jl,D1,D1,Jo A.op A.num A.kids] (i64 p.1) [0] AN (hb 83) (Ax R) rfl AA ?_;refine Ac 2 AA (dn Q AA (bs h0 λC b h0=>?_));have b8:∀t e f g,C=(t,e,f,g)->∀s,Wk 1 s ⟨45,AP [(4,CM),(8,CV)],[E9 tl t,Jl,Jo e f g]⟩->b7 s:=by
   rintro t e f g rfl s hw;refine P _ (AG hw (sr AA λc2 S=>AT AA (Bx BI AA (dn S AA ?_))));cases h0;exact Am ⟨_,(AM (L:=[(4,CM)]) (st':=[E9 tl t,Jo e f g]) [0,1] AA AA (.w (.w .nil)) ⟨.rfl,oz⟩).trans (Ag (L:=[(4,CM)]) ⟨.rfl,oz⟩),FY (.tmp 4) (Tz e f g) BI AA _ ⟨AA,AA⟩⟩
  refine AL (An (σ:=Int×Int×Int×Int×(List AD)) (λn v=>GJ tl n v.1 v.2.1 v.2.2.1 v.2.2.2.1 v.2.2.2.2=some C) (λ(n21,u,h,i,j)=>⟨45,AP [(0,.ptr 0 0 0 0),(4,.ptr 1 0 0 0),(8,.ptr 2 0 0 0),(9,i64 n21)],[E9 tl u,Jl,Jo h i j]⟩) N (Sh.w (1+p.1),p.2,A.op,A.num,A.kids) b (AM [0,1,4] AA AA (.w (.w (.w .nil))) (.same AA)) (λ_ hv=>by rw[GJ]at hv;cases hv) ?_);rintro n ⟨n21,u,h,i,j⟩ b;rw[GJ]at b;refine AE λc3 T=>Ap AA ?_;refine ci b AA ?_ ?_<;>intro c4 b
  .refine AH (T _ (AE λc5 U=>AL ?_));refine L0 [Jl,Jo h i j] 6 ?_;refine BL BG AN AA (λ_ _=>BQ AA) (bs b λy V b=>?_);refine UE (i64 y.1) (E9 tl y.2) [0] AN (hb 143) (Ox V) rfl (λ_=>AA) ?_;refine bs b λW X b=>F8 AN (λB zz=>BV (v:=Bd W) AN (hb 115) (Dj X) rfl AA AA (Av AA)) (BL (DS h i j) AN AA (λ_ _=>Cp BI AA AA AA tK rfl) ?_);refine F8 AN (λB zz=>Gr (l:=[W,AD.mk h i j]) (enc:=Ar) AN Ba (by decide) rfl AA AA (by simp only[List.map,Af];rfl) rfl (Ai Aa) (Av AA)) ?_;exact bs b λz Y b=>F8 AN (λB zz=>BV (v:=Bd z) AN (hb 114) (BT Y) rfl AA AA (Av AA)) (FU AA (Bx BI AA (dn U AA (AF AA (Ac 3 AA (AB (xi (Sh.w (n21-1),y.2,z.op,z.num,z.kids) b Aq)))))))
  .exact Au (b8 u h i j (AS b) _ Aq)
theorem UQ {N:Nat}{tl:List Int}{tr:Int}{s1:List AU}{tn:List AK}{r:AD×Int}(h0:Jr N tl tr s1 tn=some r):Bf 119 [BG,H3 tn s1] (Dy tl tr s1 []) (DS r.1.op r.1.num r.1.kids) (Dy tl r.2 s1 []):=by
 unfold Jr at h0;refine BJ.wk (r0:=DS r.1.op r.1.num r.1.kids) (st0:=Dy tl r.2 s1 [Jo r.1.op r.1.num r.1.kids]) ?_ (D3 (L:=[(0,DS r.1.op r.1.num r.1.kids)]) (st':=Dy tl r.2 s1 []) [0,1] AA (by decide) rfl AA (.raw AA (.pure Bn oz)) (.same AA));refine ai Tryz.func119 AA AA AA AA (sr AA λM z=>Ee 2 AA (DL 3 Dd AA (dn z AA (sr AA λO A=>AT AA ?_))));refine CC 4 [(1:Int),1,3] eI BF AA ?_;refine EU [(0,BG),(3,CV),(4,IJ),(7,BG),(8,ls eI [(1:Int),1,3])] (HG tl tr s1 tn [⟨1,3,1,[]⟩]) 4 AA ⟨.rfl,.rfl,.rfl,.rfl,.BZ AA,oz⟩ (λ_=>AA) rfl (bs h0 λf B h0=>?_);refine Hl (HG tl f.2 s1 tn [⟨1,3,1,[]⟩]) (i64 f.1) [0] AN (hb 70) (Bm B) rfl AA ?_;refine AT AA (dn A AA (sr AA λP C=>Ac 3 AA ?_));refine CC 5 [f.1] eI BF AA ?_;refine EU [(0,BG),(4,IJ),(5,i64 f.1),(10,BG),(11,H3 tn s1),(13,ls eI [f.1])] (HG tl f.2 s1 tn (Ch [])) 5 AA ⟨.rfl,.rfl,.rfl,.rfl,.agg ⟨.rfl,.rfl,oz⟩,.BZ AA,oz⟩ (λ_=>AA) rfl (bs h0 λa D h0=>?_);refine Ow (HG tl a.2 s1 tn (Ch [])) (DS a.1.op a.1.num a.1.kids) [0,1] AN (hb 134) (GU D) rfl AA (λ_=>AA) (λ_=>AA) ?_;refine DL 6 Dd AA (Bx BI AA (dn C AA (AE λF E=>bs h0 λk g h0=>?_)));have n:∀y i j c,k=(y,i,j,c)->∀s,Wk 2 s ⟨27,AP [(0,BG),(4,CV),(5,i64 f.1),(6,IJ)],Dy tl y s1 [Jl,Jo i j c]⟩->F s:=by
  rintro y i j c rfl s G;refine E _ (AG G (AE λH o=>?_));refine L0 [ML s1,Jl,Jo i j c] 6 ?_;refine BL BG AN AA (λ_ _=>BQ AA) (BL (i64 f.1) AN AA (λ_ _=>BQ AA) (bs h0 λb p h0=>?_));refine UE (DS b.1.op b.1.num b.1.kids) (E9 tl b.2) [0] AN (hb 135) (U0 p) rfl (λ_=>AA) ?_;refine BL (DS i j c) AN AA (λ_ _=>Cp BI AA AA AA tK rfl) ?_;refine F8 AN (λI zz=>Gr (l:=[b.1,AD.mk i j c]) (enc:=Ar) AN Ba (by decide) rfl AA AA (by simp only[List.map,Af];rfl) rfl (Ai Aa) (Av AA)) ?_;refine bs h0 λd q h0=>F8 AN (λI zz=>BV (v:=Bd d) AN (hb 114) (BT q) rfl AA AA (Av AA)) (FU AA (Bx BI AA (dn o AA ?_)));cases h0;exact Am ⟨_,(AM (L:=[(4,CV)]) (st':=Dy tl b.2 s1 [Jo d.op d.num d.kids]) [0,1,2] AA AA (.w (.p (.w .nil))) ⟨.rfl,oz⟩).trans (Ag (L:=[(4,CV)]) ⟨.rfl,oz⟩),FY (.tmp 4) (LZ d) BI AA _ ⟨AA,AA⟩⟩
 refine sr AA λJ t=>AT AA (bs g λe u g=>?_);refine Hl (HG tl e.2 s1 tn (Ch [Jo a.1.op a.1.num a.1.kids])) (i64 e.1) [0] AN (hb 83) (Ax u) rfl AA ?_;refine AT AA (dn t AA ?_);refine ci g AA ?_ ?_<;>intro K g
 .refine AF AA (AT AA ?_);refine CC 7 [a.1] Ar Ba (by simp only[List.map,Af];rfl) ?_;refine As (Wk.BZ (L:=[(0,BG),(4,IJ),(5,i64 f.1),(6,.ptr 6 0 0 0),(19,ls Ar [a.1])]) (st':=HG tl e.2 s1 tn (Ch [Jo a.1.op a.1.num a.1.kids,D1])) (id:=7) rfl (show 2<=7 by decide) (Ai Aa) ⟨.rfl,.rfl,.rfl,.rfl,.BZ AA,oz⟩ AA) (bs g λh w g=>D0 (Bd h) (hb 114) (BT w) rfl (Bx BI AA ?_));exact AB (n e.2 h.op h.num h.kids (AS g) _ (AM [0,1,3,6] AA AA (.w (.p (.w (.w .nil)))) (.same AA)))
 .exact AH (n e.2 a.1.op a.1.num a.1.kids (AS g) _ (AM [0,1,3,6] AA AA (.w (.p (.w (.w .nil)))) (.same AA)))
end
end Go.Proofs.YtihdgoiebmfapaaGreat
