import Derived.Test.YtccficmcdkcpnaaGreatGBOLToAbsYC
import Derived.Test.YtccficmcdkcpnaaGreatCFWalk
import Derived.Test.YtccficmcdkcpnaaGreatINX
set_option linter.all false
namespace Go.Proofs.YtccficmcdkcpnaaGreat
noncomputable section
open Go Go.Abs RC
attribute [local irreducible] Go.Abs.DI
set_option maxRecDepth 100000
theorem Ki:([7,9,11,12,13,14,15,21,22,25,26,27,30,31,32,33,36,37,38,39,40,41,42,43,44,45,46,47,48,49,50,54,56,63,64,65,66,67,68,69,70,71,74,75,76,78,81,82,83,84,85,86,87,88,89,90,91,92,93,94,95,96,97,104,105,108,113,117,119,120,121,122,123,124,125,126,127,128,129,131,134,135,136,137,138,139,147,148,149,150,151,152,153,154,155,156,157,162,171,172,173,174,175,178,180,183,185,187,188,189,190,191,192,193,194,195,204,205,211,212,213,214,215,216,217,232,233,234,235,237,239,240,241,242,243,244,245,246,247,254,266,272,275,281].all λn=>Dy Tryz.prog n)=true:=by kernel_rfl
theorem hb (n:Nat)(h:[7,9,11,12,13,14,15,21,22,25,26,27,30,31,32,33,36,37,38,39,40,41,42,43,44,45,46,47,48,49,50,54,56,63,64,65,66,67,68,69,70,71,74,75,76,78,81,82,83,84,85,86,87,88,89,90,91,92,93,94,95,96,97,104,105,108,113,117,119,120,121,122,123,124,125,126,127,128,129,131,134,135,136,137,138,139,147,148,149,150,151,152,153,154,155,156,157,162,171,172,173,174,175,178,180,183,185,187,188,189,190,191,192,193,194,195,204,205,211,212,213,214,215,216,217,232,233,234,235,237,239,240,241,242,243,244,245,246,247,254,266,272,275,281].contains n=true:=by decide):Dy Tryz.prog n=true:=ma.1 Ki n (List.contains_iff_mem.1 h)
abbrev IU (z0:List AR)(z1:List AP):Go.Abs.Row:=⟨0,30,2,[[ls Ak z0,ls Ah z1]]⟩
abbrev J6:Go.Abs.Row:=⟨0,30,2,[[.zc,.zc]]⟩
abbrev Y2 (z0 z1 z2:Int)(z3:List Int)(z4:List Block):Go.Abs.Row:=⟨0,80,5,[[i64 z0,i64 z1,i64 z2,ls eI z3,ls Bg z4]]⟩
abbrev WU (z0:List Step)(z1:Int):Go.Abs.Row:=⟨0,48,2,[[ls Bk z0,i64 z1]]⟩
abbrev Ol (z0:Int):Go.Abs.Row:=⟨0,3,1,[[i64 z0]]⟩
abbrev jG:Go.Abs.Row:=⟨0,80,5,[[i64 0,i64 0,i64 0,.zc,.zc]]⟩
abbrev dh:Go.Abs.Row:=⟨0,104,3,[[i64 0,i64 0,.zc]]⟩
abbrev Tc (z0 z1 z2:Int)(z3:List Int)(z4:List Block):Go.Abs.Row:=⟨0,80,5,[[i64 z0,i64 z1,i64 z2,ls eI z3,ls Bg z4]]⟩
abbrev Ob (z0:List AR)(z1:List AP):Go.Abs.Row:=⟨0,30,2,[[ls Ak z0,ls Ah z1]]⟩
abbrev GF:Go.Abs.Row:=⟨0,30,2,[[.zc,.zc]]⟩
abbrev eZ (z0 z1:List Int)(z2:Int)(z3:List Step)(z4:Int):Go.Abs.Row:=⟨0,50,5,[[ls eI z0,ls eI z1,i64 z2,ls Bk z3,i64 z4]]⟩
abbrev Ll (z0:Bool):Go.Abs.Row:=⟨0,4,1,[[.bool z0]]⟩
abbrev WC (z0:List Step)(z1:Int):Go.Abs.Row:=⟨0,48,2,[[ls Bk z0,i64 z1]]⟩
abbrev lq:Go.Abs.Row:=⟨0,80,5,[[i64 0,i64 0,i64 0,.zc,.zc]]⟩
abbrev YT:Go.Abs.Row:=⟨0,48,2,[[.zc,i64 0]]⟩
abbrev fJ:Go.Abs.Row:=⟨0,104,3,[[i64 0,i64 0,.zc]]⟩
abbrev Zk (z0:List AR)(z1:List AP):Go.Abs.Row:=⟨0,25,2,[[ls Ak z0,ls Ah z1]]⟩
abbrev dk (z0:List AR)(z1:List AP):Go.Abs.Row:=⟨0,30,2,[[ls Ak z0,ls Ah z1]]⟩
abbrev Ej (z0:AL):=((.agg [ls Ak z0.decls,ls Ah z0.AB]):AV)
abbrev ln (z0:Step):=([i64 z0.op,i64 z0.num,i64 z0.A5,ls eI z0.args,ls Bg z0.kids]:List AV)
abbrev DS (z0:Block):=((.agg [ls Bk z0.steps,i64 z0.result]):AV)
abbrev BL:=((.ptr 0 0 0 0):AV)
abbrev Y1 (z0:AP):=([ls eI z0.params,ls eI z0.Ao,i64 z0.result,ls Bk z0.body.steps,i64 z0.body.result]:List AV)
abbrev GM (z0:_):=((ro 0 104 3 (Av 106 3) z0):Row)
abbrev JU (z0:_):=((ro 0 50 5 (Am 3 3 3 48 80) z0):Row)
abbrev Ei:=((.ptr 1 0 0 0):AV)
abbrev KJ (z0:Block):=((ro 0 80 5 (Bb 3 48 80) z0.steps):Row)
abbrev Bw (z0:_):=((ro 0 3 1 eI z0):Row)
abbrev O8 (z0:_):=([⟨0,74,1,[[ow 1 0 z0]]⟩,ro 0 75 1 (eS eI) z0]:List Row)
abbrev Xn {α0:Type}(z0:List α0){α1:Type}(z1:List α1):=(⟨0,30,2,[[ow 2 0 z0,ow 3 0 z1]]⟩:Row)
abbrev iq (z0:Block):=([ow 0 0 z0.steps,i64 z0.result]:List AV)
abbrev RX (z0:_):=(⟨0,50,5,List.map (Am 3 3 3 48 80) z0⟩:Row)
abbrev Df (z0:_):=((ls Ak z0):AV)
abbrev Pz (z0:_):=(⟨0,104,3,List.map (Av 106 3) z0⟩:Row)
abbrev TW (z0:AL):=((ro 0 50 5 (Am 3 3 3 48 80) z0.AB):Row)
abbrev Lk (z0:_):=((ro 0 48 2 (DE 3 48 80) z0):Row)
abbrev Fb {α0:Type}(z0:List α0):=((i64 (Sh.len z0)):AV)
abbrev N2 (z0 z1:_):=((.C7 [.agg (Ak z0),.bool z1]):AV)
abbrev V2 (z0:_):=(⟨0,65,2,[FE z0]⟩:Row)
abbrev SC {α0:Type}(z0:List α0):=(⟨0,74,1,[[ow 2 0 z0]]⟩:Row)
abbrev Zp (z0:Step):=([i64 z0.op,i64 z0.num,i64 z0.A5,ow 0 0 z0.args,ow 1 0 z0.kids]:List AV)
abbrev UF (z0:AL):=((ls Ah z0.AB):AV)
abbrev NM (z0:_):=((ro 0 80 5 (Bb 3 48 80) z0):Row)
abbrev WJ (z0:AL):=((i64 (Sh.len z0.AB)):AV)
abbrev Jh:=((.ptr 2 0 0 0):AV)
abbrev dQ (z0:_):=([⟨0,74,1,[[.own 1 0 (List.length z0)]]⟩,⟨0,75,1,List.map (eS eI) z0⟩]:List Row)
abbrev ZS:=((.sl (List.map Ak [])):AV)
abbrev ly (z0:AP):=((.agg [ls Bk z0.body.steps,i64 z0.body.result]):AV)
abbrev Ql (z0:_):=(⟨0,3,1,List.map eI z0⟩:Row)
abbrev Jo (z0:_):=((.Bz (ln z0) 0):AV)
abbrev Zv:=((.own 0 0 (List.length ([]:List Int))):AV)
abbrev MY (z0:_):=((i64 (Sh.w (z0+1))):AV)
abbrev iK (z0:AP):=([ow 0 0 z0.params,ow 1 0 z0.Ao,i64 z0.result,ow 2 0 z0.body.steps,i64 z0.body.result]:List AV)
abbrev SY:=((.ptr 3 0 0 0):AV)
abbrev Pd:=(⟨1,45,1,[]⟩:Row)
abbrev Jz (z0:_):=((ls (eS eI) z0):AV)
abbrev fZ (z0 z1:_):=([GM z0,JU z1,⟨0,30,2,[[ow 0 0 z0,ow 1 0 z1]]⟩]:List Row)
abbrev UC (z0:_):=(⟨0,104,3,[Ak z0]⟩:Row)
abbrev ZK (z0:AL):=([ow 0 0 z0.decls,ow 1 0 z0.AB]:List AV)
abbrev LV (z0:_):=((.Bz (eI z0) 0):AV)
abbrev UB (z0:_):=((.ptr 0 0 (Int.toNat z0) 0):AV)
abbrev iD (z0:Step):=([i64 z0.op,i64 z0.num,i64 0,ow 4 0 z0.args,ow 5 0 z0.kids]:List AV)
abbrev Zt (z0:Step):=((ro 0 48 2 (DE 3 48 80) z0.kids):Row)
abbrev Qe (z0:Step):=((ro 0 3 1 eI z0.args):Row)
abbrev kg:=([.own 0 0 (List.length ([]:List AR)),.own 1 0 (List.length ([]:List AP))]:List AV)
abbrev fE {α0:Type}(z0:List α0){α1:Type}(z1:List α1)(z2:_)(z3:Block):=([ow 4 0 z0,ow 5 0 z1,i64 z2,ow 6 0 z3.steps,i64 z3.result]:List AV)
abbrev ae {α0:Type}(z0:List α0){α1:Type}(z1:List α1):=(⟨0,30,2,[[ow 4 0 z0,ow 5 0 z1]]⟩:Row)
abbrev SI (z0:_):=((ro 0 45 1 (eS eI) z0):Row)
abbrev dd (z0:_):=(⟨0,80,5,List.map (Bb 3 48 80) z0⟩:Row)
abbrev UQ (z0:_):=((.agg (FE z0)):AV)
abbrev fj (z0:_)(z1:Step)(z2:_):=([V2 z0,Tc z1.op z1.num z1.A5 z1.args z1.kids,Bw z2]:List Row)
abbrev QN {α0:Type}(z0:List α0)(z1:_):=([ow 0 0 z0,i64 z1]:List AV)
abbrev aM {α0:Type}(z0:List α0)(z1:_):=(⟨0,48,2,[[ow 2 0 z0,i64 z1]]⟩:Row)
abbrev gk (z0:Step){α1:Type}(z1:List α1):=([i64 z0.op,i64 z0.num,i64 z0.A5,ow 1 0 z0.args,ow 0 0 z1]:List AV)
abbrev fb:=([ZS,.sl (List.map Du [])]:List AV)
abbrev Xj (z0:_):=((.ptr 2 0 (Int.toNat z0) 0):AV)
abbrev Vy (z0:Block):=((i64 (Sh.len z0.steps)):AV)
abbrev eP:=([ZS,.sl (List.map Ah [])]:List AV)
abbrev iw:=((ro 0 104 3 (Av 106 3) ([]:List AR)):Row)
abbrev iT:=((.own 3 0 (List.length ([]:List AP))):AV)
abbrev gj:=([i64 0,i64 0,.sl (List.map BR [])]:List AV)
abbrev gB (z0 z1 z2 z3 z4:_):=([GF,Xn z0 z1,GM z0,JU z1,Bw z2,Bw z3,KJ z4]:List Row)
abbrev kt (z0:AL):=([[.sl (List.map Ak z0.decls),.sl (List.map Ah z0.AB)]]:List (List AV))
abbrev fT:=(⟨0,48,2,[[.zc,i64 0]]⟩:Row)
abbrev YM (z0 z1:_):=([Df z0,ls Ah z1]:List AV)
abbrev Rn (z0:_):=((.agg (Ak z0)):AV)
abbrev iP {α0:Type}(z0:List α0){α1:Type}(z1:List α1)(z2:_)(z3:Block):=([ow 5 0 z0,ow 6 0 z1,i64 z2,ow 7 0 z3.steps,i64 z3.result]:List AV)
abbrev bc:=((.sl (List.map eI [])):AV)
abbrev Yv (z0:_):=((ro 0 106 1 (CT 3) z0):Row)
abbrev OC (z0:_):=((.agg (iq z0)):AV)
abbrev jt:=((ro 0 50 5 (Am 3 3 3 48 80) ([]:List AP)):Row)
abbrev WX {α0:Type}(z0:List α0){α1:Type}(z1:List α1):=([ow 0 0 z0,ow 1 0 z1]:List AV)
abbrev UT (z0:Block):=((ls Bk z0.steps):AV)
abbrev kb (z0:Step){α1:Type}(z1:List α1):=([i64 z0.op,i64 z0.num,i64 z0.A5,ow 0 0 z0.args,ow 1 0 z1]:List AV)
abbrev Od (z0:_):=((.agg (ln z0)):AV)
abbrev gK {α0:Type}(z0:List α0){α1:Type}(z1:List α1):=(⟨0,30,2,[[ow 1 0 z0,ow 3 0 z1]]⟩:Row)
abbrev WN (z0:_):=((.Bz (Ak z0) 0):AV)
abbrev ff:=(⟨0,40,2,[[.zc,.zc]]⟩:Row)
abbrev Q8 (z0 z1:_):=([DS z0,i64 z1]:List AV)
abbrev Zr (z0 z1:_):=((.C7 [i64 z0,.bool z1]):AV)
abbrev bG:=([⟨1,3,1,[]⟩]:List Row)
abbrev aY:=(⟨1,104,3,[]⟩:Row)
abbrev gn (z0:AR):=([i64 z0.from_,i64 z0.to,ow 0 0 z0.cons]:List AV)
abbrev hY (z0:Block):=((.agg [ow 6 0 z0.steps,i64 z0.result]):AV)
abbrev aF:=(⟨1,30,2,[]⟩:Row)
abbrev mK (z0:AL):=(⟨0,30,2,[[ow 2 0 z0.decls,ow 3 0 z0.AB]]⟩:Row)
abbrev jE (z0:AL):=([ow 4 0 z0.decls,ow 5 0 z0.AB]:List AV)
abbrev jL (z0:AP):=((ro 0 80 5 (Bb 3 48 80) z0.body.steps):Row)
abbrev Xw (z0 z1:_):=([ls Bk z0,i64 z1]:List AV)
abbrev Yn (z0:Step):=((i64 (Sh.len z0.kids)):AV)
abbrev ZN (z0:AR):=((i64 (Sh.len z0.cons)):AV)
abbrev eo (z0 z1:_):=([GF,Xn z0 z1,GM z0,JU z1]:List Row)
abbrev S8 (z0 z1:_):=([Df z0,i64 z1]:List AV)
abbrev iH (z0 z1 z2 z3 z4:_):=((.Bz [ls eI z0,ls eI z1,i64 z2,ls Bk z3,i64 z4] 0):AV)
abbrev eM {α0:Type}(z0:List α0):=((.own 2 0 (List.length z0)):AV)
abbrev jh:=((.own 2 0 (List.length ([]:List AR))):AV)
abbrev dX:=((.ptr 4 0 0 0):AV)
abbrev fQ (z0 z1:_){α2:Type}(z2:List α2):=(⟨0,75,1,hole z0 eG z1 [ow 7 0 z2]⟩:Row)
abbrev Xl (z0:_):=((ls Du z0):AV)
abbrev gu (z0:Block):=([ow 4 0 z0.steps,i64 z0.result]:List AV)
abbrev iZ (z0:_):=([KJ z0,⟨0,48,2,[iq z0]⟩]:List Row)
abbrev kL (z0:Step)(z1 z2:_):=([i64 z0.op,i64 z0.num,i64 z0.A5,ls eI z1,ls Bg z2]:List AV)
abbrev aI (z0:_):=((.agg (Y1 z0)):AV)
abbrev bT (z0:_):=((ro 0 104 3 Ak z0):Row)
abbrev ku (z0:Step){α1:Type}(z1:List α1){α2:Type}(z2:List α2):=([i64 z0.op,i64 z0.num,i64 z0.A5,ow 0 0 z1,ow 1 0 z2]:List AV)
abbrev kj (z0:Step){α1:Type}(z1:List α1){α2:Type}(z2:List α2):=([i64 z0.op,i64 z0.num,i64 z0.A5,ow 1 0 z1,ow 0 0 z2]:List AV)
abbrev hZ (z0:_):=(⟨0,75,1,List.map (eS eI) z0⟩:Row)
abbrev YH (z0:_):=((ro 0 3 1 eI [z0]):Row)
set_option maxHeartbeats 4000000
abbrev Ay (f:FuncId)(a:List AV)(r:List Go.Abs.Row)(v:AV)(s:List Go.Abs.Row):Prop:=BJ Tryz.prog f a r λx y=>x=v/\y=s
def tb:KV Tryz.prog where
 t:=[(102,false,1),(104,true,3),(106,true,1),(108,false,1),(110,true,3),(112,false,1),(114,true,2),(116,true,5),(122,true,3),(215,true,1),(22,false,1),(23,false,1),(246,false,1),(248,true,5),(25,true,2),(27,false,1),(28,false,1),(3,false,1),(30,true,2),(38,false,1),(4,false,1),(40,true,2),(45,false,1),(46,false,1),(48,true,2),(50,true,5),(55,true,5),(63,false,1),(65,true,2),(74,false,1),(75,false,1),(78,false,1),(80,true,5)]
 f:=[(104,0,0),(104,1,1),(104,2,2),(106,0,0),(110,0,0),(110,1,1),(110,2,2),(114,0,0),(114,1,1),(116,0,0),(116,1,1),(116,2,2),(116,3,3),(122,0,0),(122,1,1),(122,2,2),(215,0,0),(248,0,0),(248,1,1),(248,2,2),(248,3,3),(248,4,4),(25,0,0),(25,1,1),(30,0,0),(30,1,1),(40,0,0),(40,1,1),(48,0,0),(48,1,1),(50,0,0),(50,1,1),(50,2,2),(50,3,3),(55,0,0),(55,1,1),(65,0,0),(65,1,1),(80,0,0),(80,1,1),(80,2,2),(80,3,3),(80,4,4)]
 v:=[]
 b:=[4]
 s:=[102,108,112,134,22,23,246,27,28,38,45,46,63,75,78]
 ht:=by kernel_rfl
 hf:=by kernel_rfl
 hv:=by kernel_rfl
 hb:=by kernel_rfl
 hs:=by kernel_rfl
section
variable {k n : Nat} {ops : Array Oper} {Q : Exit -> St -> Prop} {st : List Row} {e e' : Nat -> AV} {ds yO : List (Option Tmp)} {t : Tmp} {op : Op} {ty : TypeId} {ps : String} {ed : Array Edge} {v : AV} {r l l' : List Oper} {jj id : Nat} {b want : Bool} {x : Operand} {t' : TypeId} {α : Type} {enc : α -> List AV} {xs : List α} {y : Code}
theorem mP (h:qL tb ⟨n,e,st⟩ op=some v)(hk:AO Tryz.prog k ops Q (ds++[some t]) r ⟨n,Ew e t v,st⟩):AO Tryz.prog k ops Q ds (⟨some t,op,ty,ps,ed,none⟩::r) ⟨n,e,st⟩:=zq tb h hk
theorem mN (hb:b=want)(h:gL tb ds jj ⟨n,e,st⟩ op=some (b,v))(hk:AO Tryz.prog k ops Q (ds++[some t]) r ⟨n,Ew e t v,st⟩):AO Tryz.prog k ops Q ds (⟨some t,op,ty,ps,ed,some (jj,want)⟩::r) ⟨n,e,st⟩:=zg tb hb h hk
theorem mQ (m:Nat)(h:Go.Abs.runN tb n st m l ds e=some (l',yO,e'))(hk:AO Tryz.prog k ops Q yO l' ⟨n,e',st⟩):AO Tryz.prog k ops Q ds l ⟨n,e,st⟩:=zm tb m h hk
theorem mO (h:(Go.Abs.W6 tb n st ops.toList e,ops.toList.all λo=>Ce n o.dst)=(some e',true))(hk:AW Tryz.prog k y Q ⟨n,e',st⟩):AW Tryz.prog k (.seq (.region id ops false) y) Q ⟨n,e,st⟩:=zr tb (nO Prod.fst h) (nO Prod.snd h) hk
theorem mM (h:(has tb.s t',St.ev ⟨n,e,st⟩ x)=(true,.sl (xs.map enc)))(hk:AO Tryz.prog k ops Q (ds++[some t]) r ⟨n,Ew e t (i64 (Sh.len xs)),st⟩):AO Tryz.prog k ops Q ds (⟨some t,.call ⟨.builtin .len,#[x],#[t']⟩,ty,ps,ed,none⟩::r) ⟨n,e,st⟩:=zl tb (nO Prod.fst h) (nO Prod.snd h) hk
end
abbrev XY (z0 z1 z2:Int)(z3:List Int)(z4:List Block):Go.Abs.Row:=⟨0,80,5,[[i64 z0,i64 z1,i64 z2,ls eI z3,ls Bg z4]]⟩
abbrev Qk (z0:List AR)(z1:List AP):Go.Abs.Row:=⟨0,30,2,[[ls Ak z0,ls Ah z1]]⟩
abbrev Ra (z0:List Step)(z1:Int):Go.Abs.Row:=⟨0,48,2,[[ls Bk z0,i64 z1]]⟩
abbrev mF (z0 z1:List Int)(z2:Int)(z3:List Step)(z4:Int):Go.Abs.Row:=⟨0,50,5,[[ls eI z0,ls eI z1,i64 z2,ls Bk z3,i64 z4]]⟩
abbrev iW (z0:List AR)(z1:List HZ):Go.Abs.Row:=⟨0,40,2,[[ls Ak z0,ls Hd z1]]⟩
abbrev kY:Go.Abs.Row:=⟨0,104,3,[[i64 0,i64 0,.zc]]⟩
abbrev RR (z0:AL)(z1:_)(r:List (Nat×AV)):=(1,.fn 49 [])::(4,BL)::(5,Ei)::(13,UF z0)::(14,WJ z0)::(15,i64 z1)::r
abbrev Q9 (z0:AL)(z1:Step)(r:List (Go.Abs.Row)):=(Qk z0.decls z0.AB)::(XY z1.op z1.num z1.A5 z1.args z1.kids)::r
abbrev LS (z0:_)(r:List (Nat×AV)):=(1,ls eI z0)::(3,BL)::(5,Ei)::r
abbrev Ya {α0:Type}(z0:List α0)(z1:AP)(r:List (Go.Abs.Row)):=(SC z0)::(eZ z1.params z1.Ao z1.result z1.body.steps z1.body.result)::r
abbrev PY (z0:AL)(r:List (Go.Abs.Row)):=(IU z0.decls z0.AB)::J6::r
abbrev ax (z0:_)(z1:AP)(r:List (Nat×AV)):=(28,i64 z0)::(29,.fn 49 [])::(30,aI z1)::(32,ly z1)::r
abbrev Qs (z0:AL)(r:List (Go.Abs.Row)):=(Ob z0.decls z0.AB)::GF::r
abbrev NO (z0 z1:_)(r:List (Nat×AV)):=(2,i64 z0)::(3,ls eI z1)::r
abbrev Zu (z0:AL)(z1:_)(r:List (Nat×AV)):=(2,Ei)::(3,Jh)::(7,Ej z0)::(9,Jz z1)::r
abbrev jv (z0:AL)(z1:List AR)(z2:List AP)(z3:_)(z4:AL)(z5 z6:_)(r:List (Go.Abs.Row)):=(Zk z0.decls z0.AB)::(dk z1 z2)::(GM z3)::(TW z4)::(mK z4)::(GM z5)::(JU z6)::⟨0,30,2,[[ow 5 0 z5,ow 6 0 z6]]⟩::r
abbrev Wg (r:List (Nat×AV)):=(1,BL)::(2,Ei)::(4,SY)::r
abbrev eL (z0:Step)(r:List (Go.Abs.Row)):=(Tc z0.op z0.num z0.A5 z0.args z0.kids)::lq::r
abbrev kN (z0:AL){α1:Type}(z1:List α1)(r:List (Go.Abs.Row)):=(IU z0.decls z0.AB)::⟨0,65,2,[[.zc,.zc]]⟩::⟨0,65,2,[[Df z0.decls,ow 3 0 z1]]⟩::r
abbrev gO (z0:_)(z1:Step)(r:List (Go.Abs.Row)):=(V2 z0)::(Tc z1.op z1.num z1.A5 z1.args z1.kids)::r
abbrev kG (z0 z1:_)(r:List (Nat×AV)):=(0,Df z0)::(3,i64 z1)::(4,BL)::(12,Df z0)::(13,Fb z0)::(14,i64 z1)::r
abbrev kK (z0 z1:_)(r:List (Nat×AV)):=(1,BL)::(4,Ei)::(5,.bool z0)::(6,dX)::(7,.ptr 7 0 0 0)::(8,.bool z1)::r
abbrev gN (r:List (Nat×AV)):=(8,i64 (-1))::(9,.bool false)::r
abbrev gU (r:List (Nat×AV)):=(6,i64 (-1))::(7,.bool false)::r
abbrev aS (z0 z1:_)(r:List (Go.Abs.Row)):=GF::(Xn z0 z1)::(GM z0)::(JU z1)::r
abbrev jo (z0 z1:_)(r:List (Go.Abs.Row)):=(GM z0)::(JU z1)::⟨0,30,2,[[ow 1 0 z0,ow 2 0 z1]]⟩::r
theorem mA:G4 Tryz.prog 40=true:=by kernel_rfl
theorem lP:G4 Tryz.prog 55=true:=by kernel_rfl
theorem lg:Ij Tryz.prog 40=some [(0,1),(1,1)]:=by kernel_rfl
theorem lR:Ij Tryz.prog 55=some [(0,1),(1,1),(2,3)]:=by kernel_rfl
theorem HC:CH Tryz.prog 102=some ⟨106,1,24,[.sl []]⟩:=by kernel_rfl
theorem gJ:CH Tryz.prog 108=some ⟨215,1,24,[.sl []]⟩:=by kernel_rfl
theorem fg:CH Tryz.prog 112=some ⟨248,5,72,[.int .i64 0,.int .i64 0,.int .i64 0,.sl [],.sl []]⟩:=by kernel_rfl
theorem jZ:CH Tryz.prog 22=some ⟨110,3,40,[.int .i64 0,.int .i64 0,.sl []]⟩:=by kernel_rfl
theorem jR:CH Tryz.prog 23=some ⟨116,5,88,[.sl [],.sl [],.int .i64 0,.sl [],.int .i64 0]⟩:=by kernel_rfl
theorem eQ:CH Tryz.prog 246=some ⟨114,2,32,[.sl [],.int .i64 0]⟩:=by kernel_rfl
theorem DZ:CH Tryz.prog 27=some ⟨104,3,40,[.int .i64 0,.int .i64 0,.sl []]⟩:=by kernel_rfl
theorem Ez:CH Tryz.prog 28=some ⟨50,5,88,[.sl [],.sl [],.int .i64 0,.sl [],.int .i64 0]⟩:=by kernel_rfl
theorem XT:CH Tryz.prog 38=some ⟨55,5,72,[.sl [],.int .i64 0,.int .i64 0,.int .i64 0,.sl []]⟩:=by kernel_rfl
theorem BH:CH Tryz.prog 45=some ⟨3,1,8,[.int .i64 0]⟩:=by kernel_rfl
theorem FM:CH Tryz.prog 46=some ⟨80,5,72,[.int .i64 0,.int .i64 0,.int .i64 0,.sl [],.sl []]⟩:=by kernel_rfl
theorem Hs:CH Tryz.prog 78=some ⟨48,2,32,[.sl [],.int .i64 0]⟩:=by kernel_rfl
theorem Mu:B1 Tryz.prog 102=true:=by kernel_rfl
theorem Sd:B1 Tryz.prog 27=true:=by kernel_rfl
theorem lH:B1 Tryz.prog 38=true:=by kernel_rfl
theorem Hh:B1 Tryz.prog 45=true:=by kernel_rfl
theorem VQ:B1 Tryz.prog 78=true:=by kernel_rfl
theorem Mv:CF Tryz.prog 102=some (false,1):=by kernel_rfl
theorem G0:CF Tryz.prog 104=some (true,3):=by kernel_rfl
theorem Ka:CF Tryz.prog 106=some (true,1):=by kernel_rfl
theorem lN:CF Tryz.prog 27=some (false,1):=by kernel_rfl
theorem eY:CF Tryz.prog 28=some (false,1):=by kernel_rfl
theorem Jy:CF Tryz.prog 3=some (false,1):=by kernel_rfl
theorem FG:CF Tryz.prog 30=some (true,2):=by kernel_rfl
theorem lp:CF Tryz.prog 38=some (false,1):=by kernel_rfl
theorem gX:CF Tryz.prog 40=some (true,2):=by kernel_rfl
theorem KL:CF Tryz.prog 45=some (false,1):=by kernel_rfl
theorem Z0:CF Tryz.prog 46=some (false,1):=by kernel_rfl
theorem Jj:CF Tryz.prog 48=some (true,2):=by kernel_rfl
theorem Mo:CF Tryz.prog 50=some (true,5):=by kernel_rfl
theorem lk:CF Tryz.prog 55=some (true,5):=by kernel_rfl
theorem fL:CF Tryz.prog 78=some (false,1):=by kernel_rfl
theorem LQ:CF Tryz.prog 80=some (true,5):=by kernel_rfl
theorem Fy:Gz Tryz.prog 104=some [.int .i64 0,.int .i64 0,.zc]:=by kernel_rfl
theorem Mw:Gz Tryz.prog 106=some [.zc]:=by kernel_rfl
theorem Gh:Gz Tryz.prog 30=some [.zc,.zc]:=by kernel_rfl
theorem fR:Gz Tryz.prog 40=some [.zc,.zc]:=by kernel_rfl
theorem MK:Gz Tryz.prog 48=some [.zc,.int .i64 0]:=by kernel_rfl
theorem MJ:Gz Tryz.prog 50=some [.zc,.zc,.int .i64 0,.zc,.int .i64 0]:=by kernel_rfl
theorem jO:Gz Tryz.prog 55=some [.zc,.int .i64 0,.int .i64 0,.int .i64 0,.zc]:=by kernel_rfl
theorem Nk:Gz Tryz.prog 80=some [.int .i64 0,.int .i64 0,.int .i64 0,.zc,.zc]:=by kernel_rfl
theorem JO {p0:(List Int)}{p1 r:Int}(h0:Gn p0 p1=some r):Ay 124 [ls eI p0,i64 p1] [] (i64 r) []:=by
 unfold Gn at h0;refine ai Tryz.func124 AA AA AA AA (zr tb AA AA (sr AA λc a=>zm tb 2 AA (zl tb AA AA (zm tb 2 AA (dn a AA (AD λd b=>zr tb AA AA ?_))))));refine ci h0 AA ?_ ?_<;>intro e h0
 ·refine zr tb AA AA ?_;cases h0;exact rt [(4,i64 (-1))]
 ·refine AH (b _ (zr tb AA AA ?_));cases h0;exact rt [(4,i64 (Sh.w (p1-(Sh.len p0))))]
theorem Vd {p0:BN}{p1 r:Int}(h0:LJ p0 p1=some r):Ay 190 [.agg (BR p0),i64 p1] [] (i64 r) []:=by
 unfold LJ at h0;refine ai Tryz.func190 AA AA AA AA (sr AA λf a=>Az (m:=0) AN AA AA AA AA AA (zq tb AA (dn a AA (sr AA λg b=>zm tb 3 AA (bs h0 λe c h0=>zc (hb 124) (JO c) rfl AA AA (zq tb AA (dn b AA (AD λh d=>zr tb AA AA ?_))))))));refine ci h0 AA ?_ ?_<;>intro i h0
 ·refine zr tb AA AA ?_;obtain rfl:=Sh.AF h0;exact rd [(4,i64 (-1))]
 ·refine AH (d _ (zr tb AA AA ?_));obtain rfl:=Sh.AF h0;exact rd [(4,i64 e)]
theorem T9 {N:Nat}{p0:(List BN)}{p1 r:Int}(h0:J0 N p0 p1=some r):Ay 123 [ls BR p0,i64 p1] [] (i64 r) []:=by
 unfold J0 at h0;refine ai Tryz.func123 AA AA AA AA (zr tb AA AA (sr AA λF l=>zm tb 2 AA (zl tb AA AA (zm tb 2 AA (dn l AA (AD λG m=>zr tb AA AA ?_))))));refine ci h0 AA ?_ ?_<;>intro H h0
 ·refine zr tb AA AA ?_;cases h0;exact rt [(4,i64 (-1))]
 ·refine AH (m _ (AD λu o=>zr tb AA AA ?_));obtain⟨d,b,h0⟩:=Sh.Ar h0;have p:∀(a:Int),d=Sum.inr a->∀s,Wk 0 s ⟨27,AM [(1,i64 a)],[]⟩->u s:=by
   intro a I s x;subst d;try dsimp only at h0
   refine o _ (AJ x (zr tb AA AA ?_));obtain rfl:=Sh.AF h0;exact rt [(4,i64 a)]
  refine AK (AT (σ:=Int×Int) (λn v=>FO p0 n v.1 v.2=some d) (λ(c,e)=>⟨27,AM [(0,ls BR p0),(1,i64 c),(5,i64 e)],[]⟩) N (Sh.w (p1-(Sh.len p0)),0) b (AI AA) (λ_ t=>by rw[FO]at t;cases t) ?_);rintro n ⟨c,e⟩ b;rw[FO]at b;refine AD λy f=>sr AA λz g=>zm tb 2 AA (zl tb AA AA (zq tb AA (dn g AA ?_)));refine ci b AA ?_ ?_<;>intro A b
  ·refine AH (f _ (AD λB h=>AK (sr AA λC i=>zm tb 2 AA (bs b λD j b=>zx gJ j AA AA AA (zm tb 2 AA (bs b λq k b=>zc (hb 190) (Vd k) rfl AA AA (zq tb AA (dn i AA (zr tb AA AA ?_)))))))));refine ci b AA ?_ ?_<;>intro E b
   ·refine zr tb AA AA ?_;cases b;cases h0;exact rt [(4,i64 (-1))]
   ·exact AH (h _ (AG AA (zm tb 3 AA (AE (xi (q,Sh.w (e+1)) b (AI AA))))))
  ·exact Ad (p c (Sh.AF b).symm _ (AI AA))
theorem T7 {N:Nat}{p0:AR}{p1 r:Int}(h0:Jv N p0 p1=some r):Ay 66 [Rn p0,i64 p1] [] (i64 r) []:=by
 unfold Jv at h0;refine ai Tryz.func66 AA AA AA AA (sr AA λf a=>Az (m:=0) AN AA AA AA AA AA (zq tb AA (dn a AA (sr AA λg b=>zm tb 3 AA (bs h0 λe c h0=>zc (hb 123) (T9 c) rfl AA AA (zq tb AA (dn b AA (AD λh d=>zr tb AA AA ?_))))))));refine ci h0 AA ?_ ?_<;>intro i h0
 ·refine zr tb AA AA ?_;obtain rfl:=Sh.AF h0;exact rd [(4,i64 (-1))]
 ·refine AH (d _ (zr tb AA AA ?_));obtain rfl:=Sh.AF h0;exact rd [(4,i64 e)]
theorem Sw {N:Nat}{p0:(List AR)}{p1 r:Int}(h0:JE N p0 p1=some r):Ay 25 (S8 p0 p1) [] (i64 r) []:=by
 unfold JE at h0;refine ai Tryz.func25 AA AA AA AA (zr tb AA AA (sr AA λF l=>zm tb 2 AA (zl tb AA AA (zm tb 2 AA (dn l AA (AD λG m=>zr tb AA AA ?_))))));refine ci h0 AA ?_ ?_<;>intro H h0
 ·refine zr tb AA AA ?_;cases h0;exact rt [(4,i64 (-1))]
 ·refine AH (m _ (AD λu o=>zr tb AA AA ?_));obtain⟨d,b,h0⟩:=Sh.Ar h0;have p:∀(a:Int),d=Sum.inr a->∀s,Wk 0 s ⟨27,AM [(1,i64 a)],[]⟩->u s:=by
   intro a I s x;subst d;try dsimp only at h0
   refine o _ (AJ x (zr tb AA AA ?_));obtain rfl:=Sh.AF h0;exact rt [(4,i64 a)]
  refine AK (AT (σ:=Int×Int) (λn v=>E8 N p0 n v.1 v.2=some d) (λ(c,e)=>⟨27,AM [(0,ls Ak p0),(1,i64 c),(5,i64 e)],[]⟩) N (Sh.w (p1-(Sh.len p0)),0) b (AI AA) (λ_ t=>by rw[E8]at t;cases t) ?_);rintro n ⟨c,e⟩ b;rw[E8]at b;refine AD λy f=>sr AA λz g=>zm tb 2 AA (zl tb AA AA (zq tb AA (dn g AA ?_)));refine ci b AA ?_ ?_<;>intro A b
  ·refine AH (f _ (AD λB h=>AK (sr AA λC i=>zm tb 2 AA (bs b λD j b=>zx jZ j AA AA AA (zm tb 2 AA (bs b λq k b=>zc (hb 66) (T7 k) rfl AA AA (zq tb AA (dn i AA (zr tb AA AA ?_)))))))));refine ci b AA ?_ ?_<;>intro E b
   ·refine zr tb AA AA ?_;cases b;cases h0;exact rt [(4,i64 (-1))]
   ·exact AH (h _ (AG AA (zm tb 3 AA (AE (xi (q,Sh.w (e+1)) b (AI AA))))))
  ·exact Ad (p c (Sh.AF b).symm _ (AI AA))
theorem Rp {N:Nat}{rH:Block->Int->Option (Int)}(ri :∀{p0:Block} {p1:Int} {r:Int},rH p0 p1=some r->Ay 125 (Q8 p0 p1) [] (i64 r) []){p0:(List Block)}{p1 r:Int}(h0:IK N rH p0 p1=some r):Ay 272 [ls Bg p0,i64 p1] [] (i64 r) []:=by
 unfold IK at h0;refine ai Tryz.func272 AA AA AA AA (zr tb AA AA (sr AA λF l=>zm tb 2 AA (zl tb AA AA (zm tb 2 AA (dn l AA (AD λG m=>zr tb AA AA ?_))))));refine ci h0 AA ?_ ?_<;>intro H h0
 ·refine zr tb AA AA ?_;cases h0;exact rt [(4,i64 (-1))]
 ·refine AH (m _ (AD λu o=>zr tb AA AA ?_));obtain⟨d,b,h0⟩:=Sh.Ar h0;have p:∀(a:Int),d=Sum.inr a->∀s,Wk 0 s ⟨27,AM [(1,i64 a)],[]⟩->u s:=by
   intro a I s x;subst d;try dsimp only at h0
   refine o _ (AJ x (zr tb AA AA ?_));obtain rfl:=Sh.AF h0;exact rt [(4,i64 a)]
  refine AK (AT (σ:=Int×Int) (λn v=>D1 p0 rH n v.1 v.2=some d) (λ(c,e)=>⟨27,AM [(0,ls Bg p0),(1,i64 c),(5,i64 e)],[]⟩) N (Sh.w (p1-(Sh.len p0)),0) b (AI AA) (λ_ t=>by rw[D1]at t;cases t) ?_);rintro n ⟨c,e⟩ b;rw[D1]at b;refine AD λy f=>sr AA λz g=>zm tb 2 AA (zl tb AA AA (zq tb AA (dn g AA ?_)));refine ci b AA ?_ ?_<;>intro A b
  ·refine AH (f _ (AD λB h=>AK (sr AA λC i=>zm tb 2 AA (bs b λD j b=>zx eQ j AA AA AA (zm tb 2 AA (bs b λq k b=>zc (hb 125) (ri k) rfl AA AA (zq tb AA (dn i AA (zr tb AA AA ?_)))))))));refine ci b AA ?_ ?_<;>intro E b
   ·refine zr tb AA AA ?_;cases b;cases h0;exact rt [(4,i64 (-1))]
   ·exact AH (h _ (AG AA (zm tb 3 AA (AE (xi (q,Sh.w (e+1)) b (AI AA))))))
  ·exact Ad (p c (Sh.AF b).symm _ (AI AA))
theorem T6 {N:Nat}{rH:Block->Int->Option (Int)}(ri :∀{p0:Block} {p1:Int} {r:Int},rH p0 p1=some r->Ay 125 (Q8 p0 p1) [] (i64 r) []){p0:Step}{p1 r:Int}(h0:Jp N rH p0 p1=some r):Ay 241 [Od p0,i64 p1] [] (i64 r) []:=by
 unfold Jp at h0;refine ai Tryz.func241 AA AA AA AA (sr AA λk b=>Az (m:=0) AN AA AA AA AA AA (zq tb AA (dn b AA (sr AA λl c=>zm tb 3 AA (bs h0 λn d h0=>zc (hb 124) (JO d) rfl AA AA (zq tb AA (dn c AA (AD λo e=>zr tb AA AA ?_))))))));refine ci h0 AA ?_ ?_<;>intro p h0
 ·refine zr tb AA AA ?_;cases h0;exact rd [(4,i64 (-1))]
 ·refine AH (e _ (sr AA λq f=>zm tb 3 AA (bs h0 λh g h0=>zc (hb 272) (Rp ri g) rfl AA AA (zq tb AA (dn f AA (AD λi a=>zr tb AA AA ?_))))));refine ci h0 AA ?_ ?_<;>intro j h0
  ·refine zr tb AA AA ?_;obtain rfl:=Sh.AF h0;exact rd [(4,i64 (-1))]
  ·refine AH (a _ (zr tb AA AA ?_));obtain rfl:=Sh.AF h0;exact rd [(4,i64 h)]
theorem Sv {N:Nat}{rH:Block->Int->Option (Int)}(ri :∀{p0:Block} {p1:Int} {r:Int},rH p0 p1=some r->Ay 125 (Q8 p0 p1) [] (i64 r) []){p0:(List Step)}{p1 r:Int}(h0:Ko N rH p0 p1=some r):Ay 191 (Xw p0 p1) [] (i64 r) []:=by
 unfold Ko at h0;refine ai Tryz.func191 AA AA AA AA (zr tb AA AA (sr AA λF l=>zm tb 2 AA (zl tb AA AA (zm tb 2 AA (dn l AA (AD λG m=>zr tb AA AA ?_))))));refine ci h0 AA ?_ ?_<;>intro H h0
 ·refine zr tb AA AA ?_;cases h0;exact rt [(4,i64 (-1))]
 ·refine AH (m _ (AD λx o=>zr tb AA AA ?_));obtain⟨d,b,h0⟩:=Sh.Ar h0;have p:∀(a:Int),d=Sum.inr a->∀s,Wk 0 s ⟨27,AM [(1,i64 a)],[]⟩->x s:=by
   intro a I s y;subst d;try dsimp only at h0
   refine o _ (AJ y (zr tb AA AA ?_));obtain rfl:=Sh.AF h0;exact rt [(4,i64 a)]
  refine AK (AT (σ:=Int×Int) (λn v=>EM N p0 rH n v.1 v.2=some d) (λ(c,e)=>⟨27,AM [(0,ls Bk p0),(1,i64 c),(5,i64 e)],[]⟩) N (Sh.w (p1-(Sh.len p0)),0) b (AI AA) (λ_ u=>by rw[EM]at u;cases u) ?_);rintro n ⟨c,e⟩ b;rw[EM]at b;refine AD λz f=>sr AA λA g=>zm tb 2 AA (zl tb AA AA (zq tb AA (dn g AA ?_)));refine ci b AA ?_ ?_<;>intro B b
  ·refine AH (f _ (AD λC h=>AK (sr AA λD i=>zm tb 2 AA (bs b λq j b=>zz (Jo q) (Cp fg AA AA j (Be _) rfl) rfl (zm tb 2 AA (bs b λt k b=>zc (hb 241) (T6 ri k) rfl AA AA (zq tb AA (dn i AA (zr tb AA AA ?_)))))))));refine ci b AA ?_ ?_<;>intro E b
   ·refine zr tb AA AA ?_;cases b;cases h0;exact rt [(4,i64 (-1))]
   ·exact AH (h _ (AG AA (zm tb 3 AA (AE (xi (t,Sh.w (e+1)) b (AI AA))))))
  ·exact Ad (p c (Sh.AF b).symm _ (AI AA))
theorem RN {N:Nat}{rH:Block->Int->Option (Int)}(ri :∀{p0:Block} {p1:Int} {r:Int},rH p0 p1=some r->Ay 125 (Q8 p0 p1) [] (i64 r) []){p0:Block}{p1 r:Int}(h0:JP N rH p0 p1=some r):Ay 125 (Q8 p0 p1) [] (i64 r) []:=by
 unfold JP at h0;refine ai Tryz.func125 AA AA AA AA (sr AA λf a=>Az (m:=0) AN AA AA AA AA AA (zq tb AA (dn a AA (sr AA λg b=>zm tb 3 AA (bs h0 λe c h0=>zc (hb 191) (Sv ri c) rfl AA AA (zq tb AA (dn b AA (AD λh d=>zr tb AA AA ?_))))))));refine ci h0 AA ?_ ?_<;>intro i h0
 ·refine zr tb AA AA ?_;obtain rfl:=Sh.AF h0;exact rd [(4,i64 (-1))]
 ·refine AH (d _ (zr tb AA AA ?_));obtain rfl:=Sh.AF h0;exact rd [(4,i64 e)]
theorem Rc {N:Nat}:∀(n:Nat),∀{p0:Block} {p1:Int} {r:Int},F6 N n p0 p1=some r->Ay 125 (Q8 p0 p1) [] (i64 r) []:=by
 intro n
 induction n with
 | zero=>intro p0 p1 r a;cases a
 | succ n ih=>
  intro p0 p1 r a;rw[F6]at a;exact RN (λh=>ih h) a
theorem Tk {N:Nat}:∀{p0:Block} {p1:Int} {r:Int},Km N p0 p1=some r->Ay 125 (Q8 p0 p1) [] (i64 r) []:=by
 intro p0 p1 r a;exact Rc N a
theorem RI {N:Nat}{p0:AP}{p1 r:Int}(h0:He N p0 p1=some r):Ay 67 [aI p0,i64 p1] [] (i64 r) []:=by
 unfold He at h0;refine ai Tryz.func67 AA AA AA AA (sr AA λs e=>Az (m:=0) AN AA AA AA AA AA (zq tb AA (dn e AA (sr AA λt f=>zm tb 3 AA (bs h0 λu g h0=>zc (hb 124) (JO g) rfl AA AA (zq tb AA (dn f AA (AD λw h=>zr tb AA AA ?_))))))));refine ci h0 AA ?_ ?_<;>intro x h0
 ·refine zr tb AA AA ?_;cases h0;exact rd [(4,i64 (-1))]
 ·refine AH (h _ (sr AA λy i=>zm tb 3 AA (bs h0 λz j h0=>zc (hb 124) (JO j) rfl AA AA (zq tb AA (dn i AA (AD λl a=>zr tb AA AA ?_))))));refine ci h0 AA ?_ ?_<;>intro n h0
  ·refine zr tb AA AA ?_;cases h0;exact rd [(4,i64 (-1))]
  ·refine AH (a _ (sr AA λo b=>zm tb 3 AA (bs h0 λk c h0=>zc (hb 125) (Tk c) rfl AA AA (zq tb AA (dn b AA (AD λp d=>zr tb AA AA ?_))))));refine ci h0 AA ?_ ?_<;>intro q h0
   ·refine zr tb AA AA ?_;obtain rfl:=Sh.AF h0;exact rd [(4,i64 (-1))]
   ·refine AH (d _ (zr tb AA AA ?_));obtain rfl:=Sh.AF h0;exact rd [(4,i64 k)]
theorem Qq {N:Nat}{p0:(List AP)}{p1 r:Int}(h0:HG N p0 p1=some r):Ay 26 [ls Ah p0,i64 p1] [] (i64 r) []:=by
 unfold HG at h0;refine ai Tryz.func26 AA AA AA AA (zr tb AA AA (sr AA λF l=>zm tb 2 AA (zl tb AA AA (zm tb 2 AA (dn l AA (AD λG m=>zr tb AA AA ?_))))));refine ci h0 AA ?_ ?_<;>intro H h0
 ·refine zr tb AA AA ?_;cases h0;exact rt [(4,i64 (-1))]
 ·refine AH (m _ (AD λu o=>zr tb AA AA ?_));obtain⟨d,b,h0⟩:=Sh.Ar h0;have p:∀(a:Int),d=Sum.inr a->∀s,Wk 0 s ⟨27,AM [(1,i64 a)],[]⟩->u s:=by
   intro a I s x;subst d;try dsimp only at h0
   refine o _ (AJ x (zr tb AA AA ?_));obtain rfl:=Sh.AF h0;exact rt [(4,i64 a)]
  refine AK (AT (σ:=Int×Int) (λn v=>Dp N p0 n v.1 v.2=some d) (λ(c,e)=>⟨27,AM [(0,ls Ah p0),(1,i64 c),(5,i64 e)],[]⟩) N (Sh.w (p1-(Sh.len p0)),0) b (AI AA) (λ_ t=>by rw[Dp]at t;cases t) ?_);rintro n ⟨c,e⟩ b;rw[Dp]at b;refine AD λy f=>sr AA λz g=>zm tb 2 AA (zl tb AA AA (zq tb AA (dn g AA ?_)));refine ci b AA ?_ ?_<;>intro A b
  ·refine AH (f _ (AD λB h=>AK (sr AA λC i=>zm tb 2 AA (bs b λD j b=>zx jR j AA AA AA (zm tb 2 AA (bs b λq k b=>zc (hb 67) (RI k) rfl AA AA (zq tb AA (dn i AA (zr tb AA AA ?_)))))))));refine ci b AA ?_ ?_<;>intro E b
   ·refine zr tb AA AA ?_;cases b;cases h0;exact rt [(4,i64 (-1))]
   ·exact AH (h _ (AG AA (zm tb 3 AA (AE (xi (q,Sh.w (e+1)) b (AI AA))))))
  ·exact Ad (p c (Sh.AF b).symm _ (AI AA))
theorem R9 {N:Nat}{p0:AL}{p1 r:Int}(h0:IM N p0 p1=some r):Ay 7 [Ej p0,i64 p1] [] (i64 r) []:=by
 unfold IM at h0;refine ai Tryz.func7 AA AA AA AA (sr AA λk b=>Az (m:=0) AN AA AA AA AA AA (zq tb AA (dn b AA (sr AA λl c=>zm tb 3 AA (bs h0 λn d h0=>zc (hb 25) (Sw d) rfl AA AA (zq tb AA (dn c AA (AD λo e=>zr tb AA AA ?_))))))));refine ci h0 AA ?_ ?_<;>intro p h0
 ·refine zr tb AA AA ?_;cases h0;exact rd [(4,i64 (-1))]
 ·refine AH (e _ (sr AA λq f=>zm tb 3 AA (bs h0 λh g h0=>zc (hb 26) (Qq g) rfl AA AA (zq tb AA (dn f AA (AD λi a=>zr tb AA AA ?_))))));refine ci h0 AA ?_ ?_<;>intro j h0
  ·refine zr tb AA AA ?_;obtain rfl:=Sh.AF h0;exact rd [(4,i64 (-1))]
  ·refine AH (a _ (zr tb AA AA ?_));obtain rfl:=Sh.AF h0;exact rd [(4,i64 h)]
theorem JK {N:Nat}{p0:(List Int)}{r:(List Int)}(h0:Gq N p0=some r):Ay 135 [ls eI p0] [] (ow 0 0 r) [Bw r]:=by
 unfold Gq at h0;refine ai Tryz.func135 AA AA AA AA (zr tb AA AA (sr AA λF k=>zq tb AA (zl tb AA AA (bs h0 λt l h0=>Zi (m:=0) (enc:=eI) (u:=0) AN BH AA AA AA l AA AA (zq tb AA (dn k AA (AD λx o=>zr tb AA AA (bs h0 λp a h0=>?_))))))));have y:∀f,p=f->∀s,Wk 0 s ⟨22,AM [(3,ow 0 0 f)],[Bw f]⟩->x s:=by
  intro f G s z;subst p;try dsimp only at h0
  refine o _ (AJ z (zr tb AA AA ?_));obtain rfl:=Sh.AF h0;exact rt [(2,ow 0 0 f)]
 refine AK (AT (σ:=Int×(List Int)) (λn v=>Et p0 n v.1 v.2=some p) (λ(c,e)=>⟨22,AM [(0,ls eI p0),(3,ow 0 0 e),(4,i64 c)],[ro 0 3 1 eI e]⟩) N (0,t) a (AI AA) (λ_ q=>by rw[Et]at q;cases q) ?_);rintro n ⟨c,e⟩ a;rw[Et]at a;refine AD λA g=>sr AA λB h=>zm tb 2 AA (zl tb AA AA (zq tb AA (dn h AA ?_)));refine ci a AA ?_ ?_<;>intro C a
 ·refine AH (g _ (AD λD i=>AK (AG AA (zm tb 4 AA (bs a λd j a=>zx BH j AA AA AA (zq tb AA (bs a λE b a=>zz (UB c) (Ca BH AA AA AA AA b) rfl (J4 (u':=d) AN Jy AA AA b AA AA AA ql rfl AA (dn i AA (AG AA (zm tb 3 AA ?_)))))))))));exact AE (xi (Sh.w (c+1),Sh.put e c d) a (As (L:=[(0,.sl (List.map eI p0)),(3,.own 0 0 (List.length (Sh.put e c d))),(4,i64 (Sh.w (c+1)))]) ⟨.rfl,(.len (by simp only[Sh.Ap])),.rfl,mV⟩))
 ·exact Ad (y e (Sh.AF a).symm _ (AI AA))
theorem V7 {N:Nat}{p0 r:BN}(h0:LK N p0=some r):Ay 204 [.agg (BR p0)] [] (.agg [ow 0 0 r.fields]) [ro 0 3 1 eI r.fields]:=by
 unfold LK at h0;refine BJ.wk (r0:=(.agg [ow 0 0 r.fields])) (st0:=[ro 0 3 1 eI r.fields,⟨0,106,1,[[ow 0 0 r.fields]]⟩]) (ai Tryz.func204 AA AA AA AA (sr AA λg b=>Az (m:=0) AN AA AA AA AA AA (Aj (m:=1) AN Mw AA AA (dn b AA (sr AA λh c=>Aj (m:=2) AN Mw AA AA (dn c AA (sr AA λi d=>zm tb 2 AA (bs h0 λa e h0=>A8 (v':=(ow 3 0 a)) AN (hb 135) (JK e) rfl AA ⟨(A9 λ_=>AA),mV⟩ AA AA (zq tb AA (Al AN KL AA AA AA AA AA AA ql rfl (dn d AA (sr AA λj f=>zq tb AA (Al AN Ka AA AA AA AA AA AA ql rfl (dn f AA ?_)))))))))))))) (GQ (L:=[(0,.agg [ow 0 0 r.fields])]) (st':=[ro 0 3 1 eI r.fields]) [0] AA (by decide) rfl AA (.pure (Ac λ_=>AA) mV) (.same AA));cases h0;exact BB ⟨_,(CC (L:=[(2,Ei)]) (st':=[Bw a,⟨0,106,1,[[ow 0 0 a]]⟩]) (st1:=[Bw a,⟨0,106,1,[[ow 3 0 a]]⟩]) [3,1] AA AA (.p (.w .nil)) (.same AA)).trans (As (L:=[(2,Ei)]) (.same AA)),Cz (x:=.tmp 2) (off:=0) (cs:=[ow 0 0 a]) (vs:=[ow 0 0 a]) Ka AA AA AA ql rfl _ ⟨AA,AA⟩⟩
theorem US {N:Nat}{p0:(List BN)}{r:(List BN)}(h0:KF N p0=some r):Ay 134 [ls BR p0] [] (ow 0 0 r) [Yv r]:=by
 unfold KF at h0;refine ai Tryz.func134 AA AA AA AA (zr tb AA AA (sr AA λK q=>zq tb AA (zl tb AA AA (bs h0 λA t h0=>NX (m:=0) (st':=[Yv A]) (enc:=(CT 3)) (u:=(BN.mk [])) HC AA AA ⟨.inr ⟨AA,_,_,AA,by decide⟩,mV⟩ t AA AA (zq tb AA (dn q AA (AD λC x=>zr tb AA AA (bs h0 λy b h0=>?_))))))));have D:∀g,y=g->∀s,Wk 0 s ⟨23,AM [(3,ow 0 0 g)],[Yv g]⟩->C s:=by
  intro g M s E;subst y;try dsimp only at h0
  refine x _ (AJ E (zr tb AA AA ?_));obtain rfl:=Sh.AF h0;exact rt [(2,ow 0 0 g)]
 refine AK (AT (σ:=Int×(List BN)) (λn v=>FP N p0 n v.1 v.2=some y) (λ(d,f)=>⟨23,AM [(0,ls BR p0),(3,ow 0 0 f),(4,i64 d)],[ro 0 106 1 (CT 3) f]⟩) N (0,A) b (AI AA) (λ_ B=>by rw[FP]at B;cases B) ?_);rintro n ⟨d,f⟩ b;rw[FP]at b;refine AD λF h=>sr AA λG k=>zm tb 2 AA (zl tb AA AA (zq tb AA (dn k AA ?_)));refine ci b AA ?_ ?_<;>intro H b
 ·refine AH (h _ (AD λI l=>AK (AG AA (zm tb 4 AA (bs b λJ o b=>zx gJ o AA AA AA (zq tb AA (bs b λa p b=>A8 (v':=(.agg [ow 1 0 a.fields])) AN (hb 204) (V7 p) rfl AA ⟨(A9 λ_=>AA),mV⟩ AA AA (bs b λz e b=>zz (UB d) (Ca HC AA AA AA AA e) rfl (OF (st':=[⟨0,106,1,hole f (CT 3) d [ow 1 0 a.fields]⟩,ro 0 3 1 eI a.fields]) AN Ka AA AA e AA AA AA qt rfl AA (Aa (Wk.take (id:=0) (m:=1) (j:=0) (i:=d) (c:=z) (ys:=a.fields) (encY:=eI) rfl e AA AA AA (by decide) qo (λ_=>AA) rfl AA) (Aa (Cu (id:=0) (i:=d) (u:=a) rfl AA AA) (dn l AA (AG AA (zm tb 3 AA ?_))))))))))))));exact AE (xi (Sh.w (d+1),Sh.put f d a) b (by refine Wk.trans (Ag (L:=[(0,.sl (List.map BR p0)),(3,.own 0 0 (List.length f)),(4,i64 (Sh.w (d+1)))]) (st':=[⟨0,106,1,List.map (CT 3) (Sh.put f d a)⟩]) [0] AA AA (.deep (AS λ_=>AA) .nil) ⟨.rfl,.rfl,.rfl,mV⟩) ?_;exact As (L:=[(0,.sl (List.map BR p0)),(3,.own 0 0 (List.length (Sh.put f d a))),(4,i64 (Sh.w (d+1)))]) ⟨.rfl,(.len (by simp only[Sh.Ap])),.rfl,mV⟩))
 ·exact Ad (D f (Sh.AF b).symm _ (AI AA))
theorem UH {N:Nat}{p0 r:AR}(h0:J5 N p0=some r):Ay 74 [Rn p0] [] (.agg (gn r)) [ro 0 106 1 (CT 3) r.cons]:=by
 unfold J5 at h0;refine BJ.wk (r0:=(.agg (gn r))) (st0:=[ro 0 106 1 (CT 3) r.cons,⟨0,104,3,[gn r]⟩]) (ai Tryz.func74 AA AA AA AA (sr AA λi b=>Az (m:=0) AN AA AA AA AA AA (Aj (m:=1) AN Fy AA AA (dn b AA (sr AA λj c=>Aj (m:=2) AN Fy AA AA (dn c AA (sr AA λk d=>zm tb 3 AA (Al AN Jy AA AA AA AA AA AA (show 0+1<=3 by decide) rfl (dn d AA (sr AA λl e=>zm tb 3 AA (Al AN Jy AA AA AA AA AA AA (show 1+1<=3 by decide) rfl (dn e AA (sr AA λn f=>zm tb 2 AA (bs h0 λa g h0=>A8 (v':=(ow 3 0 a)) AN (hb 134) (US g) rfl AA ⟨(AS λ_=>AA),mV⟩ AA AA (zq tb AA (Al AN Mv AA AA AA AA AA AA (show 2+1<=3 by decide) rfl (dn f AA (sr AA λo h=>zq tb AA (Al AN G0 AA AA AA AA AA AA qn rfl (dn h AA ?_)))))))))))))))))))) (GQ (L:=[(0,.agg (gn r))]) (st':=[ro 0 106 1 (CT 3) r.cons]) [0] AA (by decide) rfl AA (.deep (AS λ_=>AA) mV) (.same AA));cases h0;exact BB ⟨_,((CC (L:=[(2,Ei)]) (st':=[Yv a,⟨0,104,3,[[i64 p0.from_,i64 p0.to,ow 0 0 a]]⟩]) (st1:=[Yv a,⟨0,104,3,[[i64 p0.from_,i64 p0.to,ow 3 0 a]]⟩]) [3,1] AA AA (.deep (AS λ_=>AA) (.w .nil)) (.same AA)).trans (As (L:=[(2,Ei)]) (.same AA))),Cz (x:=.tmp 2) (off:=0) (cs:=[i64 p0.from_,i64 p0.to,ow 0 0 a]) (vs:=[i64 p0.from_,i64 p0.to,ow 0 0 a]) G0 AA AA AA qn rfl _ ⟨AA,AA⟩⟩
theorem TF {N:Nat}{p0:(List AR)}{r:(List AR)}(h0:I8 N p0=some r):Ay 30 [Df p0] [] (ow 0 0 r) [GM r]:=by
 unfold I8 at h0;refine ai Tryz.func30 AA AA AA AA (zr tb AA AA (sr AA λK q=>zq tb AA (zl tb AA AA (bs h0 λA t h0=>NX (m:=0) (st':=[GM A]) (enc:=(Av 106 3)) (u:=(AR.mk 0 0 [])) DZ AA AA ⟨.inl ⟨AA,AA⟩,⟨.inl ⟨AA,AA⟩,⟨.inr ⟨AA,_,_,AA,by decide⟩,mV⟩⟩⟩ t AA AA (zq tb AA (dn q AA (AD λC x=>zr tb AA AA (bs h0 λy b h0=>?_))))))));have D:∀g,y=g->∀s,Wk 0 s ⟨23,AM [(3,ow 0 0 g)],[GM g]⟩->C s:=by
  intro g M s E;subst y;try dsimp only at h0
  refine x _ (AJ E (zr tb AA AA ?_));obtain rfl:=Sh.AF h0;exact rt [(2,ow 0 0 g)]
 refine AK (AT (σ:=Int×(List AR)) (λn v=>E6 N p0 n v.1 v.2=some y) (λ(d,f)=>⟨23,AM [(0,ls Ak p0),(3,ow 0 0 f),(4,i64 d)],[ro 0 104 3 (Av 106 3) f]⟩) N (0,A) b (AI AA) (λ_ B=>by rw[E6]at B;cases B) ?_);rintro n ⟨d,f⟩ b;rw[E6]at b;refine AD λF h=>sr AA λG k=>zm tb 2 AA (zl tb AA AA (zq tb AA (dn k AA ?_)));refine ci b AA ?_ ?_<;>intro H b
 ·refine AH (h _ (AD λI l=>AK (AG AA (zm tb 4 AA (bs b λJ o b=>zx jZ o AA AA AA (zq tb AA (bs b λa p b=>A8 (v':=(.agg [i64 a.from_,i64 a.to,ow 1 0 a.cons])) AN (hb 74) (UH p) rfl AA ⟨(AS λ_=>AA),mV⟩ AA AA (bs b λz e b=>zz (UB d) (Ca DZ AA AA AA AA e) rfl (OF (st':=[⟨0,104,3,hole f (Av 106 3) d [i64 a.from_,i64 a.to,ow 1 0 a.cons]⟩,ro 0 106 1 (CT 3) a.cons]) AN G0 AA AA e AA AA AA (show 3<=3 by decide) rfl AA (Aa (Wk.take (id:=0) (m:=1) (j:=2) (i:=d) (c:=z) (ys:=a.cons) (encY:=(CT 3)) rfl e AA AA AA (by decide) qo (λ_=>AA) rfl AA) (Aa (Cu (id:=0) (i:=d) (u:=a) rfl AA AA) (dn l AA (AG AA (zm tb 3 AA ?_))))))))))))));exact AE (xi (Sh.w (d+1),Sh.put f d a) b (by refine Wk.trans (Ag (L:=[(0,.sl (List.map Ak p0)),(3,.own 0 0 (List.length f)),(4,i64 (Sh.w (d+1)))]) (st':=[⟨0,104,3,List.map (Av 106 3) (Sh.put f d a)⟩]) [0] AA AA (.deep (AS λ_=>AA) .nil) ⟨.rfl,.rfl,.rfl,mV⟩) ?_;exact As (L:=[(0,.sl (List.map Ak p0)),(3,.own 0 0 (List.length (Sh.put f d a))),(4,i64 (Sh.w (d+1)))]) ⟨.rfl,(.len (by simp only[Sh.Ap])),.rfl,mV⟩))
 ·exact Ad (D f (Sh.AF b).symm _ (AI AA))
theorem Rt {N:Nat}{rI:Block->Option (Block)}(rj :∀{p0:Block} {r:Block},rI p0=some r->Ay 136 [DS p0] [] (OC r) [KJ r]){p0:(List Block)}{r:(List Block)}(h0:Ju N rI p0=some r):Ay 275 [ls Bg p0] [] (ow 0 0 r) [Lk r]:=by
 unfold Ju at h0;refine ai Tryz.func275 AA AA AA AA (zr tb AA AA (sr AA λK q=>zq tb AA (zl tb AA AA (bs h0 λA t h0=>NX (m:=0) (st':=[Lk A]) (enc:=(DE 3 48 80)) (u:=(Block.mk [] 0)) Hs AA AA ⟨.inr ⟨AA,_,_,AA,by decide⟩,⟨.inl ⟨AA,AA⟩,mV⟩⟩ t AA AA (zq tb AA (dn q AA (AD λC x=>zr tb AA AA (bs h0 λy b h0=>?_))))))));have D:∀g,y=g->∀s,Wk 0 s ⟨23,AM [(3,ow 0 0 g)],[Lk g]⟩->C s:=by
  intro g M s E;subst y;try dsimp only at h0
  refine x _ (AJ E (zr tb AA AA ?_));obtain rfl:=Sh.AF h0;exact rt [(2,ow 0 0 g)]
 refine AK (AT (σ:=Int×(List Block)) (λn v=>Dt p0 rI n v.1 v.2=some y) (λ(d,f)=>⟨23,AM [(0,ls Bg p0),(3,ow 0 0 f),(4,i64 d)],[ro 0 48 2 (DE 3 48 80) f]⟩) N (0,A) b (AI AA) (λ_ B=>by rw[Dt]at B;cases B) ?_);rintro n ⟨d,f⟩ b;rw[Dt]at b;refine AD λF h=>sr AA λG k=>zm tb 2 AA (zl tb AA AA (zq tb AA (dn k AA ?_)));refine ci b AA ?_ ?_<;>intro H b
 ·refine AH (h _ (AD λI l=>AK (AG AA (zm tb 4 AA (bs b λJ o b=>zx eQ o AA AA AA (zq tb AA (bs b λa p b=>A8 (v':=(.agg [ow 1 0 a.steps,i64 a.result])) AN (hb 136) (rj p) rfl AA ⟨AS BS,mV⟩ AA AA (bs b λz e b=>zz (UB d) (Ca Hs AA AA AA AA e) rfl (OF (st':=[⟨0,48,2,hole f (DE 3 48 80) d [ow 1 0 a.steps,i64 a.result]⟩,KJ a]) AN Jj AA AA e AA AA AA (show 2<=2 by decide) rfl AA (Aa (Wk.take (id:=0) (m:=1) (j:=0) (i:=d) (c:=z) (ys:=a.steps) (encY:=(Bb 3 48 80)) rfl e AA AA AA (by decide) qo It AA AA) (Aa (Cu (id:=0) (i:=d) (u:=a) rfl AA AA) (dn l AA (AG AA (zm tb 3 AA ?_))))))))))))));exact AE (xi (Sh.w (d+1),Sh.put f d a) b (by refine Wk.trans (Ag (L:=[(0,.sl (List.map Bg p0)),(3,.own 0 0 (List.length f)),(4,i64 (Sh.w (d+1)))]) (st':=[⟨0,48,2,List.map (DE 3 48 80) (Sh.put f d a)⟩]) [0] AA AA (.deep (AS λ_=>AA) .nil) ⟨.rfl,.rfl,.rfl,mV⟩) ?_;exact As (L:=[(0,.sl (List.map Bg p0)),(3,.own 0 0 (List.length (Sh.put f d a))),(4,i64 (Sh.w (d+1)))]) ⟨.rfl,(.len (by simp only[Sh.Ap])),.rfl,mV⟩))
 ·exact Ad (D f (Sh.AF b).symm _ (AI AA))
theorem UG {N:Nat}{rI:Block->Option (Block)}(rj :∀{p0:Block} {r:Block},rI p0=some r->Ay 136 [DS p0] [] (OC r) [KJ r]){p0 r:Step}(h0:J7 N rI p0=some r):Ay 254 [Od p0] [] (.agg (Zp r)) [Qe r,Zt r]:=by
 unfold J7 at h0;refine BJ.wk (r0:=(.agg (Zp r))) (st0:=[Qe r,Zt r,⟨0,80,5,[Zp r]⟩]) (ai Tryz.func254 AA AA AA AA (sr AA λo d=>Az (m:=0) AN AA AA AA AA AA (Aj (m:=1) AN Nk AA AA (dn d AA (sr AA λp e=>Aj (m:=2) AN Nk AA AA (dn e AA (sr AA λq f=>zm tb 3 AA (Al AN Jy AA AA AA AA AA AA qz rfl (dn f AA (sr AA λs g=>zm tb 3 AA (Al AN Jy AA AA AA AA AA AA qy rfl (dn g AA (sr AA λt h=>zm tb 3 AA (Al AN Jy AA AA AA AA AA AA qw rfl (dn h AA (sr AA λu i=>zm tb 2 AA (bs h0 λa j h0=>A8 (v':=(ow 3 0 a)) AN (hb 135) (JK j) rfl AA ⟨(A9 λ_=>AA),mV⟩ AA AA (zq tb AA (Al AN KL AA AA AA AA AA AA (show 3+1<=5 by decide) rfl (dn i AA (sr AA λw k=>zm tb 2 AA (bs h0 λb l h0=>A8 (v':=(ow 4 0 b)) AN (hb 275) (Rt rj l) rfl AA ⟨(AS λ_=>AA),mV⟩ AA AA (zq tb AA (Al AN fL AA AA AA AA AA AA rA rfl (dn k AA (sr AA λn c=>zq tb AA (Al AN LQ AA AA AA AA AA AA qi rfl (dn c AA ?_)))))))))))))))))))))))))))) (GQ (L:=[(0,.agg (Zp r))]) (st':=[Qe r,Zt r]) [0,1] AA (by decide) rfl AA (.pure (Ac λ_=>AA) (.deep (AS λ_=>AA) mV)) (.same AA));cases h0;exact BB ⟨_,((CC (L:=[(2,Jh)]) (st':=[Bw a,Lk b,⟨0,80,5,[ku p0 a b]⟩]) (st1:=[Bw a,Lk b,⟨0,80,5,[[i64 p0.op,i64 p0.num,i64 p0.A5,ow 3 0 a,ow 4 0 b]]⟩]) [3,4,1] AA AA (.p (.deep (AS λ_=>AA) (.w .nil))) (.same AA)).trans (As (L:=[(2,Jh)]) (.same AA))),Cz (x:=.tmp 2) (off:=0) (cs:=(ku p0 a b)) (vs:=(ku p0 a b)) LQ AA AA AA qi rfl _ ⟨AA,AA⟩⟩
theorem Ss {N:Nat}{rI:Block->Option (Block)}(rj :∀{p0:Block} {r:Block},rI p0=some r->Ay 136 [DS p0] [] (OC r) [KJ r]){p0:(List Step)}{r:(List Step)}(h0:Kt N rI p0=some r):Ay 205 [ls Bk p0] [] (ow 0 0 r) [NM r]:=by
 unfold Kt at h0;refine ai Tryz.func205 AA AA AA AA (zr tb AA AA (sr AA λK t=>zq tb AA (zl tb AA AA (bs h0 λB x h0=>?_))));refine NX (m:=0) (st':=[ro 0 80 5 (Bb 3 48 80) B]) (enc:=(Bb 3 48 80)) (u:=(Step.mk 0 0 0 [] [])) FM AA AA (by rw[D8];exact⟨.inl ⟨AA,AA⟩,⟨.inl ⟨AA,AA⟩,⟨.inl ⟨AA,AA⟩,⟨.inr ⟨AA,_,_,AA,by decide⟩,⟨.inr ⟨AA,_,_,AA,by decide⟩,mV⟩⟩⟩⟩⟩) x AA AA ?_;refine zq tb AA (dn t AA (AD λD y=>zr tb AA AA (bs h0 λz b h0=>?_)));have E:∀g,z=g->∀s,Wk 0 s ⟨23,AM [(3,ow 0 0 g)],[NM g]⟩->D s:=by
  intro g M s F;subst z;try dsimp only at h0
  refine y _ (AJ F (zr tb AA AA ?_));obtain rfl:=Sh.AF h0;exact rt [(2,ow 0 0 g)]
 refine AK (AT (σ:=Int×(List Step)) (λn v=>EK N p0 rI n v.1 v.2=some z) (λ(e,f)=>⟨23,AM [(0,ls Bk p0),(3,ow 0 0 f),(4,i64 e)],[ro 0 80 5 (Bb 3 48 80) f]⟩) N (0,B) b (AI AA) (λ_ C=>by rw[EK]at C;cases C) ?_);rintro n ⟨e,f⟩ b;rw[EK]at b;refine AD λG h=>sr AA λH k=>zm tb 2 AA (zl tb AA AA (zq tb AA (dn k AA ?_)));refine ci b AA ?_ ?_<;>intro I b
 ·refine AH (h _ (AD λJ l=>AK (AG AA (zm tb 4 AA (bs b λA o b=>zz (Jo A) (Cp fg AA AA o (Be _) rfl) rfl (zq tb AA (bs b λa p b=>A8 (v':=(.agg [i64 a.op,i64 a.num,i64 a.A5,ow 1 0 a.args,ow 2 0 a.kids])) AN (hb 254) (UG rj p) rfl AA ⟨(A9 λ_=>AA),⟨(AS λ_=>AA),mV⟩⟩ AA AA (bs b λq d b=>zz (UB e) (Ca FM AA AA AA AA d) rfl (OF (st':=[⟨0,80,5,hole f (Bb 3 48 80) e [i64 a.op,i64 a.num,i64 a.A5,ow 1 0 a.args,ow 2 0 a.kids]⟩,Qe a,Zt a]) AN LQ AA AA d AA AA AA (show 5<=5 by decide) (Zc _) rfl (Aa (Wk.take (id:=0) (m:=1) (j:=3) (i:=e) (c:=q) (ys:=a.args) (encY:=eI) rfl d AA AA AA (by decide) qo (λ_=>AA) rfl AA) (Aa (Wk.take (id:=0) (m:=2) (j:=4) (i:=e) (c:=q) (ys:=a.kids) (encY:=(DE 3 48 80)) rfl d AA AA AA (by decide) qm (λ_=>AA) rfl AA) (Aa (Cu (id:=0) (i:=e) (u:=a) rfl (D8 a).symm AA) (dn l AA (AG AA (zm tb 3 AA ?_)))))))))))))));exact AE (xi (Sh.w (e+1),Sh.put f e a) b (by refine Wk.trans (Ag (L:=[(0,.sl (List.map Bk p0)),(3,.own 0 0 (List.length f)),(4,i64 (Sh.w (e+1)))]) (st':=[⟨0,80,5,List.map (Bb 3 48 80) (Sh.put f e a)⟩]) [0] AA AA (.deep (AS BS) .nil) ⟨.rfl,.rfl,.rfl,mV⟩) ?_;exact As (L:=[(0,.sl (List.map Bk p0)),(3,.own 0 0 (List.length (Sh.put f e a))),(4,i64 (Sh.w (e+1)))]) ⟨.rfl,(.len (by simp only[Sh.Ap])),.rfl,mV⟩))
 ·exact Ad (E f (Sh.AF b).symm _ (AI AA))
theorem Rh {N:Nat}{rI:Block->Option (Block)}(rj :∀{p0:Block} {r:Block},rI p0=some r->Ay 136 [DS p0] [] (OC r) [KJ r]){p0 r:Block}(h0:JM N rI p0=some r):Ay 136 [DS p0] [] (OC r) [KJ r]:=by
 unfold JM at h0;refine BJ.wk (r0:=(OC r)) (st0:=(iZ r)) (ai Tryz.func136 AA AA AA AA (sr AA λh b=>Az (m:=0) AN AA AA AA AA AA (Aj (m:=1) AN MK AA AA (dn b AA (sr AA λi c=>Aj (m:=2) AN MK AA AA (dn c AA (sr AA λj d=>zm tb 2 AA (bs h0 λa e h0=>A8 (v':=(ow 3 0 a)) AN (hb 205) (Ss rj e) rfl AA ⟨AS BS,mV⟩ AA AA (zq tb AA (Al AN Z0 AA AA AA AA AA AA qx rfl (dn d AA (sr AA λk f=>zm tb 3 AA (Al AN Jy AA AA AA AA AA AA qu rfl (dn f AA (sr AA λl g=>zq tb AA (Al AN Jj AA AA AA AA AA AA qg rfl (dn g AA ?_))))))))))))))))) (GQ (L:=[(0,OC r)]) (st':=[KJ r]) [0] AA (by decide) rfl AA (.deep (AS BS) mV) (.same AA));cases h0;exact BB ⟨_,(CC (L:=[(2,Ei)]) (st':=[NM a,⟨0,48,2,[QN a p0.result]⟩]) (st1:=[NM a,⟨0,48,2,[[ow 3 0 a,i64 p0.result]]⟩]) [3,1] AA AA (.deep (AS BS) (.w .nil)) (.same AA)).trans (As (L:=[(2,Ei)]) (.same AA)),Cz (x:=.tmp 2) (off:=0) (cs:=(QN a p0.result)) (vs:=(QN a p0.result)) Jj AA AA AA qg rfl _ ⟨AA,AA⟩⟩
theorem RJ {N:Nat}:∀(n:Nat),∀{p0:Block} {r:Block},F7 N n p0=some r->Ay 136 [DS p0] [] (OC r) [KJ r]:=by
 intro n
 induction n with
 | zero=>intro p0 r a;cases a
 | succ n ih=>
  intro p0 r a;rw[F7]at a;exact Rh (λh=>ih h) a
theorem TJ {N:Nat}:∀{p0:Block} {r:Block},Kr N p0=some r->Ay 136 [DS p0] [] (OC r) [KJ r]:=by
 intro p0 r a;exact RJ N a
theorem RW {N:Nat}{p0 r:AP}(h0:Hi N p0=some r):Ay 75 [aI p0] [] (.agg (iK r)) [Bw r.params,Bw r.Ao,jL r]:=by
 unfold Hi at h0;refine BJ.wk (r0:=(.agg (iK r))) (st0:=[Bw r.params,Bw r.Ao,jL r,⟨0,50,5,[iK r]⟩]) (ai Tryz.func75 AA AA AA AA (sr AA λp e=>Az (m:=0) AN AA AA AA AA AA (Aj (m:=1) AN MJ AA AA (dn e AA (sr AA λq f=>Aj (m:=2) AN MJ AA AA (dn f AA (sr AA λs g=>zm tb 2 AA (bs h0 λb h h0=>A8 (v':=(ow 3 0 b)) AN (hb 135) (JK h) rfl AA ⟨(A9 λ_=>AA),mV⟩ AA AA (zq tb AA (Al AN KL AA AA AA AA AA AA qz rfl (dn g AA (sr AA λt i=>zm tb 2 AA (bs h0 λc j h0=>A8 (v':=(ow 4 0 c)) AN (hb 135) (JK j) rfl AA ⟨(A9 λ_=>AA),mV⟩ AA AA (zq tb AA (Al AN KL AA AA AA AA AA AA qy rfl (dn i AA (sr AA λu k=>zm tb 3 AA (Al AN Jy AA AA AA AA AA AA qw rfl (dn k AA (sr AA λw l=>zm tb 2 AA (bs h0 λa n h0=>A8 (v':=(.agg [ow 5 0 a.steps,i64 a.result])) AN (hb 136) (TJ n) rfl AA ⟨AS BS,mV⟩ AA AA (zq tb AA (Al AN Jj AA AA AA AA AA AA (show 3+2<=5 by decide) rfl (dn l AA (sr AA λo d=>zq tb AA (Al AN Mo AA AA AA AA AA AA qi rfl (dn d AA ?_))))))))))))))))))))))))))) (GQ (L:=[(0,.agg (iK r))]) (st':=[Bw r.params,Bw r.Ao,jL r]) [0,1,2] AA (by decide) rfl AA (.pure (Ac λ_=>AA) (.pure (Ac λ_=>AA) (.deep (AS BS) mV))) (.same AA));cases h0;exact BB ⟨_,(CC (L:=[(2,SY)]) (st':=[Bw b,Bw c,KJ a,⟨0,50,5,[[ow 0 0 b,ow 1 0 c,i64 p0.result,ow 2 0 a.steps,i64 a.result]]⟩]) (st1:=[Bw b,Bw c,KJ a,⟨0,50,5,[[ow 3 0 b,ow 4 0 c,i64 p0.result,ow 5 0 a.steps,i64 a.result]]⟩]) [3,4,5,1] AA AA (.p (.p (.deep (AS BS) (.w .nil)))) (.same AA)).trans (As (L:=[(2,SY)]) (.same AA)),Cz (x:=.tmp 2) (off:=0) (cs:=[ow 0 0 b,ow 1 0 c,i64 p0.result,ow 2 0 a.steps,i64 a.result]) (vs:=[ow 0 0 b,ow 1 0 c,i64 p0.result,ow 2 0 a.steps,i64 a.result]) Mo AA AA AA qi rfl _ ⟨AA,AA⟩⟩
theorem QS {N:Nat}{p0:(List AP)}{r:(List AP)}(h0:HA N p0=some r):Ay 31 [ls Ah p0] [] (ow 0 0 r) [JU r]:=by
 unfold HA at h0;refine ai Tryz.func31 AA AA AA AA (zr tb AA AA (sr AA λK t=>zq tb AA (zl tb AA AA (bs h0 λA x h0=>NX (m:=0) (st':=[JU A]) (enc:=(Am 3 3 3 48 80)) (u:=(AP.mk [] [] 0 (Block.mk [] 0))) Ez AA AA ⟨.inr ⟨AA,_,_,AA,by decide⟩,⟨.inr ⟨AA,_,_,AA,by decide⟩,⟨.inl ⟨AA,AA⟩,⟨.inr ⟨AA,_,_,AA,by decide⟩,⟨.inl ⟨AA,AA⟩,mV⟩⟩⟩⟩⟩ x AA AA (zq tb AA (dn t AA (AD λC y=>zr tb AA AA (bs h0 λz d h0=>?_))))))));have D:∀h,z=h->∀s,Wk 0 s ⟨23,AM [(3,ow 0 0 h)],[JU h]⟩->C s:=by
  intro h M s E;subst z;try dsimp only at h0
  refine y _ (AJ E (zr tb AA AA ?_));obtain rfl:=Sh.AF h0;exact rt [(2,ow 0 0 h)]
 refine AK (AT (σ:=Int×(List AP)) (λn v=>Dn N p0 n v.1 v.2=some z) (λ(e,f)=>⟨23,AM [(0,ls Ah p0),(3,ow 0 0 f),(4,i64 e)],[ro 0 50 5 (Am 3 3 3 48 80) f]⟩) N (0,A) d (AI AA) (λ_ B=>by rw[Dn]at B;cases B) ?_);rintro n ⟨e,f⟩ d;rw[Dn]at d;refine AD λF k=>sr AA λG l=>zm tb 2 AA (zl tb AA AA (zq tb AA (dn l AA ?_)));refine ci d AA ?_ ?_<;>intro H d
 ·refine AH (k _ (AD λI o=>AK (AG AA (zm tb 4 AA (bs d λJ p d=>zx jR p AA AA AA (zq tb AA (bs d λa q d=>A8 (v':=(.agg [ow 1 0 a.params,ow 2 0 a.Ao,i64 a.result,ow 3 0 a.body.steps,i64 a.body.result])) AN (hb 75) (RW q) rfl AA ⟨(A9 λ_=>AA),⟨(A9 λ_=>AA),⟨AS BS,mV⟩⟩⟩ AA AA (bs d λg b d=>zz (UB e) (Ca Ez AA AA AA AA b) rfl (OF (st':=[⟨0,50,5,hole f (Am 3 3 3 48 80) e [ow 1 0 a.params,ow 2 0 a.Ao,i64 a.result,ow 3 0 a.body.steps,i64 a.body.result]⟩,Bw a.params,Bw a.Ao,jL a]) AN Mo AA AA b AA AA AA (show 5<=5 by decide) rfl AA (Aa (Wk.take (id:=0) (m:=1) (j:=0) (i:=e) (c:=g) (ys:=a.params) (encY:=eI) rfl b AA AA AA (by decide) qo (λ_=>AA) rfl AA) (Aa (Wk.take (id:=0) (m:=2) (j:=1) (i:=e) (c:=g) (ys:=a.Ao) (encY:=eI) rfl b AA AA AA (by decide) qm (λ_=>AA) rfl AA) (Aa (Wk.take (id:=0) (m:=3) (j:=3) (i:=e) (c:=g) (ys:=a.body.steps) (encY:=(Bb 3 48 80)) rfl b AA AA AA (by decide) qp It AA AA) (Aa (Cu (id:=0) (i:=e) (u:=a) rfl AA AA) (dn o AA (AG AA (zm tb 3 AA ?_))))))))))))))));exact AE (xi (Sh.w (e+1),Sh.put f e a) d (by refine Wk.trans (Ag (L:=[(0,.sl (List.map Ah p0)),(3,.own 0 0 (List.length f)),(4,i64 (Sh.w (e+1)))]) (st':=[⟨0,50,5,List.map (Am 3 3 3 48 80) (Sh.put f e a)⟩]) [0] AA AA (.deep (AS λ_=>AA) .nil) ⟨.rfl,.rfl,.rfl,mV⟩) ?_;exact As (L:=[(0,.sl (List.map Ah p0)),(3,.own 0 0 (List.length (Sh.put f e a))),(4,i64 (Sh.w (e+1)))]) ⟨.rfl,(.len (by simp only[Sh.Ap])),.rfl,mV⟩))
 ·exact Ad (D f (Sh.AF d).symm _ (AI AA))
theorem IA {N:Nat}{p0 r:AL}(h0:Fu N p0=some r):Ay 9 [Ej p0] [] (.agg (ZK r)) [GM r.decls,TW r]:=by
 unfold Fu at h0;refine BJ.wk (r0:=(.agg (ZK r))) (st0:=[GM r.decls,TW r,⟨0,30,2,[ZK r]⟩]) (ai Tryz.func9 AA AA AA AA (sr AA λj c=>Az (m:=0) AN AA AA AA AA AA (Aj (m:=1) AN Gh AA AA (dn c AA (sr AA λk d=>Aj (m:=2) AN Gh AA AA (dn d AA (sr AA λl e=>zm tb 2 AA (bs h0 λa f h0=>A8 (v':=(ow 3 0 a)) AN (hb 30) (TF f) rfl AA ⟨(AS λ_=>AA),mV⟩ AA AA (zq tb AA (Al AN lN AA AA AA AA AA AA qx rfl (dn e AA (sr AA λn g=>zm tb 2 AA (bs h0 λb h h0=>A8 (v':=(ow 4 0 b)) AN (hb 31) (QS h) rfl AA ⟨(AS λ_=>AA),mV⟩ AA AA (zq tb AA (Al AN eY AA AA AA AA AA AA qu rfl (dn g AA (sr AA λo i=>zq tb AA (Al AN FG AA AA AA AA AA AA qg rfl (dn i AA ?_))))))))))))))))))) (GQ (L:=[(0,.agg (ZK r))]) (st':=[GM r.decls,TW r]) [0,1] AA (by decide) rfl AA (.deep (AS λ_=>AA) (.deep (AS λ_=>AA) mV)) (.same AA));cases h0;exact BB ⟨_,((CC (L:=[(2,Jh)]) (st':=(fZ a b)) (st1:=[GM a,JU b,⟨0,30,2,[[ow 3 0 a,ow 4 0 b]]⟩]) [3,4,1] AA AA (.deep (AS λ_=>AA) (.deep (AS λ_=>AA) (.w .nil))) (.same AA)).trans (As (L:=[(2,Jh)]) (.same AA))),Cz (x:=.tmp 2) (off:=0) (cs:=(WX a b)) (vs:=(WX a b)) FG AA AA AA qg rfl _ ⟨AA,AA⟩⟩
theorem UP {N:Nat}{p0:AL}{r:Dg}(h0:KC N p0=some r):Ay 192 [Ej p0] [] (.agg [Df r.decls,ls Hd r.funcs]) []:=by
 unfold KC at h0;refine FH AA (ai Tryz.func192 AA AA AA AA (sr AA λG o=>Az (m:=0) AN AA AA AA AA AA (Aj (m:=1) AN fR AA AA (dn o AA (sr AA λH p=>zm tb 2 AA (Cn (m:=2) (l:=([]:List HZ)) (enc:=Hd) AN XT (by decide) rfl AA AA AA AA AA (zz (.agg [Df p0.decls,.own 2 0 (List.length ([]:List HZ))]) (HU mA lg fR AA AA) rfl (Aj (m:=3) AN fR AA AA (Al AN gX AA AA AA AA AA AA qg rfl (dn p AA (AD λz q=>zr tb AA AA (bs h0 λt b h0=>?_))))))))))));have A:∀c,t=c->∀s,Wk 0 s ⟨35,AM [(2,BL),(3,Jh)],[ff,ro 0 55 5 Hd c,⟨0,40,2,[[Df p0.decls,ow 1 0 c]]⟩]⟩->z s:=by
  intro c I s B;subst t;refine q _ (AJ B (sr AA λJ u=>zq tb AA (Aa (Wk.Ct (L:=[(2,BL),(34,.agg [Df p0.decls,ls Hd c])]) (st':=[ff,⟨1,55,5,[]⟩,⟨0,40,2,[[Df p0.decls,ow 1 0 c]]⟩]) (id:=1) rfl qo (Ac λ_=>AA) ⟨.rfl,.agg ⟨.rfl,.Je AA,mV⟩,mV⟩ AA) (Al AN gX AA AA AA AA AA AA qg rfl (dn u AA ?_)))));cases h0;exact BB ⟨_,Wk.refl _ _,Cz (x:=.tmp 2) (off:=0) (cs:=[Df p0.decls,ls Hd c]) (vs:=[Df p0.decls,ls Hd c]) gX AA AA AA qg rfl _ AA⟩
 refine AK (AT (σ:=Int×(List HZ)) (λn v=>Er p0 n v.1 v.2=some t) (λ(k,d)=>⟨35,AM [(1,.ptr 0 0 0 0),(2,.ptr 1 0 0 0),(3,.ptr 3 0 0 0),(4,i64 k)],[Qk p0.decls p0.AB,⟨0,40,2,[[.zc,.zc]]⟩,ro 0 55 5 Hd d,⟨0,40,2,[[ls Ak p0.decls,ow 2 0 d]]⟩]⟩) N (0,[]) b (AI AA) (λ_ y=>by rw[Er]at y;cases y) ?_);rintro n ⟨k,d⟩ b;rw[Er]at b;refine AD λC g=>sr AA λD h=>zm tb 3 AA (zl tb AA AA (zq tb AA (dn h AA ?_)));refine ci b AA ?_ ?_<;>intro E b
 ·refine AH (g _ (AD λF i=>AK (B3 16 (by kernel_rfl) (by kernel_rfl) (by rfl) ?_)));iterate 5 refine yq tb rfl ?_
  refine bs b λa e b=>yx Ez e AA AA AA ?_;iterate 5 refine yq tb rfl ?_
  refine yx Ez e AA AA AA ?_;iterate 2 refine yq tb rfl ?_
  exact yz (.agg [ls eI a.params,i64 a.result,i64 0,i64 0,.zc]) (HU lP lR jO AA AA) rfl (kU (l:=([HZ.mk a.params a.result (Da.mk 0 0 [])])) (enc:=Hd) (pv':=[(0,.agg [ls eI a.params,i64 a.result,i64 0,i64 0,.sl (List.map bq [])])]) AN XT (by decide) rfl AA (.cons (le.agg ⟨le.rfl,le.rfl,le.rfl,le.rfl,le.zc,mV⟩) .nil) rfl AA AA (Ac λ_=>AA) (BG (bs b λf j b=>EI (l2:=([HZ.mk a.params a.result (Da.mk 0 0 [])])) AN XT AA AA AA AA OV (λ_=>AA) j AA (zq tb AA (Al AN lp AA AA AA AA AA AA qu rfl (dn i AA (AG AA (zm tb 3 AA (AE (xi (Sh.w (k+1),f) b (CP (L:=[(1,BL),(2,Ei),(3,SY),(4,MY k)]) (st':=[Qk p0.decls p0.AB,ff,ro 0 55 5 Hd f,⟨0,40,2,[[Df p0.decls,ow 2 0 f]]⟩]) (.raw AA AA (.raw AA AA (.pure (Ac λ_=>AA) (.raw AA AA .nil)))) (.same AA))))))))))))
 ·exact Ad (A d (Sh.AF b).symm _ (CC (L:=[(2,BL),(3,Jh)]) (st':=[ff,ro 0 55 5 Hd d,⟨0,40,2,[[Df p0.decls,ow 1 0 d]]⟩]) (st1:=[ff,ro 0 55 5 Hd d,⟨0,40,2,[[Df p0.decls,ow 2 0 d]]⟩]) [1,2,3] AA AA (.w (.p (.w .nil))) (.same AA)))
theorem BZ {p0 p1 p2:Int}{r:Bool}(h0:BO p0 p1 p2=some r):Ay 174 [i64 p0,i64 p1,i64 p2] [] (.bool r) []:=by
 unfold BO at h0;refine ai Tryz.func174 AA AA AA AA (zr tb AA AA (AD λg d=>bs h0 λe b h0=>?_));have f:∀c,e=c->∀s,Wk 0 s ⟨15,AM [(6,.bool c)],[]⟩->g s:=by
  intro c i s h;subst e;try dsimp only at h0
  refine d _ (AJ h ?_);obtain rfl:=Sh.AF h0;exact rt [(6,.bool c)]
 refine AG AA (zm tb 4 AA ?_);rcases Sh.Ab b with ⟨a,b⟩|⟨a,b⟩
 ·exact zg tb a AA (zg tb a AA (zg tb a AA (zt a AA (zq tb AA (AE (f (decide (p0<=p2)) (Sh.AF b).symm _ (AI AA)))))))
 ·exact zs a AA (zs a AA (zs a AA (zf a AA (zq tb AA (AE (f false (Sh.AF b).symm _ (AI AA)))))))
theorem Mj {N:Nat}{p0:(List AR)}{p1:(List Int)}{r:Bool}(h0:HO N p0 p1=some r):Ay 175 [Df p0,ls eI p1] [] (.bool r) []:=by
 unfold HO at h0;refine ai Tryz.func175 AA AA AA AA (zr tb AA AA (AD λo h=>zr tb AA AA ?_));obtain⟨i,a,h0⟩:=Sh.Ar h0;have p:∀(_:Unit),i=Sum.inr ()->∀s,Wk 0 s ⟨20,AM [],[]⟩->o s:=by
  intro _ A s q;subst i;refine h _ (AJ q (zr tb AA AA ?_));cases h0;exact rt [(4,.bool true)]
 refine AK (AT (σ:=Int) (λn v=>EV p0 p1 n v=some i) (λj=>⟨20,AM [(0,ls Ak p0),(1,ls eI p1),(5,i64 j)],[]⟩) N 0 a (AI AA) (λ_ m=>by rw[EV]at m;cases m) ?_);rintro n j a;rw[EV]at a;refine AD λB k=>sr AA λC l=>zm tb 2 AA (zl tb AA AA (zq tb AA (dn l AA ?_)));refine ci a AA ?_ ?_<;>intro D a
 ·refine AH (k _ (AD λt b=>AK (sr AA λu c=>zm tb 2 AA (bs a λx d a=>zx BH d AA AA AA (zm tb 2 AA (zl tb AA AA (bs a λe f a=>zc (hb 174) (BZ f) rfl AA AA (zq tb AA (dn c AA ?_)))))))));refine ci a AA ?_ ?_<;>intro g a
  ·have y:e=false:=by simpa using g
   refine zr tb AA AA ?_;cases a;cases h0;exact rt [(4,.bool false)]
  ·have z:e=true:=by simpa using g
   exact AH (b _ (AG AA (zm tb 3 AA (AE (xi (Sh.w (j+1)) a (AI AA))))))
 ·exact Ad (p () (Sh.AF a).symm _ (AI AA))
theorem RE {N:Nat}{p0:(List AR)}{p1:Int}{r:Bool}(h0:Hf N p0 p1=some r):Ay 232 (S8 p0 p1) [] (.bool r) []:=by
 unfold Hf at h0;refine ai Tryz.func232 AA AA AA AA (zr tb AA AA (sr AA λK2 Y=>zm tb 2 AA (bs h0 λk Z h0=>zx DZ Z AA AA AA (zq tb AA (Aj (m:=0) AN Fy AA AA (Al AN G0 AA AA AA AA AA AA qn rfl (dn Y AA (AD λK4 b0=>sr AA λK5 b1=>zm tb 2 AA (zl tb AA AA (zq tb AA (dn b1 AA ?_)))))))))));refine ci h0 AA ?_ ?_<;>intro b6 h0
 ·refine AD λK7 b2=>AD λK8 b3=>bs h0 λC a h0=>?_;have t:∀t9,C=t9->∀s,Wk 0 s ⟨100,AM [(0,Df p0),(5,BL),(29,.bool t9)],[UC k]⟩->K8 s:=by
   intro t9 D s i;subst C;refine b3 _ (AJ i ?_);refine ci h0 AA ?_ ?_<;>intro c6 h0
   ·refine zr tb AA AA ?_;cases h0;exact rd [(4,.bool false)]
   ·refine AH (b2 _ (AD λb4 E=>zr tb AA AA ?_));obtain⟨u,a,h0⟩:=Sh.Ar h0;have b5:∀(_:Unit),u=Sum.inr ()->∀s,Wk 0 s ⟨100,AM [],[]⟩->b4 s:=by
     intro _ D s i;subst u;refine E _ (AJ i (zr tb AA AA ?_));cases h0;exact rt [(4,.bool true)]
    refine AK (AT (σ:=Int) (λn v=>EB N k p0 n v=some u) (λl=>⟨100,AM [(0,ls Ak p0),(5,.ptr 0 0 0 0),(6,i64 l)],[⟨0,104,3,[Ak k]⟩]⟩) N 0 a (AI AA) (λ_ F=>by rw[EB]at F;cases F) ?_);rintro n l a;rw[EB]at a;refine AD λc7 G=>sr AA λc8 H=>zm tb 3 AA (zl tb AA AA (zq tb AA (dn H AA ?_)));refine ci a AA ?_ ?_<;>intro c9 a
    ·refine AH (G _ (AD λd1 I=>AK (AD λb7 J=>bs a λK c a=>?_)));have L:∀x,K=x->∀s,Wk 0 s ⟨100,AM [(0,Df p0),(5,BL),(6,i64 l),(55,.bool x)],[UC k]⟩->b7 s:=by
      intro x D s i;subst K;refine J _ (AJ i ?_);refine ci a AA ?_ ?_<;>intro d2 a
      ·refine zr tb AA AA ?_;cases a;cases h0;exact rd [(4,.bool false)]
      ·exact AH (I _ (AG AA (zm tb 3 AA (AE (xi (Sh.w (l+1)) a (AI AA))))))
     refine AG AA (zm tb 3 AA (bs c λb8 q c=>zx HC q AA AA AA (zm tb 2 AA (zl tb AA AA (zm tb 2 AA ?_)))));rcases Sh.Ab c with ⟨b,c⟩|⟨b,c⟩
     ·refine zs b AA ?_;iterate 8 refine zs b rfl ?_
      exact zt b AA (AE (L true (Sh.AF c).symm _ (AI AA)))
     ·refine zg tb b AA ?_;iterate 3 refine zg tb b rfl ?_
      exact At (v:=(.Bz (BR b8) 0)) (BI AA AA b) rfl (Bi HC AA AA q AA) (zg tb b AA (zg tb b AA (bs c λb9 M c=>zd b (hb 175) (Mj M) rfl AA AA AA (zg tb b AA (zf b AA (AE (L (!b9) (Sh.AF c).symm _ (AI AA))))))))
    ·exact Ad (b5 () (Sh.AF a).symm _ (BD _ AA))
  refine AG AA (zm tb 2 AA (zl tb AA AA (zm tb 2 AA ?_)));rcases Sh.Ab a with ⟨e,a⟩|⟨e,a⟩
  ·refine zs e AA (zs e AA (zs e AA (zt e AA (zq tb AA ?_))));iterate 3 refine zs rfl rfl ?_
   exact zt AA AA (AE (t true (Sh.AF a).symm _ (AI AA)))
  ·refine zg tb e AA (zg tb e AA (zg tb e AA (zf e AA (zq tb AA ?_))));rcases Sh.Ab a with ⟨f,a⟩|⟨f,a⟩
   ·exact zs f AA (zs f AA (zs f AA (zt f AA (AE (t true (Sh.AF a).symm _ (AI AA))))))
   ·exact zg tb f AA (zg tb f AA (zg tb f AA (zf f AA (AE (t (!decide (k.to=0)) (Sh.AF a).symm _ (AI AA))))))
 ·refine AH (b0 _ (AD λc0 O=>zr tb AA AA ?_));obtain⟨y,a,h0⟩:=Sh.Ar h0;have c1:∀(_:Unit),y=Sum.inr ()->∀s,Wk 0 s ⟨100,AM [(0,Df p0),(5,BL)],[UC k]⟩->c0 s:=by
   intro _ D s i;subst y;refine O _ (AJ i (AD λc2 P=>bs h0 λQ a h0=>?_));have R:∀o,Q=o->∀s,Wk 0 s ⟨100,AM [(4,.bool o)],[]⟩->c2 s:=by
    intro o D s i;subst Q;try dsimp only at h0
    refine P _ (AJ i ?_);obtain rfl:=Sh.AF h0;exact rt [(4,.bool o)]
   refine AG AA (zm tb 3 AA (zl tb AA AA (bs a λd3 S a=>zc (hb 174) (BZ S) rfl AA AA (zq tb AA ?_))));rcases Sh.Ab a with ⟨d,a⟩|⟨d,a⟩
   ·exact zg tb d AA (zg tb d AA (zg tb d AA (At (v:=(Fb p0)) (BI AA AA d) rfl (Bo Sd AA) (bs a λc4 T a=>zd d (hb 174) (BZ T) rfl AA AA AA (zt d AA (zq tb AA (AE (R c4 (Sh.AF a).symm _ (BD _ AA)))))))))
   ·refine zs d AA ?_;iterate 4 refine zs d rfl ?_
    exact zf d AA (zq tb AA (AE (R false (Sh.AF a).symm _ (BD _ AA))))
  refine AK (AT (σ:=Int) (λn v=>EC k p0 p1 n v=some y) (λp=>⟨100,AM [(0,ls Ak p0),(1,i64 p1),(5,.ptr 0 0 0 0),(7,i64 p)],[⟨0,104,3,[Ak k]⟩]⟩) N 0 a (AI AA) (λ_ F=>by rw[EC]at F;cases F) ?_);rintro n p a;rw[EC]at a;refine AD λd4 U=>zr tb AA AA ?_;refine ci a AA ?_ ?_<;>intro d5 a
  ·refine AH (U _ (AD λd6 V=>AK (AD λc5 W=>bs a λX c a=>?_)));have z:∀A,X=A->∀s,Wk 0 s ⟨100,AM [(0,Df p0),(1,i64 p1),(5,BL),(7,i64 p),(87,.bool A)],[UC k]⟩->c5 s:=by
    intro A D s i;subst X;refine W _ (AJ i ?_);refine ci a AA ?_ ?_<;>intro d7 a
    ·refine zr tb AA AA ?_;cases a;cases h0;exact rd [(4,.bool false)]
    ·exact AH (V _ (AG AA (zm tb 3 AA (AE (xi (Sh.w (p+1)) a (AI AA))))))
   refine Bv (by kernel_rfl) (by kernel_rfl) (by rfl) ?_;iterate 2 refine yq tb rfl ?_
   refine bs c λB j c=>yx DZ j AA AA AA ?_;iterate 2 refine yq tb rfl ?_
   refine yl tb AA AA ?_;iterate 2 refine yq tb rfl ?_
   rcases Sh.Ab c with ⟨g,c⟩|⟨g,c⟩
   ·refine yg tb g AA (yg tb g AA (JY (v:=(WN B)) (BI AA AA g) rfl (Bi DZ AA AA j AA) ?_));iterate 5 refine yg tb g rfl ?_
    refine yt g AA (yq tb AA ?_);rcases Sh.Ab c with ⟨h,c⟩|⟨h,c⟩
    ·refine yg tb h AA (yg tb h AA (JY (v:=(WN B)) (BI AA AA h) rfl (Bi DZ AA AA j AA) ?_));iterate 5 refine yg tb h rfl ?_
     exact yt h AA (BG (z (decide (B.to=k.to)) (Sh.AF c).symm _ (AI AA)))
    ·refine ys h AA ?_;iterate 7 refine ys h rfl ?_
     exact yf h AA (BG (z false (Sh.AF c).symm _ (AI AA)))
   ·refine ys g AA ?_;iterate 7 refine ys g rfl ?_
    refine yf g AA (yq tb AA ?_);iterate 8 refine ys rfl rfl ?_
    exact yf AA AA (BG (z false (Sh.AF c).symm _ (AI AA)))
  ·exact Ad (c1 () (Sh.AF a).symm _ (AI AA))
theorem Qa {N:Nat}{p0:(List AR)}{r:Bool}(h0:HE N p0=some r):Ay 173 [Df p0] [] (.bool r) []:=by
 unfold HE at h0;refine ai Tryz.func173 AA AA AA AA (zr tb AA AA (AD λD j=>sr AA λE k=>zq tb AA (zl tb AA AA (zq tb AA (dn k AA ?_)))));refine ci h0 AA ?_ ?_<;>intro F h0
 ·refine zr tb AA AA ?_;cases h0;exact rt [(2,.bool false)]
 ·refine AH (j _ (AD λq l=>zr tb AA AA ?_));obtain⟨b,a,h0⟩:=Sh.Ar h0;have m:∀(_:Unit),b=Sum.inr ()->∀s,Wk 0 s ⟨17,AM [],[]⟩->q s:=by
   intro _ G s t;subst b;refine l _ (AJ t (zr tb AA AA ?_));cases h0;exact rt [(2,.bool true)]
  refine AK (AT (σ:=Int) (λn v=>Dj N p0 n v=some b) (λo=>⟨17,AM [(0,ls Ak p0),(3,i64 o)],[]⟩) N 0 a (AI AA) (λ_ p=>by rw[Dj]at p;cases p) ?_);rintro n o a;rw[Dj]at a;refine AD λu c=>sr AA λx d=>zm tb 2 AA (zl tb AA AA (zq tb AA (dn d AA ?_)));refine ci a AA ?_ ?_<;>intro y a
  ·refine AH (c _ (AD λz e=>AK (sr AA λA f=>zm tb 2 AA (bs a λg h a=>zc (hb 232) (RE h) rfl AA AA (zq tb AA (dn f AA ?_))))));refine ci a AA ?_ ?_<;>intro i a
   ·have B:g=false:=by simpa using i
    refine zr tb AA AA ?_;cases a;cases h0;exact rt [(2,.bool false)]
   ·have C:g=true:=by simpa using i
    exact AH (e _ (AG AA (zm tb 3 AA (AE (xi (Sh.w (o+1)) a (AI AA))))))
  ·exact Ad (m () (Sh.AF a).symm _ (AI AA))
theorem Q2 {N:Nat}{p0:Dg}{r:Bool}(h0:Hv N p0=some r):Ay 108 [.agg [Df p0.decls,ls Hd p0.funcs]] [] (.bool r) []:=by
 unfold Hv at h0;refine ai Tryz.func108 AA AA AA AA (sr AA λK1 I=>Az (m:=0) AN AA AA AA AA AA (zq tb AA (dn I AA (AD λK2 J=>AD λX K=>bs h0 λU a h0=>?_))));have V:∀L,U=L->∀s,Wk 0 s ⟨64,AM [(1,BL),(15,.bool L)],[iW p0.decls p0.funcs]⟩->X s:=by
  intro L M s j;subst U;refine K _ (AJ j ?_);refine ci h0 AA ?_ ?_<;>intro b6 h0
  ·refine zr tb AA AA ?_;cases h0;exact rd [(2,.bool false)]
  ·refine AH (J _ (AD λY O=>zr tb AA AA ?_));obtain⟨k,a,h0⟩:=Sh.Ar h0;have P:∀(_:Unit),k=Sum.inr ()->∀s,Wk 0 s ⟨64,AM [(1,BL)],[iW p0.decls p0.funcs]⟩->Y s:=by
    intro _ M s j;subst k;refine O _ (AJ j (AD λQ p=>bs h0 λq a h0=>?_));have t:∀g,q=g->∀s,Wk 0 s ⟨64,AM [(2,.bool g)],[]⟩->Q s:=by
     intro g M s j;subst q;try dsimp only at h0
     refine p _ (AJ j ?_);obtain rfl:=Sh.AF h0;exact rt [(2,.bool g)]
    refine AG AA (zm tb 2 AA (bs a λu i a=>zx XT i AA AA AA (zm tb 2 AA (zl tb AA AA (zm tb 2 AA ?_)))));rcases Sh.Ab a with ⟨d,a⟩|⟨d,a⟩
    ·refine zg tb d AA (zg tb d AA (At (v:=(.Bz (Hd u) 0)) (BI AA AA d) rfl (Bi XT AA AA i AA) ?_));iterate 3 refine zg tb d rfl ?_
     exact zt d AA (zq tb AA (AE (t (decide (u.result=0)) (Sh.AF a).symm _ (BD _ AA))))
    ·refine zs d AA ?_;iterate 5 refine zs d rfl ?_
     exact zf d AA (zq tb AA (AE (t false (Sh.AF a).symm _ (BD _ AA))))
   refine AK (AT (σ:=Int) (λn v=>DT N p0 n v=some k) (λh=>⟨64,AM [(1,.ptr 0 0 0 0),(3,i64 h)],[iW p0.decls p0.funcs]⟩) N 0 a (AI AA) (λ_ W=>by rw[DT]at W;cases W) ?_);rintro n h a;rw[DT]at a;refine AD λZ x=>sr AA λb0 y=>zm tb 3 AA (zl tb AA AA (zq tb AA (dn y AA ?_)));refine ci a AA ?_ ?_<;>intro b1 a
   ·refine AH (x _ (AD λb2 z=>AK (sr AA λb3 A=>zm tb 3 AA (bs a λb4 B a=>zx XT B AA AA AA (zq tb AA (Aj (m:=1) AN jO AA AA (Al AN lk AA AA AA AA AA AA qi rfl (dn A AA (AD λR C=>bs a λD f a=>?_)))))))));have l:∀o,D=o->∀s,Wk 0 s ⟨64,AM [(1,BL),(3,i64 h),(48,.bool o)],[iW p0.decls p0.funcs]⟩->R s:=by
     intro o M s j;subst D;refine C _ (AJ j ?_);refine ci a AA ?_ ?_<;>intro b5 a
     ·refine zr tb AA AA ?_;cases a;cases h0;exact rd [(2,.bool false)]
     ·exact AH (z _ (AG AA (zm tb 3 AA (AE (xi (Sh.w (h+1)) a (AI AA))))))
    refine AG AA (zm tb 2 AA (zl tb AA AA (zm tb 2 AA ?_)));rcases Sh.Ab f with ⟨e,f⟩|⟨e,f⟩
    ·refine zs e AA ?_;iterate 5 refine zs e rfl ?_
     refine zt e AA (zq tb AA ?_);iterate 7 refine zs rfl rfl ?_
     exact zt AA AA (AE (l true (Sh.AF f).symm _ (Ag [0] AA AA (.w .nil) (.same AA))))
    ·refine zg tb e AA ?_;iterate 3 refine zg tb e rfl ?_
     refine bs f λb7 E f=>zd e (hb 175) (Mj E) rfl AA AA AA (zg tb e AA (zf e AA (zq tb AA ?_)));rcases Sh.Ab f with ⟨b,f⟩|⟨b,f⟩
     ·refine zs b AA ?_;iterate 6 refine zs b rfl ?_
      exact zt b AA (AE (l true (Sh.AF f).symm _ (Ag [0] AA AA (.w .nil) (.same AA))))
     ·refine zg tb b AA ?_;iterate 3 refine zg tb b rfl ?_
      exact At (v:=(Fb p0.decls)) (BI AA AA b) rfl (Bo Sd AA) (bs f λS F f=>zd b (hb 174) (BZ F) rfl AA AA AA (zg tb b AA (zf b AA (AE (l (!S) (Sh.AF f).symm _ (Ag [0] AA AA (.w .nil) (.same AA)))))))
   ·exact Ad (P () (Sh.AF a).symm _ (AI AA))
 refine AG AA (zm tb 2 AA (bs a λb8 G a=>zc (hb 173) (Qa G) rfl AA AA (zm tb 2 AA ?_)));rcases Sh.Ab a with ⟨c,a⟩|⟨c,a⟩
 ·refine zs c AA ?_;iterate 4 refine zs c rfl ?_
  exact zt c AA (AE (V true (Sh.AF a).symm _ (AI AA)))
 ·exact zg tb c AA (zg tb c AA (At (v:=(i64 (Sh.len p0.funcs))) (BI AA AA c) rfl (Bo lH AA) (bs a λT H a=>zd c (hb 174) (BZ H) rfl AA AA AA (zg tb c AA (zf c AA (AE (V (!T) (Sh.AF a).symm _ (AI AA))))))))
theorem RZ {N:Nat}{p0:(List Int)}{p1:(List Int)}{r:Bool}(h0:Hq N p0 p1=some r):Ay 193 [ls eI p0,ls eI p1] [] (.bool r) []:=by
 unfold Hq at h0;refine ai Tryz.func193 AA AA AA AA (zr tb AA AA (AD λF u=>zr tb AA AA ?_));obtain⟨x,e,h0⟩:=Sh.Ar h0;have G:∀(_:Unit),x=Sum.inr ()->∀s,Wk 0 s ⟨47,AM [],[]⟩->F s:=by
  intro _ H s y;subst x;refine u _ (AJ y (zr tb AA AA ?_));cases h0;exact rt [(4,.bool true)]
 refine AK (AT (σ:=Int) (λn v=>ED p0 p1 n v=some x) (λt=>⟨47,AM [(0,ls eI p0),(1,ls eI p1),(5,i64 t)],[]⟩) N 0 e (AI AA) (λ_ E=>by rw[ED]at E;cases E) ?_);rintro n t e;rw[ED]at e;refine AD λK z=>sr AA λL A=>zm tb 2 AA (zl tb AA AA (zq tb AA (dn A AA ?_)));refine ci e AA ?_ ?_<;>intro M e
 ·refine AH (z _ (AD λI k=>AK (AD λB l=>bs e λm d e=>?_)));have g:∀i,m=i->∀s,Wk 0 s ⟨47,AM [(0,ls eI p0),(1,ls eI p1),(5,i64 t),(46,.bool i)],[]⟩->B s:=by
   intro i H s y;subst m;refine l _ (AJ y ?_);refine ci e AA ?_ ?_<;>intro J e
   ·refine zr tb AA AA ?_;cases e;cases h0;exact rt [(4,.bool false)]
   ·exact AH (k _ (AG AA (zm tb 3 AA (AE (xi (Sh.w (t+1)) e (AI AA))))))
  refine Bv (by kernel_rfl) (by kernel_rfl) (by rfl) ?_;iterate 2 refine yq tb rfl ?_
  refine bs d λh f d=>yx BH f AA AA AA ?_;iterate 2 refine yq tb rfl ?_
  refine yl tb AA AA (yq tb AA (bs d λC o d=>CU (v:=(.bool C)) AN (hb 174) (BZ o) rfl AA AA ?_));iterate 2 refine yq tb rfl ?_
  rcases Sh.Ab d with ⟨a,d⟩|⟨a,d⟩
  ·refine ys a AA ?_;iterate 7 refine ys a rfl ?_
   refine yt a AA (yq tb AA ?_);iterate 3 refine ys rfl rfl ?_
   iterate 10 refine yn rfl ?_
   exact ys AA AA (yt AA AA (BG (g true (Sh.AF d).symm _ (AI AA))))
  ·refine yg tb a AA ?_;iterate 2 refine yg tb a rfl ?_
   refine JY (v:=(LV h)) (BI AA AA a) rfl (Bi BH AA AA f AA) (yg tb a AA (bs d λD p d=>JY (v:=(LV D)) (BI AA AA a) rfl (Bi BH AA AA p AA) ?_));iterate 2 refine yg tb a rfl ?_
   refine yf a AA (yq tb AA ?_);rcases Sh.Ab d with ⟨b,d⟩|⟨b,d⟩
   ·refine ys b AA ?_;iterate 2 refine ys b rfl ?_
    iterate 10 refine yn rfl ?_
    exact ys b AA (yt b AA (BG (g true (Sh.AF d).symm _ (AI AA))))
   ·refine yg tb b AA ?_;iterate 2 refine yg tb b rfl ?_
    rcases Sh.Ab d with ⟨c,d⟩|⟨c,d⟩
    ·refine yg tb c AA (yg tb c AA (JY (v:=(LV h)) (BI AA AA c) rfl (Bi BH AA AA f AA) ?_));iterate 4 refine yg tb c rfl ?_
     refine bs d λj q d=>JY (v:=(LV j)) (BI AA AA c) rfl (Bi BH AA AA q AA) ?_;iterate 2 refine yg tb c rfl ?_
     exact JY (v:=(.bool (decide (h<=j)))) (BI AA AA b) rfl (Ee AA c AA) (yf b AA (BG (g (decide (h<=j)) (Sh.AF d).symm _ (AI AA))))
    ·refine ys c AA ?_;iterate 9 refine ys c rfl ?_
     exact JY (v:=(.bool false)) (BI AA AA b) rfl (D6 AA c AA) (yf b AA (BG (g false (Sh.AF d).symm _ (AI AA))))
 ·exact Ad (G () (Sh.AF e).symm _ (AI AA))
theorem NG {N:Nat}{p0:AL}{r:Bool}(h0:FR N p0=some r):Ay 126 [Ej p0] [] (.bool r) []:=by
 unfold FR at h0;refine ai Tryz.func126 AA AA AA AA (sr AA λS t=>Az (m:=0) AN AA AA AA AA AA (zq tb AA (dn t AA (AD λT u=>AD λG x=>bs h0 λD a h0=>?_))));have E:∀y,D=y->∀s,Wk 0 s ⟨35,AM [(1,BL),(13,.bool y)],[Qk p0.decls p0.AB]⟩->G s:=by
  intro y H s z;subst D;refine x _ (AJ z ?_);refine ci h0 AA ?_ ?_<;>intro U h0
  ·refine zr tb AA AA ?_;cases h0;exact rd [(2,.bool false)]
  ·refine AH (u _ (AD λI A=>zr tb AA AA ?_));obtain⟨d,a,h0⟩:=Sh.Ar h0;have B:∀(_:Unit),d=Sum.inr ()->∀s,Wk 0 s ⟨35,AM [],[]⟩->I s:=by
    intro _ H s z;subst d;refine A _ (AJ z (zr tb AA AA ?_));cases h0;exact rt [(2,.bool true)]
   refine AK (AT (σ:=Int) (λn v=>CD N p0 n v=some d) (λe=>⟨35,AM [(1,.ptr 0 0 0 0),(3,i64 e)],[Qk p0.decls p0.AB]⟩) N 0 a (AI AA) (λ_ F=>by rw[CD]at F;cases F) ?_);rintro n e a;rw[CD]at a;refine AD λJ g=>sr AA λK h=>zm tb 3 AA (zl tb AA AA (zq tb AA (dn h AA ?_)));refine ci a AA ?_ ?_<;>intro L a
   ·refine AH (g _ (AD λM i=>AK (AD λO j=>Bv (by kernel_rfl) (by kernel_rfl) (by rfl) ?_)));iterate 3 refine yq tb rfl ?_
    refine bs a λP c a=>yx Ez c AA AA AA ?_;iterate 5 refine yq tb rfl ?_
    refine yx Ez c AA AA AA ?_;iterate 2 refine yq tb rfl ?_
    refine bs a λf k a=>CU (v:=(.bool f)) AN (hb 193) (RZ k) rfl AA AA (yq tb AA (BG (j _ ?_)));refine ci a AA ?_ ?_<;>intro l a
    ·have Q:f=false:=by simpa using l
     refine zr tb AA AA ?_;cases a;cases h0;exact rd [(2,.bool false)]
    ·have R:f=true:=by simpa using l
     exact AH (i _ (AG AA (zm tb 3 AA (AE (xi (Sh.w (e+1)) a (AI AA))))))
   ·exact Ad (B () (Sh.AF a).symm _ (BD _ AA))
 refine AG AA (zm tb 2 AA (zl tb AA AA (zm tb 2 AA ?_)));rcases Sh.Ab a with ⟨b,a⟩|⟨b,a⟩
 ·refine zs b AA ?_;iterate 3 refine zs b rfl ?_
  exact zt b AA (AE (E true (Sh.AF a).symm _ (AI AA)))
 ·exact zg tb b AA (bs a λo p a=>zd (v':=(.agg [Df o.decls,ls Hd o.funcs])) b (hb 192) (UP p) rfl AA AA AA (bs a λC q a=>zd b (hb 108) (Q2 q) rfl AA AA AA (zg tb b AA (zf b AA (AE (E (!C) (Sh.AF a).symm _ (AI AA)))))))
theorem PV {N:Nat}{rV:Block->Int->Option (Int)}(tV :∀{p0:Block} {p1:Int} {r:Int},rV p0 p1=some r->Ay 129 (Q8 p0 p1) [] (i64 r) []){p0:Block}{p1 r:Int}(h0:H5 N rV p0 p1=some r):Ay 129 (Q8 p0 p1) [] (i64 r) []:=by
 unfold H5 at h0;refine ai Tryz.func129 AA AA AA AA (sr AA λY B=>Az (m:=0) AN AA AA AA AA AA (zq tb AA (dn B AA (AD λJ C=>zr tb AA AA ?_))));obtain⟨D,f,h0⟩:=Sh.Ar h0;have K:∀(b:Int),D=Sum.inr b->∀s,Wk 0 s ⟨43,AM [(1,i64 b)],[]⟩->J s:=by
  intro b L s E;subst D;try dsimp only at h0
  refine C _ (AJ E (zr tb AA AA ?_));obtain rfl:=Sh.AF h0;exact rt [(4,i64 b)]
 refine AK (AT (σ:=Int×Int) (λn v=>Cr N p0 rV n v.1 v.2=some D) (λ(c,j)=>⟨43,AM [(1,i64 c),(2,.ptr 0 0 0 0),(5,i64 j)],[Ra p0.steps p0.result]⟩) N (p1,0) f (AI AA) (λ_ k=>by rw[Cr]at k;cases k) ?_);rintro n ⟨c,j⟩ f;rw[Cr]at f;refine AD λZ F=>sr AA λM l=>zm tb 3 AA (zl tb AA AA (zq tb AA (dn l AA ?_)));refine ci f AA ?_ ?_<;>intro O f
 ·refine AH (F _ (AD λG o=>AK (AD λP p=>zr tb AA AA ?_)));refine ci f AA ?_ ?_<;>intro Q f
  ·refine zr tb AA AA ?_;cases f;cases h0;exact rd [(4,i64 (-1))]
  ·refine AH (p _ ?_);iterate 2 refine zr tb rfl rfl ?_
   obtain⟨h,d,f⟩:=Sh.Ar f;have H:∀(a:Int),h=Sum.inr a->∀s,Wk 0 s ⟨43,AM [(1,i64 a),(2,BL),(5,i64 j)],[Ra p0.steps p0.result]⟩->G s:=by
    intro a L s E;subst h;exact o _ (AJ E (AG AA (zm tb 3 AA (AE (xi (a,Sh.w (j+1)) f (AI AA))))))
   refine AK (AT (σ:=Int×Int) (λn v=>Co j p0 rV n v.1 v.2=some h) (λ(e,i)=>⟨43,AM [(1,i64 e),(2,.ptr 0 0 0 0),(5,i64 j),(6,i64 i)],[Ra p0.steps p0.result]⟩) N (Sh.w (c-1),0) d (AI AA) (λ_ k=>by rw[Co]at k;cases k) ?_);rintro n ⟨e,i⟩ d;rw[Co]at d;refine AD λR q=>sr AA λS t=>zm tb 4 AA (bs d λu g d=>zz (Jo u) (Cp FM AA AA g (Be _) rfl) rfl (zm tb 2 AA (zl tb AA AA (zq tb AA (dn t AA ?_)))));refine ci d AA ?_ ?_<;>intro T d
   ·refine AH (q _ (AD λU x=>AK (sr AA λV y=>zm tb 3 AA (zz (Jo u) (Cp FM AA AA g (Be _) rfl) rfl (zm tb 3 AA (bs d λW z d=>zx Hs z AA AA AA (zm tb 2 AA (bs d λI A d=>zc (hb 129) (tV A) rfl AA AA (zq tb AA (dn y AA (zr tb AA AA ?_)))))))))));refine ci d AA ?_ ?_<;>intro X d
    ·refine zr tb AA AA ?_;cases d;cases f;cases h0;exact rd [(4,i64 (-1))]
    ·exact AH (x _ (AG AA (zm tb 3 AA (AE (xi (I,Sh.w (i+1)) d (AI AA))))))
   ·exact Ad (H e (Sh.AF d).symm _ (AI AA))
 ·exact Ad (K c (Sh.AF f).symm _ (BD _ AA))
theorem PN {N:Nat}:∀(n:Nat),∀{p0:Block} {p1:Int} {r:Int},FK N n p0 p1=some r->Ay 129 (Q8 p0 p1) [] (i64 r) []:=by
 intro n
 induction n with
 | zero=>intro p0 p1 r a;cases a
 | succ n ih=>
  intro p0 p1 r a;rw[FK]at a;exact PV (λh=>ih h) a
theorem RQ {N:Nat}:∀{p0:Block} {p1:Int} {r:Int},Lb N p0 p1=some r->Ay 129 (Q8 p0 p1) [] (i64 r) []:=by
 intro p0 p1 r a;exact PN N a
theorem S4 {N:Nat}{p0:Block}{r:Int}(h0:JD N p0=some r):Ay 70 [DS p0] [] (i64 r) []:=by
 unfold JD at h0;refine ai Tryz.func70 AA AA AA AA (sr AA λf a=>Az (m:=0) AN AA AA AA AA AA (zq tb AA (dn a AA (sr AA λg b=>zq tb AA (bs h0 λe c h0=>zc (hb 129) (RQ c) rfl AA AA (zq tb AA (dn b AA (AD λh d=>zr tb AA AA ?_))))))));refine ci h0 AA ?_ ?_<;>intro i h0
 ·refine zr tb AA AA ?_;cases h0;exact rd [(2,i64 (-1))]
 ·refine AH (d _ (zr tb AA AA ?_));cases h0;exact rd [(2,i64 (Sh.w (600-e)))]
theorem F3 {p0:(List Int)}{r:(List Int)}(h0:Dc p0=some r):Ay 113 [ls eI p0] [] (ow 0 0 r) [Bw r]:=by
 unfold Dc at h0;refine ai Tryz.func113 AA AA AA AA (zr tb AA AA (sr AA λd a=>Cn (m:=0) (l:=([]:List Int)) (enc:=eI) AN BH (by decide) rfl AA AA AA AA AA (zq tb AA (bs h0 λc b h0=>EI (l2:=p0) AN BH AA AA AA AA OV (λ_=>AA) b AA (zq tb AA (dn a AA ?_))))));obtain rfl:=Sh.AF h0;exact BB (xr (CP (L:=[(2,ow 0 0 c)]) (st':=[Bw c]) (.pure (Ac λ_=>AA) .nil) (.same AA)))
theorem UA {p0:Int}{r:Bool}(h0:Ii p0=some r):Ay 242 [i64 p0] [] (.bool r) []:=by
 unfold Ii at h0;refine ai Tryz.func242 AA AA AA AA (zr tb AA AA (AD λj h=>bs h0 λi a h0=>?_));have f:∀g,i=g->∀s,Wk 0 s ⟨21,AM [(2,.bool g)],[]⟩->j s:=by
  intro g l s k;subst i;try dsimp only at h0
  refine h _ (AJ k ?_);obtain rfl:=Sh.AF h0;exact rt [(2,.bool g)]
 refine AG AA (zm tb 3 AA ?_);rcases Sh.Ab a with ⟨b,a⟩|⟨b,a⟩
 ·exact zs b AA (zs b AA (zt b AA (zq tb AA (zs AA AA (zs AA AA (zt AA AA (zq tb AA (zs AA AA (zs AA AA (zt AA AA (zq tb AA (zs AA AA (zs AA AA (zt AA AA (zq tb AA (AE (f true (Sh.AF a).symm _ (AI AA))))))))))))))))))
 ·refine zg tb b AA (zg tb b AA (zf b AA (zq tb AA ?_)));rcases Sh.Ab a with ⟨c,a⟩|⟨c,a⟩
  ·exact zs c AA (zs c AA (zt c AA (zq tb AA (zs AA AA (zs AA AA (zt AA AA (zq tb AA (zs AA AA (zs AA AA (zt AA AA (zq tb AA (AE (f true (Sh.AF a).symm _ (AI AA))))))))))))))
  ·refine zg tb c AA (zg tb c AA (zf c AA (zq tb AA ?_)));rcases Sh.Ab a with ⟨d,a⟩|⟨d,a⟩
   ·exact zs d AA (zs d AA (zt d AA (zq tb AA (zs AA AA (zs AA AA (zt AA AA (zq tb AA (AE (f true (Sh.AF a).symm _ (AI AA))))))))))
   ·refine zg tb d AA (zg tb d AA (zf d AA (zq tb AA ?_)));rcases Sh.Ab a with ⟨e,a⟩|⟨e,a⟩
    ·exact zs e AA (zs e AA (zt e AA (zq tb AA (AE (f true (Sh.AF a).symm _ (AI AA))))))
    ·exact zg tb e AA (zg tb e AA (zf e AA (zq tb AA (AE (f (decide (p0=10)) (Sh.AF a).symm _ (AI AA))))))
theorem Lw {p0:(List Int)}{p1:Step}{r:Bool}(h0:BP p0 p1=some r):Ay 243 [ls eI p0,Od p1] [] (.bool r) []:=by
 unfold BP at h0;refine ai Tryz.func243 AA AA AA AA (sr AA λq h=>Az (m:=0) AN AA AA AA AA AA (zq tb AA (dn h AA (AD λt i=>zr tb AA AA ?_))));refine ci h0 AA ?_ ?_<;>intro u h0
 ·refine zr tb AA AA ?_;cases h0;exact rd [(4,.bool true)]
 ·refine AH (i _ (AD λn j=>bs h0 λl b h0=>?_));have k:∀g,l=g->∀s,Wk 0 s ⟨27,AM [(4,.bool g)],[]⟩->n s:=by
   intro g w s o;subst l;try dsimp only at h0
   refine j _ (AJ o ?_);obtain rfl:=Sh.AF h0;exact rt [(4,.bool g)]
  refine AG AA (zm tb 4 AA ?_);rcases Sh.Ab b with ⟨c,b⟩|⟨c,b⟩
  ·refine zg tb c AA (zg tb c AA (zg tb c AA (At (v:=(Fb p0)) (BI AA AA c) rfl (Bo Hh AA) (bs b λp d b=>zd c (hb 174) (BZ d) rfl AA AA AA (zt c AA (zq tb AA ?_))))));rcases Sh.Ab b with ⟨a,b⟩|⟨a,b⟩
   ·refine zg tb a AA ?_;iterate 3 refine zg tb a rfl ?_
    exact bs b λe f b=>At (v:=(LV e)) (BI AA AA a) rfl (Bi BH AA AA f AA) (zg tb a AA (zg tb a AA (zt a AA (zq tb AA (AE (k (decide (0<e)) (Sh.AF b).symm _ (BD _ AA)))))))
   ·refine zs a AA ?_;iterate 6 refine zs a rfl ?_
    exact zf a AA (zq tb AA (AE (k false (Sh.AF b).symm _ (BD _ AA))))
  ·refine zs c AA ?_;iterate 4 refine zs c rfl ?_
   refine zf c AA (zq tb AA ?_);iterate 7 refine zs rfl rfl ?_
   exact zf AA AA (zq tb AA (AE (k false (Sh.AF b).symm _ (BD _ AA))))
theorem Fh {N:Nat}{p0:(List Int)}{p1:(List Int)}{p2:(List Int)}{r:Bool}(h0:Bd N p0 p1 p2=some r):Ay 244 [ls eI p0,ls eI p1,ls eI p2] [] (.bool r) []:=by
 unfold Bd at h0;refine ai Tryz.func244 AA AA AA AA (zr tb AA AA (AD λP x=>sr AA λQ y=>zq tb AA (zl tb AA AA (zq tb AA (zl tb AA AA (zq tb AA (dn y AA ?_)))))));refine ci h0 AA ?_ ?_<;>intro F h0
 ·have R:decide ((Sh.len p1)=(Sh.len p2))=false:=by simpa using F
  refine zr tb AA AA ?_;cases h0;exact rt [(6,.bool false)]
 ·have S:decide ((Sh.len p1)=(Sh.len p2))=true:=by simpa using F
  refine AH (x _ (AD λH z=>zr tb AA AA ?_));obtain⟨f,b,h0⟩:=Sh.Ar h0;have A:∀(_:Unit),f=Sum.inr ()->∀s,Wk 0 s ⟨42,AM [],[]⟩->H s:=by
   intro _ I s B;subst f;refine z _ (AJ B (zr tb AA AA ?_));cases h0;exact rt [(6,.bool true)]
  refine AK (AT (σ:=Int) (λn v=>Fx p0 p1 p2 n v=some f) (λd=>⟨42,AM [(0,ls eI p0),(1,ls eI p1),(2,ls eI p2),(7,i64 d)],[]⟩) N 0 b (AI AA) (λ_ G=>by rw[Fx]at G;cases G) ?_);rintro n d b;rw[Fx]at b;refine AD λJ h=>sr AA λK i=>zm tb 2 AA (zl tb AA AA (zq tb AA (dn i AA ?_)));refine ci b AA ?_ ?_<;>intro L b
  ·refine AH (h _ (AD λM j=>AK (AD λC k=>bs b λl c b=>?_)));have m:∀g,l=g->∀s,Wk 0 s ⟨42,AM [(0,ls eI p0),(1,ls eI p1),(2,ls eI p2),(7,i64 d),(41,.bool g)],[]⟩->C s:=by
    intro g I s B;subst l;refine k _ (AJ B ?_);refine ci b AA ?_ ?_<;>intro O b
    ·refine zr tb AA AA ?_;cases b;cases h0;exact rt [(6,.bool false)]
    ·exact AH (j _ (AG AA (zm tb 3 AA (AE (xi (Sh.w (d+1)) b (AI AA))))))
   refine Bv (by kernel_rfl) (by kernel_rfl) (by rfl) ?_;iterate 2 refine yq tb rfl ?_
   refine bs c λD e c=>yx BH e AA AA AA ?_;iterate 2 refine yq tb rfl ?_
   refine yl tb AA AA (yq tb AA (bs c λE o c=>CU (v:=(.bool E)) AN (hb 174) (BZ o) rfl AA AA ?_));iterate 2 refine yq tb rfl ?_
   rcases Sh.Ab c with ⟨a,c⟩|⟨a,c⟩
   ·refine ys a AA ?_;iterate 11 refine ys a rfl ?_
    exact yt a AA (BG (m true (Sh.AF c).symm _ (AI AA)))
   ·refine yg tb a AA ?_;iterate 2 refine yg tb a rfl ?_
    refine JY (v:=(LV D)) (BI AA AA a) rfl (Bi BH AA AA e AA) (yg tb a AA (bs c λp q c=>JY (v:=(LV p)) (BI AA AA a) rfl (Bi BH AA AA q AA) ?_));iterate 3 refine yg tb a rfl ?_
    refine bs c λt u c=>JY (v:=(LV t)) (BI AA AA a) rfl (Bi BH AA AA u AA) ?_;iterate 2 refine yg tb a rfl ?_
    exact yf a AA (BG (m (!decide (p=t)) (Sh.AF c).symm _ (AI AA)))
  ·exact Ad (A () (Sh.AF b).symm _ (AI AA))
theorem Jt {N:Nat}{p0:(List AR)}{p1 r:Int}(h0:GU N p0 p1=some r):Ay 233 (S8 p0 p1) [] (i64 r) []:=by
 unfold GU at h0;refine ai Tryz.func233 AA AA AA AA ?_;iterate 2 refine zr tb rfl rfl ?_
 refine AD λj e=>zr tb AA AA (bs h0 λf a h0=>?_);have k:∀n7,f=n7->∀s,Wk 0 s ⟨21,AM [(5,i64 n7)],[]⟩->j s:=by
  intro n7 q s l;subst f;try dsimp only at h0
  refine e _ (AJ l (zr tb AA AA ?_));obtain rfl:=Sh.AF h0;exact rt [(4,i64 n7)]
 refine AK (AT (σ:=Int×Int) (λn v=>D4 p0 p1 n v.1 v.2=some f) (λ(n5,g)=>⟨21,AM [(0,ls Ak p0),(1,i64 p1),(5,i64 n5),(6,i64 g)],[]⟩) N (0,0) a (AI AA) (λ_ i=>by rw[D4]at i;cases i) ?_);rintro n ⟨n5,g⟩ a;rw[D4]at a;refine AD λm b=>zr tb AA AA ?_;refine ci a AA ?_ ?_<;>intro o a
 ·exact AH (b _ (AD λp c=>AK (AG AA (zm tb 3 AA (bs a λh d a=>zx DZ d AA AA AA (zm tb 2 AA (zl tb AA AA (zm tb 2 AA (dn c AA (AG AA (zm tb 3 AA (AE (xi (Sh.w (n5+(Sh.len h.cons)),Sh.w (g+1)) a (AI AA))))))))))))))
 ·exact Ad (k n5 (Sh.AF a).symm _ (AI AA))
theorem KZ {N:Nat}{p0:(List AR)}{p1 r:Int}(h0:Cx N p0 p1=some r):Ay 178 (S8 p0 p1) [] (i64 r) []:=by
 unfold Cx at h0;refine ai Tryz.func178 AA AA AA AA (zr tb AA AA (AD λo i=>zr tb AA AA ?_));obtain⟨j,a,h0⟩:=Sh.Ar h0;have p:∀(_:Unit),j=Sum.inr ()->∀s,Wk 0 s ⟨30,AM [],[]⟩->o s:=by
  intro _ C s q;subst j;refine i _ (AJ q (zr tb AA AA ?_));cases h0;exact rt [(4,i64 (-1))]
 refine AK (AT (σ:=Int) (λn v=>DF N p0 p1 n v=some j) (λh=>⟨30,AM [(0,ls Ak p0),(1,i64 p1),(5,i64 h)],[]⟩) N 0 a (AI AA) (λ_ m=>by rw[DF]at m;cases m) ?_);rintro n h a;rw[DF]at a;refine AD λD k=>sr AA λE l=>zm tb 2 AA (zl tb AA AA (zq tb AA (dn l AA ?_)));refine ci a AA ?_ ?_<;>intro F a
 ·refine AH (k _ (AD λt b=>AK (sr AA λu c=>zm tb 2 AA (bs a λx d a=>zc (hb 233) (Jt d) rfl AA AA (zq tb AA (dn c AA (sr AA λy e=>zm tb 5 AA (bs a λz f a=>zx DZ f AA AA AA (zm tb 2 AA (zl tb AA AA (zm tb 2 AA (bs a λA g a=>zc (hb 174) (BZ g) rfl AA AA (dn e AA ?_)))))))))))));refine ci a AA ?_ ?_<;>intro B a
  ·refine zr tb AA AA ?_;cases a;cases h0;exact rt [(4,MY h)]
  ·exact AH (b _ (AG AA (zm tb 3 AA (AE (xi (Sh.w (h+1)) a (AI AA))))))
 ·exact Ad (p () (Sh.AF a).symm _ (AI AA))
theorem MB {N:Nat}{p0:(List AR)}{p1:Int}{r:(List Int)}(h0:B5 N p0 p1=some r):Ay 180 (S8 p0 p1) [] (ls eI r) []:=by
 unfold B5 at h0;refine ai Tryz.func180 AA AA AA AA (zr tb AA AA (sr AA λk c=>zm tb 2 AA (bs h0 λn d h0=>zc (hb 178) (KZ d) rfl AA AA (zq tb AA (dn c AA (AD λo e=>zr tb AA AA ?_))))));refine ci h0 AA ?_ ?_<;>intro p h0
 ·refine sr AA λq f=>Cn (m:=0) (l:=([]:List Int)) (enc:=eI) AN BH (by decide) rfl AA AA AA AA AA (zq tb AA (dn f AA ?_));cases h0;exact BB (Exists.intro ⟨27,AM [(4,bc)],[]⟩ (And.intro (by refine Wk.trans (Wk.Ct (L:=[(4,bc)]) (st':=bG) (id:=0) rfl qq (Ac λ_=>AA) ⟨.Ct AA,mV⟩ AA) ?_;exact Ag [] AA AA .nil (.same AA)) (And.intro AA AA)))
 ·refine AH (e _ (AD λs g=>Bv (by kernel_rfl) (by kernel_rfl) (by rfl) ?_));iterate 3 refine yq tb rfl ?_
  refine bs h0 λt h h0=>yx DZ h AA AA AA ?_;iterate 6 refine yq tb rfl ?_
  refine bs h0 λi a h0=>CU (v:=(i64 i)) AN (hb 233) (Jt a) rfl AA AA (yq tb AA (bs h0 λj b h0=>yx HC b AA AA AA ?_));iterate 3 refine yq tb rfl ?_
  refine BG (g _ ?_);cases h0;exact rt [(4,ls eI j.fields)]
theorem UU {N:Nat}{p0:(List AR)}{p1:Int}{r:(List Int)}(h0:J2 N p0 p1=some r):Ay 234 (S8 p0 p1) [] (ow 0 0 r) [Bw r]:=by
 unfold J2 at h0;refine ai Tryz.func234 AA AA AA AA (zr tb AA AA (sr AA λK t=>Cn (m:=0) (l:=([]:List Int)) (enc:=eI) AN BH (by decide) rfl AA AA AA AA AA (zq tb AA (dn t AA (AD λM u=>sr AA λO x=>zm tb 2 AA (zl tb AA AA (bs h0 λB y h0=>zc (hb 174) (BZ y) rfl AA AA (zq tb AA (dn x AA ?_)))))))));refine ci h0 AA ?_ ?_<;>intro C h0
 ·have P:B=false:=by simpa using C
  refine zr tb AA AA ?_;cases h0;exact rt [(4,Zv)]
 ·have Q:B=true:=by simpa using C
  refine AH (u _ (AD λz h=>zr tb AA AA (bs h0 λe a h0=>?_)));have A:∀c,e=c->∀s,Wk 0 s ⟨35,AM [(5,ow 0 0 c)],[Bw c]⟩->z s:=by
   intro c R s E;subst e;try dsimp only at h0
   refine h _ (AJ E (zr tb AA AA ?_));obtain rfl:=Sh.AF h0;exact rt [(4,ow 0 0 c)]
  refine AK (AT (σ:=Int×(List Int)) (λn v=>Es N p0 p1 n v.1 v.2=some e) (λ(b,d)=>⟨35,AM [(0,ls Ak p0),(1,i64 p1),(5,ow 0 0 d),(6,i64 b)],[ro 0 3 1 eI d]⟩) N (0,[]) a (AI AA) (λ_ D=>by rw[Es]at D;cases D) ?_);rintro n ⟨b,d⟩ a;rw[Es]at a;refine AD λF i=>sr AA λG j=>zm tb 4 AA (bs a λH k a=>zx DZ k AA AA AA (zm tb 2 AA (zl tb AA AA (zq tb AA (dn j AA ?_)))));refine ci a AA ?_ ?_<;>intro I a
  ·refine AH (i _ (AD λJ o=>AK (AG AA (zm tb 4 AA (bs a λf p a=>zc (hb 233) (Jt p) rfl AA AA (zm tb 2 AA (Cn (m:=1) (l:=[Sh.w (f+b)]) (enc:=eI) AN BH (by decide) rfl AA AA AA AA AA (bs a λg q a=>EI (l2:=[Sh.w (f+b)]) AN BH AA AA AA AA (MQ AA AA) (λ_=>AA) q AA (zq tb AA (dn o AA (AG AA (zm tb 3 AA ?_))))))))))));exact AE (xi (Sh.w (b+1),g) a (by refine Wk.trans (CP (L:=[(0,Df p0),(1,i64 p1),(5,ow 0 0 g),(6,MY b)]) (st':=[Bw g,ro 0 3 1 eI [Sh.w (f+b)]]) (.pure (Ac λ_=>AA) (.pure (Ac λ_=>AA) .nil)) (.same AA)) ?_;exact Ag [0] AA AA (.p .nil) (.same AA)))
  ·exact Ad (A d (Sh.AF a).symm _ (AI AA))
theorem Ub {p0:(List Int)}{p1:(List Int)}{r:(List Int)}(h0:Ik p0 p1=some r):Ay 162 [ls eI p0,ls eI p1] [] (ow 0 0 r) [Bw r]:=by
 unfold Ik at h0;refine ai Tryz.func162 AA AA AA AA (zr tb AA AA (sr AA λf a=>zq tb AA (bs h0 λe b h0=>A8 (v':=(ow 0 0 e)) AN (hb 113) (F3 b) rfl AA ⟨(A9 λ_=>AA),mV⟩ AA AA (zq tb AA (bs h0 λd c h0=>EI (l2:=p1) AN BH AA AA AA AA OV (λ_=>AA) c AA (zq tb AA (dn a AA ?_)))))));obtain rfl:=Sh.AF h0;exact BB (xr (CP (L:=[(4,ow 0 0 d)]) (st':=[Bw d]) (.pure (Ac λ_=>AA) .nil) (.same AA)))
theorem Mq {N:Nat}{rG:AL->(List Int)->Block->Option (Int)}(rl :∀{p0:AL} {p1:(List Int)} {p2:Block} {r:Int},rG p0 p1 p2=some r->Ay 127 [Ej p0,ls eI p1,DS p2] [] (i64 r) []){p0:AL}{p1:(List Int)}{p2:Step}{r:Int}(h0:Ff N rG p0 p1 p2=some r):Ay 245 [Ej p0,ls eI p1,Od p2] [] (i64 r) []:=by
 unfold Ff at h0;refine ai Tryz.func245 AA AA AA AA (sr AA λK1 S=>Az (m:=0) AN AA AA AA AA AA (Az (m:=1) AN AA AA AA AA AA (zq tb AA (dn S AA (sr AA λK2 T=>zm tb 4 AA (bs h0 λh U h0=>A8 (v':=(ow 2 0 h)) AN (hb 234) (UU U) rfl AA ⟨(A9 λ_=>AA),mV⟩ AA AA (zq tb AA (dn T AA (sr AA λK4 V=>zq tb AA (zz (Fb h) (E9 Hh AA AA AA) rfl (zq tb AA (dn V AA (AD λK5 W=>bs h0 λo7 b h0=>?_)))))))))))));have M7:∀a,o7=a->∀s,Wk 0 s ⟨71,AM (LS p1 [(7,ow 2 0 h),(8,i64 a)]),Q9 p0 p2 [Bw h]⟩->K5 s:=by
  intro a R s l;subst o7;refine W _ (AJ l (AD λK8 X=>AD λK9 Y=>bs h0 λz b h0=>?_));have A:∀q,z=q->∀s,Wk 0 s ⟨71,AM (LS p1 [(7,ow 2 0 h),(8,i64 a),(31,.bool q)]),Q9 p0 p2 [Bw h]⟩->K9 s:=by
   intro q R s l;subst z;refine Y _ (AJ l ?_);refine ci h0 AA ?_ ?_<;>intro b5 h0
   ·refine zr tb AA AA ?_;cases h0;exact rd [(6,i64 (-1))]
   ·refine AH (X _ (zr tb AA AA (AD λZ B=>zr tb AA AA ?_)));obtain⟨t,b,h0⟩:=Sh.Ar h0;have b0:∀(o:Int),t=Sum.inr o->∀s,Wk 0 s ⟨71,AM [(9,i64 o)],[]⟩->Z s:=by
     intro o R s l;subst t;try dsimp only at h0
     refine B _ (AJ l (zr tb AA AA ?_));obtain rfl:=Sh.AF h0;exact rt [(6,i64 o)]
    refine AK (AT (σ:=Int×Int) (λn v=>Eh N a p0 p1 p2 h rG n v.1 v.2=some t) (λ(i,j)=>⟨71,AM [(1,ls eI p1),(3,.ptr 0 0 0 0),(5,.ptr 1 0 0 0),(7,ow 2 0 h),(8,i64 a),(9,i64 i),(10,i64 j)],[Qk p0.decls p0.AB,XY p2.op p2.num p2.A5 p2.args p2.kids,ro 0 3 1 eI h]⟩) N (0,0) b (AI AA) (λ_ hv=>by rw[Eh]at hv;cases hv) ?_);rintro n ⟨i,j⟩ b;rw[Eh]at b;refine AD λb6 C=>zr tb AA AA ?_;refine ci b AA ?_ ?_<;>intro b7 b
    ·refine AH (C _ (AD λb8 D=>AK (zr tb AA AA (AD λb1 E=>bs b λF e b=>?_))));have G:∀d,F=d->∀s,Wk 0 s ⟨71,AM (LS p1 [(7,ow 2 0 h),(8,i64 a),(9,i64 i),(10,i64 j),(11,ls eI d)]),Q9 p0 p2 [Bw h]⟩->b1 s:=by
      intro d R s l;subst F;refine E _ (AJ l (AD λb9 H=>Bv (by kernel_rfl) (by kernel_rfl) (by rfl) ?_));iterate 5 refine yq tb rfl ?_
      refine bs b λc0 I b=>yx Hs I AA AA AA (yq tb AA (bs b λk J b=>CU (v:=(i64 k)) AN (hb 127) (rl J) rfl AA AA (yq tb AA (BG (H _ (AD λc1 K=>AD λb2 M=>bs b λO e b=>?_))))));have u:∀x,O=x->∀s,Wk 0 s ⟨71,AM (LS p1 [(7,ow 2 0 h),(8,i64 a),(10,i64 j),(12,i64 k),(68,.bool x)]),Q9 p0 p2 [Bw h]⟩->b2 s:=by
       intro x R s l;subst O;refine M _ (AJ l ?_);refine ci b AA ?_ ?_<;>intro c2 b
       ·refine zr tb AA AA ?_;cases b;cases h0;exact rd [(6,i64 (-1))]
       ·exact AH (K _ (AG AA (zm tb 2 AA (dn D AA (AG AA (zm tb 3 AA (AE (xi (k,Sh.w (j+1)) b (AI AA)))))))))
      refine AG AA (zm tb 3 AA ?_);rcases Sh.Ab e with ⟨c,e⟩|⟨c,e⟩
      ·refine zs c AA (zs c AA (zs c AA ?_));iterate 3 refine zn rfl ?_
       exact zs c AA (zt c AA (AE (u true (Sh.AF e).symm _ (AI AA))))
      ·refine zg tb c AA (zg tb c AA (zg tb c AA ?_));rcases Sh.Ab e with ⟨g,e⟩|⟨g,e⟩
       ·exact zg tb g AA (zg tb g AA (zg tb g AA (At (v:=(.bool (!decide (k=i)))) (BI AA AA c) rfl (Ee AA g AA) (zf c AA (AE (u (!decide (k=i)) (Sh.AF e).symm _ (AI AA)))))))
       ·exact zs g AA (zs g AA (zs g AA (At (v:=(.bool false)) (BI AA AA c) rfl (D6 AA g AA) (zf c AA (AE (u false (Sh.AF e).symm _ (AI AA)))))))
     refine zr tb AA AA ?_;refine ci e AA ?_ ?_<;>intro c3 e
     ·refine B3 9 (by kernel_rfl) (by kernel_rfl) (by rfl) ?_;iterate 5 refine yq tb rfl ?_
      refine bs e λb3 p e=>yz (Xj j) (Ca BH AA AA AA AA p) rfl (yz (i64 b3) (DH Jy AA AA (GC p) rfl) rfl (bs e λb4 P e=>CU (v:=(ls eI b4)) AN (hb 180) (MB P) rfl AA AA (bs e λy Q e=>?_)));refine CU (v:=(ls eI y)) AN (hb 162) (BJ.wk (Ub Q) (by refine Wk.trans (Wk.Ct (L:=[(0,ls eI y)]) (st':=bG) (id:=0) rfl qq (Ac λ_=>AA) ⟨.Ct AA,mV⟩ AA) ?_;exact Ag [] AA AA .nil (.same AA))) rfl AA AA ?_;exact BG (zq tb AA (AE (G y (Sh.AF e).symm _ (AI AA))))
     ·exact AH (G p1 (Sh.AF e).symm _ (AI AA))
    ·exact Ad (b0 i (Sh.AF b).symm _ (BD _ AA))
  refine AG AA (zm tb 3 AA ?_);rcases Sh.Ab b with ⟨f,b⟩|⟨f,b⟩
  ·refine zs f AA ?_;iterate 4 refine zs f rfl ?_
   exact zt f AA (AE (A true (Sh.AF b).symm _ (AI AA)))
  ·exact zg tb f AA (zg tb f AA (At (v:=(Yn p2)) (BI AA AA f) rfl (Bo VQ AA) (zg tb f AA (zg tb f AA (zf f AA (AE (A (!decide ((Sh.len p2.kids)=a)) (Sh.AF b).symm _ (AI AA))))))))
 refine zr tb AA AA ?_;refine ci b AA ?_ ?_<;>intro c4 b
 ·exact AG AA (zq tb AA (AE (M7 2 (Sh.AF b).symm _ (AI AA))))
 ·exact AH (M7 (Sh.len h) (Sh.AF b).symm _ (AI AA))
theorem S7 {N:Nat}{p0:(List AR)}{p1 p2 r:Int}(h0:Hw N p0 p1 p2=some r):Ay 235 [Df p0,i64 p1,i64 p2] [] (i64 r) []:=by
 unfold Hw at h0;refine ai Tryz.func235 AA AA AA AA (zr tb AA AA (AD λy m=>zr tb AA AA ?_));obtain⟨o,c,h0⟩:=Sh.Ar h0;have z:∀(_:Unit),o=Sum.inr ()->∀s,Wk 0 s ⟨41,AM [],[]⟩->y s:=by
  intro _ A s p;subst o;refine m _ (AJ p (zr tb AA AA ?_));cases h0;exact rt [(6,i64 (-1))]
 refine AK (AT (σ:=Int) (λn v=>ER p0 p1 p2 n v=some o) (λi=>⟨41,AM [(0,ls Ak p0),(1,i64 p1),(2,i64 p2),(7,i64 i)],[]⟩) N 0 c (AI AA) (λ_ x=>by rw[ER]at x;cases x) ?_);rintro n i c;rw[ER]at c;refine AD λD q=>sr AA λE t=>zm tb 2 AA (zl tb AA AA (zq tb AA (dn t AA ?_)));refine ci c AA ?_ ?_<;>intro F c
 ·refine AH (q _ (AD λB j=>AK (AD λu k=>bs c λl d c=>?_)));have f:∀g,l=g->∀s,Wk 0 s ⟨41,AM [(0,Df p0),(1,i64 p1),(2,i64 p2),(7,i64 i),(38,.bool g)],[]⟩->u s:=by
   intro g A s p;subst l;refine k _ (AJ p ?_);refine ci c AA ?_ ?_<;>intro C c
   ·refine zr tb AA AA ?_;cases c;cases h0;exact rt [(6,MY i)]
   ·exact AH (j _ (AG AA (zm tb 3 AA (AE (xi (Sh.w (i+1)) c (AI AA))))))
  refine AG AA (zm tb 2 AA (bs d λh e d=>zx DZ e AA AA AA (zm tb 2 AA (zl tb AA AA (zm tb 2 AA ?_)))));rcases Sh.Ab d with ⟨a,d⟩|⟨a,d⟩
  ·refine zg tb a AA (zg tb a AA (At (v:=(WN h)) (BI AA AA a) rfl (Bi DZ AA AA e AA) ?_));iterate 4 refine zg tb a rfl ?_
   refine zt a AA (zq tb AA ?_);rcases Sh.Ab d with ⟨b,d⟩|⟨b,d⟩
   ·refine zg tb b AA (zg tb b AA (At (v:=(WN h)) (BI AA AA b) rfl (Bi DZ AA AA e AA) ?_));iterate 4 refine zg tb b rfl ?_
    exact zt b AA (AE (f (decide (h.to=p2)) (Sh.AF d).symm _ (AI AA)))
   ·refine zs b AA ?_;iterate 6 refine zs b rfl ?_
    exact zf b AA (AE (f false (Sh.AF d).symm _ (AI AA)))
  ·refine zs a AA ?_;iterate 6 refine zs a rfl ?_
   refine zf a AA (zq tb AA ?_);iterate 7 refine zs rfl rfl ?_
   exact zf AA AA (AE (f false (Sh.AF d).symm _ (AI AA)))
 ·exact Ad (z () (Sh.AF c).symm _ (AI AA))
theorem Pg {N:Nat}{p0:AL}{p1:(List Int)}{p2:Step}{r:Int}(h0:Eb N p0 p1 p2=some r):Ay 246 [Ej p0,ls eI p1,Od p2] [] (i64 r) []:=by
 unfold Eb at h0;refine ai Tryz.func246 AA AA AA AA (sr AA λK1 F=>Az (m:=0) AN AA AA AA AA AA (Az (m:=1) AN AA AA AA AA AA (zq tb AA (dn F AA (AD λK2 G=>sr AA λK3 H=>zm tb 4 AA (zl tb AA AA (zq tb AA (bs h0 λL I h0=>zc (hb 174) (BZ I) rfl AA AA (zq tb AA (dn H AA ?_))))))))));refine ci h0 AA ?_ ?_<;>intro M h0
 ·have b6:L=false:=by simpa using M
  refine zr tb AA AA ?_;cases h0;exact rd [(6,i64 (-1))]
 ·have b8:L=true:=by simpa using M
  refine AH (G _ (sr AA λK9 J=>zm tb 4 AA (bs h0 λb g h0=>zx Ez g AA AA AA (zq tb AA (Aj (m:=2) AN MJ AA AA (Al AN Mo AA AA AA AA AA AA qi rfl (dn J AA (sr AA λO h=>zm tb 2 AA (zl tb AA AA (zq tb AA (dn h AA (AD λP k=>zr tb AA AA ?_))))))))))));refine ci h0 AA ?_ ?_<;>intro Q h0
  ·refine AD λR l=>sr AA λS n=>zm tb 5 AA (bs h0 λo p h0=>zc (hb 244) (Fh p) rfl AA AA (zq tb AA (dn n AA ?_)));refine ci h0 AA ?_ ?_<;>intro q h0
   ·have T:o=false:=by simpa using q
    refine zr tb AA AA ?_;cases h0;exact rd [(6,i64 (-1))]
   ·have U:o=true:=by simpa using q
    refine AH (l _ (zr tb AA AA ?_));cases h0;exact rd [(6,i64 b.result)]
  ·refine AH (k _ (AD λV t=>AD λK u=>bs h0 λx d h0=>?_));have e:∀f,x=f->∀s,Wk 0 s ⟨69,AM [(3,BL),(7,Ei),(8,Fb b.params),(57,.bool f)],[Qk p0.decls p0.AB,mF b.params b.Ao b.result b.body.steps b.body.result]⟩->K s:=by
    intro f hq s W;subst x;refine u _ (AJ W ?_);refine ci h0 AA ?_ ?_<;>intro X h0
    ·refine zr tb AA AA ?_;obtain rfl:=Sh.AF h0;exact rd [(6,i64 (-1))]
    ·refine AH (t _ (AD λY y=>Bv (by kernel_rfl) (by kernel_rfl) (by rfl) ?_));iterate 6 refine yq tb rfl ?_
     refine bs h0 λZ z h0=>yx BH z AA AA AA ?_;iterate 3 refine yq tb rfl ?_
     refine bs h0 λA B h0=>CU (v:=(i64 A)) AN (hb 235) (S7 B) rfl AA AA (yq tb AA (BG (y _ ?_)));obtain rfl:=Sh.AF h0;exact rd [(6,i64 A)]
   refine B3 19 (by kernel_rfl) (by kernel_rfl) (by rfl) ?_;iterate 3 refine yq tb rfl ?_
   rcases Sh.Ab d with ⟨c,d⟩|⟨c,d⟩
   ·refine ys c AA ?_;iterate 3 refine ys c rfl ?_
    refine yt c AA (yq tb AA ?_);iterate 10 refine ys rfl rfl ?_
    exact BG (zt AA AA (AE (e true (Sh.AF d).symm _ (Ag [0,2] AA AA (.w (.w .nil)) (.same AA)))))
   ·refine yg tb c AA (yg tb c AA (JY (v:=(Fb b.Ao)) (BI AA AA c) rfl (Bo Hh AA) (yg tb c AA (yf c AA (yq tb AA ?_)))));rcases Sh.Ab d with ⟨a,d⟩|⟨a,d⟩
    ·refine ys a AA ?_;iterate 9 refine ys a rfl ?_
     exact BG (zt a AA (AE (e true (Sh.AF d).symm _ (Ag [0,2] AA AA (.w (.w .nil)) (.same AA)))))
    ·refine yg tb a AA ?_;iterate 6 refine yg tb a rfl ?_
     exact bs d λb0 C d=>fy (i:=0) (j:=Sh.w ((Sh.len b.params)-1)) (BI AA AA a) BH AA AA AA (λ_=>AA) C (bs d λD E d=>CU (v:=(.bool D)) (BI AA AA a) (hb 244) (Fh E) rfl AA AA (yg tb a AA (BG (zf a AA (AE (e (!D) (Sh.AF d).symm _ (Ag [0,2] AA AA (.w (.w .nil)) (.same AA))))))))
theorem Nu {p0:(List AR)}{p1:Int}{r:Bool}(h0:Gy p0 p1=some r):Ay 183 (S8 p0 p1) [] (.bool r) []:=by
 unfold Gy at h0;refine ai Tryz.func183 AA AA AA AA (zr tb AA AA (AD λj d=>bs h0 λh b h0=>?_));have i:∀c,h=c->∀s,Wk 0 s ⟨19,AM [(4,.bool c)],[]⟩->j s:=by
  intro c l s k;subst h;try dsimp only at h0
  refine d _ (AJ k ?_);obtain rfl:=Sh.AF h0;exact rt [(4,.bool c)]
 refine AG AA (zm tb 2 AA (zl tb AA AA (bs b λm e b=>zc (hb 174) (BZ e) rfl AA AA (zq tb AA ?_))));rcases Sh.Ab b with ⟨a,b⟩|⟨a,b⟩
 ·exact zg tb a AA (zg tb a AA (zg tb a AA (bs b λf g b=>At (v:=(WN f)) (BI AA AA a) rfl (Bi DZ AA AA g AA) (zg tb a AA (zg tb a AA (At (v:=(ZN f)) (BI AA AA a) rfl (Bo Mu AA) (zg tb a AA (zt a AA (zq tb AA (AE (i (decide ((Sh.len f.cons)=0)) (Sh.AF b).symm _ (AI AA))))))))))))
 ·refine zs a AA ?_;iterate 7 refine zs a rfl ?_
  exact zf a AA (zq tb AA (AE (i false (Sh.AF b).symm _ (AI AA))))
theorem Ow {p0:AL}{p1:(List Int)}{p2:Step}{r:Int}(h0:FX p0 p1 p2=some r):Ay 247 [Ej p0,ls eI p1,Od p2] [] (i64 r) []:=by
 unfold FX at h0;refine ai Tryz.func247 AA AA AA AA (sr AA λL u=>Az (m:=0) AN AA AA AA AA AA (Az (m:=1) AN AA AA AA AA AA (zq tb AA (dn u AA (AD λM w=>AD λG x=>bs h0 λF a h0=>?_)))));have y:∀z,F=z->∀s,Wk 0 s ⟨52,AM (LS p1 [(31,.bool z)]),Q9 p0 p2 []⟩->G s:=by
  intro z H s A;subst F;refine x _ (AJ A ?_);refine ci h0 AA ?_ ?_<;>intro N h0
  ·refine zr tb AA AA ?_;cases h0;exact rd [(6,i64 (-1))]
  ·refine AH (w _ (AD λO B=>AD λI C=>bs h0 λi a h0=>?_));have g:∀h,i=h->∀s,Wk 0 s ⟨52,AM [(51,.bool h)],[]⟩->I s:=by
    intro h H s A;subst i;refine C _ (AJ A ?_);refine ci h0 AA ?_ ?_<;>intro J h0
    ·refine zr tb AA AA ?_;cases h0;exact rt [(6,i64 (-1))]
    ·refine AH (B _ (zr tb AA AA ?_));cases h0;exact rt [(6,i64 0)]
   refine Bv (by kernel_rfl) (by kernel_rfl) (by rfl) ?_;iterate 4 refine yq tb rfl ?_
   rcases Sh.Ab a with ⟨e,a⟩|⟨e,a⟩
   ·refine yg tb e AA ?_;iterate 2 refine yg tb e rfl ?_
    refine yt e AA (yq tb AA ?_);rcases Sh.Ab a with ⟨d,a⟩|⟨d,a⟩
    ·refine yg tb d AA ?_;iterate 4 refine yg tb d rfl ?_
     exact bs a λD j a=>JY (v:=(LV D)) (BI AA AA d) rfl (Bi BH AA AA j AA) (yg tb d AA (bs a λE k a=>JY (v:=(LV E)) (BI AA AA d) rfl (Bi BH AA AA k AA) (yg tb d AA (bs a λl n a=>CU (v:=(.bool l)) (BI AA AA d) (hb 183) (Nu n) rfl AA AA (yt d AA (BG (g l (Sh.AF a).symm _ (BD _ AA))))))))
    ·refine ys d AA ?_;iterate 9 refine ys d rfl ?_
     exact yf d AA (BG (g false (Sh.AF a).symm _ (BD _ AA)))
   ·refine ys e AA ?_;iterate 2 refine ys e rfl ?_
    refine yf e AA (yq tb AA ?_);iterate 10 refine ys rfl rfl ?_
    exact yf AA AA (BG (g false (Sh.AF a).symm _ (BD _ AA)))
 refine AG AA (zm tb 2 AA (zl tb AA AA (zm tb 2 AA ?_)));rcases Sh.Ab a with ⟨b,a⟩|⟨b,a⟩
 ·refine zs b AA ?_;iterate 8 refine zs b rfl ?_
  refine zt b AA (zq tb AA ?_);iterate 8 refine zs rfl rfl ?_
  exact zt AA AA (AE (y true (Sh.AF a).symm _ (AI AA)))
 ·refine zg tb b AA (zg tb b AA (bs a λo f a=>At (v:=(LV o)) (BI AA AA b) rfl (Bi BH AA AA f AA) (zg tb b AA (zg tb b AA (At (v:=(Fb p1)) (BI AA AA b) rfl (Bo Hh AA) (zg tb b AA (bs a λK p a=>zd b (hb 174) (BZ p) rfl AA AA AA (zg tb b AA (zf b AA (zq tb AA ?_))))))))));rcases Sh.Ab a with ⟨c,a⟩|⟨c,a⟩
  ·refine zs c AA ?_;iterate 7 refine zs c rfl ?_
   exact zt c AA (AE (y true (Sh.AF a).symm _ (AI AA)))
  ·exact zg tb c AA (zg tb c AA (zg tb c AA (At (v:=(LV o)) (BI AA AA c) rfl (Bi BH AA AA f AA) (zg tb c AA (bs a λq t a=>At (v:=(LV q)) (BI AA AA c) rfl (Bi BH AA AA t AA) (zg tb c AA (zg tb c AA (zf c AA (AE (y (decide (q=0)) (Sh.AF a).symm _ (AI AA)))))))))))
theorem SU {N:Nat}{rG:AL->(List Int)->Block->Option (Int)}(rl :∀{p0:AL} {p1:(List Int)} {p2:Block} {r:Int},rG p0 p1 p2=some r->Ay 127 [Ej p0,ls eI p1,DS p2] [] (i64 r) []){p0:AL}{p1:(List Int)}{p2:Step}{r:Int}(h0:Em N rG p0 p1 p2=some r):Ay 194 [Ej p0,ls eI p1,Od p2] [] (i64 r) []:=by
 unfold Em at h0;refine ai Tryz.func194 AA AA AA AA (sr AA λK1 k4=>Az (m:=0) AN AA AA AA AA AA (Az (m:=1) AN AA AA AA AA AA (zq tb AA (dn k4 AA (AD λK2 k5=>AD λK3 k6=>bs h0 λo5 a h0=>?_)))));have I:∀t4,o5=t4->∀s,Wk 0 s ⟨183,AM (LS p1 [(38,.bool t4)]),Q9 p0 p2 []⟩->K3 s:=by
  intro t4 hq s E;subst o5;refine k6 _ (AJ E ?_);refine ci h0 AA ?_ ?_<;>intro b6 h0
  ·refine zr tb AA AA ?_;cases h0;exact rd [(6,i64 (-1))]
  ·refine AH (k5 _ (AD λK8 k7=>?_));obtain⟨o9,a,h0⟩:=Sh.Ar h0;have J:∀(_:Unit),o9=Sum.inr ()->∀s,Wk 0 s ⟨183,AM [],[]⟩->K8 s:=by
    intro _ hq s E;subst o9;refine k7 _ (AJ E (zr tb AA AA ?_));cases h0;exact rt [(6,i64 (-1))]
   refine zr tb AA AA (AK (zr tb AA AA ?_));refine ci a AA ?_ ?_<;>intro q2 a
   ·refine AD λk8 Z=>bs a λb0 b a=>?_;have b1:∀P,b0=P->∀s,Wk 0 s ⟨183,AM [(51,.bool P)],[]⟩->k8 s:=by
     intro P hq s E;subst b0;refine Z _ (AJ E ?_);refine ci a AA ?_ ?_<;>intro q3 a
     ·refine zr tb AA AA ?_;cases a;cases h0;exact rt [(6,i64 0)]
     ·exact AH (J () (Sh.AF a).symm _ (AI AA))
    refine AG AA (zm tb 2 AA (zl tb AA AA (zm tb 2 AA ?_)));rcases Sh.Ab b with ⟨B,b⟩|⟨B,b⟩
    ·exact zg tb B AA (zg tb B AA (bs b λk9 b2 b=>zd B (hb 174) (BZ b2) rfl AA AA AA (zt B AA (AE (b1 k9 (Sh.AF b).symm _ (BD _ AA))))))
    ·exact zs B AA (zs B AA (zs B AA (zf B AA (AE (b1 false (Sh.AF b).symm _ (BD _ AA))))))
   ·refine AD λl0 b3=>bs a λb4 b a=>?_;have K:∀Q,b4=Q->∀s,Wk 0 s ⟨183,AM (LS p1 [(40,i64 p2.op),(52,.bool Q)]),Q9 p0 p2 []⟩->l0 s:=by
     intro Q hq s E;subst b4;refine b3 _ (AJ E ?_);refine ci a AA ?_ ?_<;>intro q4 a
     ·refine sr AA λq5 b5=>zm tb 3 AA (Cn (m:=2) (l:=[(0:Int),0]) (enc:=eI) AN BH (by decide) rfl AA AA AA AA AA (Aa (Wk.Ct (L:=[(57,ls eI p1),(59,ls eI p2.args),(60,ls eI [(0:Int),0])]) (st':=(Q9 p0 p2 [⟨1,3,1,[]⟩])) (id:=2) rfl qm (Ac λ_=>AA) ⟨.rfl,.rfl,.Ct AA,mV⟩ AA) (bs a λq6 b7 a=>zc (hb 244) (Fh b7) rfl AA AA (dn b5 AA ?_))));refine ci a AA ?_ ?_<;>intro q7 a
      ·refine zr tb AA AA ?_;cases a;cases h0;exact rd [(6,i64 0)]
      ·exact AH (J () (Sh.AF a).symm _ (BD _ AA))
     ·refine zr tb AA AA ?_;refine ci a AA ?_ ?_<;>intro q8 a
      ·refine sr AA λq9 b8=>zm tb 3 AA (Cn (m:=2) (l:=[(0:Int)]) (enc:=eI) AN BH (by decide) rfl AA AA AA AA AA (Aa (Wk.Ct (L:=[(64,ls eI p1),(66,ls eI p2.args),(67,ls eI [(0:Int)])]) (st':=(Q9 p0 p2 [⟨1,3,1,[]⟩])) (id:=2) rfl qm (Ac λ_=>AA) ⟨.rfl,.rfl,.Ct AA,mV⟩ AA) (bs a λt0 b9 a=>zc (hb 244) (Fh b9) rfl AA AA (dn b8 AA ?_))));refine ci a AA ?_ ?_<;>intro t1 a
       ·refine zr tb AA AA ?_;cases a;cases h0;exact rd [(6,i64 0)]
       ·exact AH (J () (Sh.AF a).symm _ (BD _ AA))
      ·refine zr tb AA AA ?_;refine ci a AA ?_ ?_<;>intro t2 a
       ·refine AD λl1 c0=>bs a λc1 b a=>?_;have c2:∀R,c1=R->∀s,Wk 0 s ⟨183,AM [(3,BL),(5,Ei),(87,.bool R)],Q9 p0 p2 []⟩->l1 s:=by
         intro R hq s E;subst c1;refine c0 _ (AJ E ?_);refine ci a AA ?_ ?_<;>intro t3 a
         ·refine sr AA λt5 c3=>zm tb 4 AA (bs a λl2 c4 a=>zc (hb 178) (KZ c4) rfl AA AA (zq tb AA (dn c3 AA ?_)));cases a;cases h0;exact rd [(6,i64 l2)]
         ·exact AH (J () (Sh.AF a).symm _ (BD _ AA))
        refine B3 16 (by kernel_rfl) (by kernel_rfl) (by rfl) ?_;iterate 4 refine yq tb rfl ?_
        refine bs b λl3 c5 b=>CU (v:=(i64 l3)) AN (hb 178) (KZ c5) rfl AA AA ?_;iterate 2 refine yq tb rfl ?_
        rcases Sh.Ab b with ⟨C,b⟩|⟨C,b⟩
        ·refine yg tb C AA ?_;iterate 6 refine yg tb C rfl ?_
         exact bs b λl4 c6 b=>CU (v:=(ls eI l4)) (BI AA AA C) (hb 180) (MB c6) rfl AA AA (bs b λc7 c8 b=>CU (v:=(.bool c7)) (BI AA AA C) (hb 244) (Fh c8) rfl AA AA (BG (zt C AA (AE (c2 c7 (Sh.AF b).symm _ (AI AA))))))
        ·refine ys C AA ?_;iterate 8 refine ys C rfl ?_
         exact BG (zf C AA (AE (c2 false (Sh.AF b).symm _ (AI AA))))
       ·refine zr tb AA AA ?_;refine ci a AA ?_ ?_<;>intro t6 a
        ·refine sr AA λt7 c9=>zm tb 3 AA (Cn (m:=2) (l:=[(0:Int)]) (enc:=eI) AN BH (by decide) rfl AA AA AA AA AA (Aa (Wk.Ct (L:=(LS p1 [(95,ls eI p1),(97,ls eI p2.args),(98,ls eI [(0:Int)])])) (st':=(Q9 p0 p2 [⟨1,3,1,[]⟩])) (id:=2) rfl qm (Ac λ_=>AA) ⟨.rfl,.rfl,.rfl,.rfl,.rfl,.Ct AA,mV⟩ AA) (bs a λt8 d1 a=>zc (hb 244) (Fh d1) rfl AA AA (dn c9 AA ?_))));refine ci a AA ?_ ?_<;>intro t9 a
         ·refine sr AA λv0 d2=>zm tb 3 AA (bs a λl5 d3 a=>zc (hb 245) (Mq rl d3) rfl AA AA (zq tb AA (dn d2 AA ?_)));cases a;cases h0;exact rd [(6,i64 l5)]
         ·exact AH (J () (Sh.AF a).symm _ (BD _ AA))
        ·refine zr tb AA AA ?_;refine ci a AA ?_ ?_<;>intro v1 a
         ·refine sr AA λv2 d4=>zm tb 5 AA (Cn (m:=2) (l:=[p2.num]) (enc:=eI) AN BH (by decide) rfl AA AA AA AA AA (Aa (Wk.Ct (L:=(LS p1 [(106,ls eI p1),(108,ls eI p2.args),(111,ls eI [p2.num])])) (st':=(Q9 p0 p2 [⟨1,3,1,[]⟩])) (id:=2) rfl qm (Ac λ_=>AA) ⟨.rfl,.rfl,.rfl,.rfl,.rfl,.Ct AA,mV⟩ AA) (bs a λv3 d5 a=>zc (hb 244) (Fh d5) rfl AA AA (dn d4 AA ?_))));refine ci a AA ?_ ?_<;>intro v4 a
          ·refine sr AA λv5 d6=>zm tb 3 AA (bs a λl6 d7 a=>zc (hb 245) (Mq rl d7) rfl AA AA (zq tb AA (dn d6 AA ?_)));cases a;cases h0;exact rd [(6,i64 l6)]
          ·exact AH (J () (Sh.AF a).symm _ (BD _ AA))
         ·refine AD λl7 d8=>bs a λd9 b a=>?_;have g0:∀S,d9=S->∀s,Wk 0 s ⟨183,AM (LS p1 [(40,i64 p2.op),(117,.bool S)]),Q9 p0 p2 []⟩->l7 s:=by
           intro S hq s E;subst d9;refine d8 _ (AJ E ?_);refine ci a AA ?_ ?_<;>intro v6 a
           ·refine sr AA λv7 g1=>zm tb 3 AA (bs a λl8 g2 a=>zc (hb 246) (Pg g2) rfl AA AA (zq tb AA (dn g1 AA ?_)));cases a;cases h0;exact rd [(6,i64 l8)]
           ·refine zr tb AA AA ?_;refine ci a AA ?_ ?_<;>intro v8 a
            ·refine AD λl9 g3=>bs a λg4 b a=>?_;have T:∀U,g4=U->∀s,Wk 0 s ⟨183,AM (LS p1 [(151,.bool U)]),Q9 p0 p2 []⟩->l9 s:=by
              intro U hq s E;subst g4;refine g3 _ (AJ E ?_);refine ci a AA ?_ ?_<;>intro v9 a
              ·refine AD λw0 g5=>?_;refine Kv (by kernel_rfl) ?_;refine bs a λm0 g6 a=>bs a λG g7 a=>bs a λD F a=>P4 λA77 f=>?_;have k:A77 0 (bm 14 16383) ⟨183,AM [(1,ls eI p1),(5,BL),(7,Ei)],[XY p2.op p2.num p2.A5 p2.args p2.kids,UC D]⟩:=(f _ _ _).2 (by
                refine DQ AA (by kernel_rfl) (g5 _ (AD λw1 g8=>B3 7 (by kernel_rfl) (by kernel_rfl) (by rfl) ?_));iterate 3 refine yq tb rfl ?_
                refine bs a λw2 g9 a=>fy (i:=1) (j:=Sh.len p2.args) AN BH AA AA AA (λ_=>AA) g9 ?_;iterate 2 refine yq tb rfl ?_
                refine ZX (l:=[D.from_]) (enc:=eI) AN BH (by decide) rfl AA AA AA AA (Ac λ_=>AA) (BG (bs a λh3 H a=>zc (hb 244) (Fh H) rfl AA AA (dn g8 AA ?_)));refine ci a AA ?_ ?_<;>intro w a
                ·refine zr tb AA AA ?_;cases a;cases h0;exact rd [(6,i64 D.to)]
                ·exact AH (J () (Sh.AF a).symm _ (by refine Wk.trans (Ag (L:=[]) (st':=[]) [] AA AA .nil mV) ?_;exact As (L:=[]) mV)))
               have e:A77 1 (bm 14 8191) ⟨183,AM [(1,ls eI p1),(5,BL),(7,Ei),(163,Rn D)],[XY p2.op p2.num p2.A5 p2.args p2.kids,kY]⟩:=(f _ _ _).2 (by
                refine xa [13] ⟨?_,mV⟩
                ·refine xo 13 ?_;exact Al AN G0 AA AA AA AA AA AA qn rfl (xd f k))
               have g:A77 2 (bm 14 4095) ⟨183,AM [(1,ls eI p1),(5,BL),(163,Rn D)],[XY p2.op p2.num p2.A5 p2.args p2.kids]⟩:=(f _ _ _).2 (by
                refine xa [12] ⟨?_,mV⟩
                ·refine xo 12 ?_;exact Aj (m:=1) AN Fy AA AA (xd f e))
               have h:A77 4 (bm 14 4607) ⟨183,AM [(1,ls eI p1),(5,BL),(7,Ei),(153,Df p0.decls),(160,i64 G)],[XY p2.op p2.num p2.A5 p2.args p2.kids,kY]⟩:=(f _ _ _).2 (by
                refine xa [9] ⟨?_,mV⟩
                ·refine xo 9 ?_;refine zq tb AA (AE ⟨AA,?_⟩);refine Kx 10 (v:=(WN D)) rfl (by kernel_rfl) (by kernel_rfl) (Bi DZ AA AA F AA) ?_;refine DG tb 11 AA (by kernel_rfl) rfl ?_;exact xt f e)
               have y:A77 5 (bm 14 511) ⟨183,AM [(1,ls eI p1),(5,BL),(153,Df p0.decls),(160,i64 G)],[XY p2.op p2.num p2.A5 p2.args p2.kids]⟩:=(f _ _ _).2 (by
                refine xa [9,12] ⟨?_,?_,mV⟩
                ·refine xo 9 ?_;refine zq tb AA (AE ⟨AA,?_⟩);refine Kx 10 (v:=(WN D)) rfl (by kernel_rfl) (by kernel_rfl) (Bi DZ AA AA F AA) ?_;refine DG tb 11 AA (by kernel_rfl) rfl ?_;exact xt f g
                ·refine xo 12 ?_;exact Aj (m:=1) AN Fy AA AA (xd f h))
               have z:A77 5 (bm 14 4605) ⟨183,AM [(1,ls eI p1),(5,BL),(7,Ei),(152,Jh),(160,i64 G)],[XY p2.op p2.num p2.A5 p2.args p2.kids,kY,Qk p0.decls p0.AB]⟩:=(f _ _ _).2 (by
                refine xa [1,9] ⟨?_,?_,mV⟩
                ·refine xo 1 ?_;exact zq tb AA (jC f h (by exact Ag [0,1] AA AA (.w (.w .nil)) (.same AA)))
                ·refine xo 9 (zq tb AA (AE ⟨AA,(DG tb 1 AA (by kernel_rfl) rfl (Kx 10 (v:=(WN D)) rfl (by kernel_rfl) (by kernel_rfl) (Bi DZ AA AA F AA) (DG tb 11 AA (by kernel_rfl) rfl ?_)))⟩));exact xw f e (by exact Ag [0,1] AA AA (.w (.w .nil)) (.same AA)))
               have A:A77 6 (bm 14 509) ⟨183,AM [(1,ls eI p1),(5,BL),(152,Ei),(160,i64 G)],[XY p2.op p2.num p2.A5 p2.args p2.kids,Qk p0.decls p0.AB]⟩:=(f _ _ _).2 (by
                refine xa [1,9,12] ⟨?_,?_,?_,mV⟩
                ·refine xo 1 ?_;exact zq tb AA (jC f y (by exact Ag [0] AA AA (.w .nil) (.same AA)))
                ·refine xo 9 (zq tb AA (AE ⟨AA,(DG tb 1 AA (by kernel_rfl) rfl (Kx 10 (v:=(WN D)) rfl (by kernel_rfl) (by kernel_rfl) (Bi DZ AA AA F AA) (DG tb 11 AA (by kernel_rfl) rfl ?_)))⟩));exact xw f g (by exact Ag [0] AA AA (.w .nil) (.same AA))
                ·refine xo 12 ?_;exact Aj (m:=2) AN Fy AA AA (jC f z (by exact Ag [0,2,1] AA AA (.w (.w (.w .nil))) (.same AA))))
               refine (f _ _ _).2 (DG tb 0 AA (by kernel_rfl) rfl (DG tb 2 AA (by kernel_rfl) rfl (DG tb 3 AA (by kernel_rfl) rfl (DG tb 4 AA (by kernel_rfl) rfl (Kx 5 (v:=(LV m0)) rfl (by kernel_rfl) (by kernel_rfl) (Bi BH AA AA g6 AA) (DG tb 6 AA (by kernel_rfl) rfl (Kx 7 (v:=(LV G)) rfl (by kernel_rfl) (by kernel_rfl) (Bi BH AA AA g7 AA) (DG tb 8 AA (by kernel_rfl) rfl ?_))))))));exact xw f A (by exact Ag [1,0] AA AA (.w (.w .nil)) (.same AA))
              ·exact AH (J () (Sh.AF a).symm _ (BD _ AA))
             refine Bv (by kernel_rfl) (by kernel_rfl) (by rfl) ?_;iterate 2 refine yq tb rfl ?_
             refine yl tb AA AA ?_;iterate 2 refine yq tb rfl ?_
             rcases Sh.Ab b with ⟨x,b⟩|⟨x,b⟩
             ·refine yg tb x AA (yg tb x AA (bs b λh4 O b=>JY (v:=(LV h4)) (BI AA AA x) rfl (Bi BH AA AA O AA) ?_));iterate 2 refine yg tb x rfl ?_
              refine JY (v:=(Fb p1)) (BI AA AA x) rfl (Bo Hh AA) (yg tb x AA (bs b λh3 H b=>CU (v:=(.bool h3)) (BI AA AA x) (hb 174) (BZ H) rfl AA AA (yt x AA (yq tb AA ?_))));rcases Sh.Ab b with ⟨w,b⟩|⟨w,b⟩
              ·refine yg tb w AA ?_;iterate 4 refine yg tb w rfl ?_
               exact JY (v:=(LV h4)) (BI AA AA w) rfl (Bi BH AA AA O AA) (yg tb w AA (bs b λm1 h5 b=>JY (v:=(LV m1)) (BI AA AA w) rfl (Bi BH AA AA h5 AA) (yg tb w AA (bs b λh6 h7 b=>CU (v:=(.bool h6)) (BI AA AA w) (hb 183) (Nu h7) rfl AA AA (yt w AA (BG (T h6 (Sh.AF b).symm _ (AI AA))))))))
              ·refine ys w AA ?_;iterate 9 refine ys w rfl ?_
               exact yf w AA (BG (T false (Sh.AF b).symm _ (AI AA)))
             ·refine ys x AA ?_;iterate 7 refine ys x rfl ?_
              refine yf x AA (yq tb AA ?_);iterate 10 refine ys rfl rfl ?_
              exact yf AA AA (BG (T false (Sh.AF b).symm _ (AI AA)))
            ·refine AD λm2 h8=>bs a λh9 b a=>?_;have M:∀V,h9=V->∀s,Wk 0 s ⟨183,AM (LS p1 [(174,.bool V)]),Q9 p0 p2 []⟩->m2 s:=by
              intro V hq s E;subst h9;refine h8 _ (AJ E ?_);refine ci a AA ?_ ?_<;>intro w3 a
              ·refine sr AA λw4 k0=>zm tb 3 AA (bs a λm3 k1 a=>zc (hb 247) (Ow k1) rfl AA AA (zq tb AA (dn k0 AA ?_)));cases a;cases h0;exact rd [(6,i64 m3)]
              ·exact AH (J () (Sh.AF a).symm _ (BD _ AA))
             refine zr tb AA AA ?_;refine ci b AA ?_ ?_<;>intro m4 b
             ·exact AH (M true (Sh.AF b).symm _ (As (L:=(LS p1 [(174,.bool true)])) ⟨.rfl,.rfl,.rfl,.of (nO AV.bool m4),mV⟩))
             ·refine zr tb AA AA ?_;refine ci b AA ?_ ?_<;>intro m5 b
              ·exact AH (M true (Sh.AF b).symm _ (As (L:=(LS p1 [(174,.bool true)])) ⟨.rfl,.rfl,.rfl,.of (nO AV.bool m5),mV⟩))
              ·refine zr tb AA AA ?_;refine ci b AA ?_ ?_<;>intro m6 b
               ·exact AH (M true (Sh.AF b).symm _ (As (L:=(LS p1 [(174,.bool true)])) ⟨.rfl,.rfl,.rfl,.of (nO AV.bool m6),mV⟩))
               ·exact AG AA (zm tb 2 AA (AE (M (decide (p2.op=17)) (Sh.AF b).symm _ (AI AA))))
          refine zr tb AA AA ?_;refine ci b AA ?_ ?_<;>intro m7 b
          ·exact AH (g0 true (Sh.AF b).symm _ (As (L:=(LS p1 [(40,i64 p2.op),(117,.bool true)])) ⟨.rfl,.rfl,.rfl,.rfl,.of (nO AV.bool m7),mV⟩))
          ·exact AG AA (zm tb 2 AA (AE (g0 (decide (p2.op=10)) (Sh.AF b).symm _ (AI AA))))
    refine zr tb AA AA ?_;refine ci b AA ?_ ?_<;>intro m8 b
    ·exact AH (K true (Sh.AF b).symm _ (As (L:=(LS p1 [(40,i64 p2.op),(52,.bool true)])) ⟨.rfl,.rfl,.rfl,.rfl,.of (nO AV.bool m8),mV⟩))
    ·refine zr tb AA AA ?_;refine ci b AA ?_ ?_<;>intro k2 b
     ·exact AH (K true (Sh.AF b).symm _ (As (L:=(LS p1 [(40,i64 p2.op),(52,.bool true)])) ⟨.rfl,.rfl,.rfl,.rfl,.of (nO AV.bool k2),mV⟩))
     ·refine zr tb AA AA ?_;refine ci b AA ?_ ?_<;>intro k3 b
      ·exact AH (K true (Sh.AF b).symm _ (As (L:=(LS p1 [(40,i64 p2.op),(52,.bool true)])) ⟨.rfl,.rfl,.rfl,.rfl,.of (nO AV.bool k3),mV⟩))
      ·exact AG AA (zm tb 2 AA (AE (K (decide (p2.op=4)) (Sh.AF b).symm _ (AI AA))))
 refine AG AA (zm tb 4 AA ?_);rcases Sh.Ab a with ⟨n,a⟩|⟨n,a⟩
 ·refine zg tb n AA (zg tb n AA (bs a λm9 W a=>zd n (hb 242) (UA W) rfl AA AA AA (zg tb n AA (zt n AA (zq tb AA ?_)))));rcases Sh.Ab a with ⟨o,a⟩|⟨o,a⟩
  ·refine zs o AA ?_;iterate 3 refine zs o rfl ?_
   refine zt o AA (zq tb AA ?_);iterate 5 refine zs rfl rfl ?_
   iterate 3 refine zn rfl ?_
   refine zs AA AA (zs AA AA ?_);iterate 3 refine zn rfl ?_
   exact zs AA AA (zt AA AA (AE (I true (Sh.AF a).symm _ (AI AA))))
  ·refine zg tb o AA (zg tb o AA (bs a λq0 X a=>zd o (hb 243) (Lw X) rfl AA AA AA (zg tb o AA (zf o AA (zq tb AA ?_)))));rcases Sh.Ab a with ⟨c,a⟩|⟨c,a⟩
   ·refine zs c AA ?_;iterate 4 refine zs c rfl ?_
    iterate 3 refine zn rfl ?_
    refine zs c AA (zs c AA ?_);iterate 3 refine zn rfl ?_
    exact zs c AA (zt c AA (AE (I true (Sh.AF a).symm _ (AI AA))))
   ·refine zg tb c AA (zg tb c AA (At (v:=(Yn p2)) (BI AA AA c) rfl (Bo VQ AA) (zg tb c AA (zg tb c AA ?_))));rcases Sh.Ab a with ⟨p,a⟩|⟨p,a⟩
    ·refine zg tb p AA (zg tb p AA (zg tb p AA (At (v:=(.bool (!decide (p2.op=7)))) (BI AA AA c) rfl (Ee AA p AA) (zg tb c AA ?_))));rcases Sh.Ab a with ⟨q,a⟩|⟨q,a⟩
     ·exact zg tb q AA (zg tb q AA (zg tb q AA (At (v:=(.bool (!decide (p2.op=8)))) (BI AA AA c) rfl (Ee AA q AA) (zf c AA (AE (I (!decide (p2.op=8)) (Sh.AF a).symm _ (AI AA)))))))
     ·exact zs q AA (zs q AA (zs q AA (At (v:=(.bool false)) (BI AA AA c) rfl (D6 AA q AA) (zf c AA (AE (I false (Sh.AF a).symm _ (AI AA)))))))
    ·refine zs p AA (zs p AA (zs p AA (At (v:=(.bool false)) (BI AA AA c) rfl (D6 AA p AA) (zg tb c AA ?_))));iterate 3 refine zs rfl rfl ?_
     exact At (v:=(.bool false)) (BI AA AA c) rfl (D6 AA AA AA) (zf c AA (AE (I false (Sh.AF a).symm _ (AI AA))))
 ·refine zs n AA ?_;iterate 3 refine zs n rfl ?_
  refine zf n AA (zq tb AA (zg tb AA AA (zg tb AA AA (bs a λq1 Y a=>zd AA (hb 243) (Lw Y) rfl AA AA AA (zg tb AA AA (zf AA AA (zq tb AA ?_)))))));rcases Sh.Ab a with ⟨d,a⟩|⟨d,a⟩
  ·refine zs d AA ?_;iterate 4 refine zs d rfl ?_
   iterate 3 refine zn rfl ?_
   refine zs d AA (zs d AA ?_);iterate 3 refine zn rfl ?_
   exact zs d AA (zt d AA (AE (I true (Sh.AF a).symm _ (AI AA))))
  ·refine zg tb d AA (zg tb d AA (At (v:=(Yn p2)) (BI AA AA d) rfl (Bo VQ AA) (zg tb d AA (zg tb d AA ?_))));rcases Sh.Ab a with ⟨t,a⟩|⟨t,a⟩
   ·refine zg tb t AA (zg tb t AA (zg tb t AA (At (v:=(.bool (!decide (p2.op=7)))) (BI AA AA d) rfl (Ee AA t AA) (zg tb d AA ?_))));rcases Sh.Ab a with ⟨u,a⟩|⟨u,a⟩
    ·exact zg tb u AA (zg tb u AA (zg tb u AA (At (v:=(.bool (!decide (p2.op=8)))) (BI AA AA d) rfl (Ee AA u AA) (zf d AA (AE (I (!decide (p2.op=8)) (Sh.AF a).symm _ (AI AA)))))))
    ·exact zs u AA (zs u AA (zs u AA (At (v:=(.bool false)) (BI AA AA d) rfl (D6 AA u AA) (zf d AA (AE (I false (Sh.AF a).symm _ (AI AA)))))))
   ·refine zs t AA (zs t AA (zs t AA (At (v:=(.bool false)) (BI AA AA d) rfl (D6 AA t AA) (zg tb d AA ?_))));iterate 3 refine zs rfl rfl ?_
    exact At (v:=(.bool false)) (BI AA AA d) rfl (D6 AA AA AA) (zf d AA (AE (I false (Sh.AF a).symm _ (AI AA))))
theorem Ta {p0:Int}{r:Bool}(h0:Gv p0=some r):Ay 195 [i64 p0] [] (.bool r) []:=by
 unfold Gv at h0;refine ai Tryz.func195 AA AA AA AA (zr tb AA AA (sr AA λd a=>zq tb AA (bs h0 λc b h0=>zc (hb 174) (BZ b) rfl AA AA (zq tb AA (dn a AA ?_)))));obtain rfl:=Sh.AF h0;exact rt [(2,.bool c)]
theorem PW {N:Nat}{rG:AL->(List Int)->Block->Option (Int)}(rl :∀{p0:AL} {p1:(List Int)} {p2:Block} {r:Int},rG p0 p1 p2=some r->Ay 127 [Ej p0,ls eI p1,DS p2] [] (i64 r) []){p0:AL}{p1:(List Int)}{p2:Block}{r:Int}(h0:Dx N rG p0 p1 p2=some r):Ay 127 [Ej p0,ls eI p1,DS p2] [] (i64 r) []:=by
 unfold Dx at h0;refine ai Tryz.func127 AA AA AA AA (sr AA λK1 K=>Az (m:=0) AN AA AA AA AA AA (Az (m:=1) AN AA AA AA AA AA (zq tb AA (dn K AA (sr AA λK2 M=>zq tb AA (bs h0 λT O h0=>A8 (v':=(ow 2 0 T)) AN (hb 113) (F3 O) rfl AA ⟨(A9 λ_=>AA),mV⟩ AA AA (zq tb AA (dn M AA (AD λV P=>zr tb AA AA ?_)))))))));obtain⟨Q,b,h0⟩:=Sh.Ar h0;have W:∀(h:(List Int)),Q=Sum.inr h->∀s,Wk 0 s ⟨52,AM [(5,BL),(7,ow 1 0 h)],[Ra p2.steps p2.result,Bw h]⟩->V s:=by
  intro h X s R;subst Q;refine P _ (AJ R (AD λY i=>sr AA λZ j=>zm tb 3 AA (zz (Fb h) (E9 Hh AA AA AA) rfl (zq tb AA (bs h0 λk o h0=>zc (hb 174) (BZ o) rfl AA AA (zq tb AA (dn j AA ?_)))))));refine ci h0 AA ?_ ?_<;>intro p h0
  ·have b0:k=false:=by simpa using p
   refine zr tb AA AA ?_;obtain rfl:=Sh.AF h0;exact rd [(6,i64 (-1))]
  ·have b1:k=true:=by simpa using p
   refine AH (i _ (sr AA λb2 q=>zm tb 3 AA (bs h0 λt e h0=>zz (.ptr 1 0 (Int.toNat p2.result) 0) (Ca BH AA AA AA AA e) rfl (zz (i64 t) (DH Jy AA AA (GC e) rfl) rfl (zq tb AA (dn q AA ?_))))));obtain rfl:=Sh.AF h0;exact rd [(6,i64 t)]
 refine AK (AT (σ:=Int×(List Int)) (λn v=>BE N p0 p2 rG n v.1 v.2=some Q) (λ(u,x)=>⟨52,AM [(3,.ptr 0 0 0 0),(5,.ptr 1 0 0 0),(7,ow 2 0 x),(8,i64 u)],[Qk p0.decls p0.AB,Ra p2.steps p2.result,ro 0 3 1 eI x]⟩) N (0,T) b (AI AA) (λ_ U=>by rw[BE]at U;cases U) ?_);rintro n ⟨u,x⟩ b;rw[BE]at b;refine AD λb3 y=>sr AA λb4 z=>zm tb 3 AA (zl tb AA AA (zq tb AA (dn z AA ?_)));refine ci b AA ?_ ?_<;>intro b5 b
 ·refine AH (y _ (AD λS A=>?_));obtain⟨B,a,b⟩:=Sh.Ar b;have C:∀(c:(List Int)),B=Sum.inr c->∀s,Wk 0 s ⟨52,AM [(3,BL),(5,Ei),(7,ow 2 0 c),(8,i64 u)],[Qk p0.decls p0.AB,Ra p2.steps p2.result,Bw c]⟩->S s:=by
   intro c X s R;subst B;exact A _ (AJ R (AG AA (zm tb 3 AA (AE (xi (Sh.w (u+1),c) b (AI AA))))))
  refine AK (AD λb6 D=>Bv (by kernel_rfl) (by kernel_rfl) (by rfl) ?_);iterate 5 refine yq tb rfl ?_
  refine bs a λE f a=>yz (Jo E) (Cp FM AA AA f (Be _) rfl) rfl (yq tb AA (bs a λd F a=>U0 (v':=(i64 d)) AN (hb 194) (SU rl F) rfl (.val AA (.own AA AA (λ_=>AA) (.val AA .nil))) rfl AA (yq tb AA (BG (D _ (AD λb7 G=>zr tb AA AA ?_))))));refine ci a AA ?_ ?_<;>intro b8 a
  ·refine zr tb AA AA ?_;cases a;cases b;cases h0;exact rd [(6,i64 (-1))]
  ·refine AH (G _ (sr AA λb9 H=>zm tb 3 AA (zz (Jo E) (Cp FM AA AA f (Be _) rfl) rfl (zm tb 2 AA (bs a λc0 I a=>zc (hb 195) (Ta I) rfl AA AA (dn H AA ?_))))));refine ci a AA ?_ ?_<;>intro c1 a
   ·refine AG AA (zm tb 2 AA (Cn (m:=3) (l:=[d]) (enc:=eI) AN BH (by decide) rfl AA AA AA AA AA (bs a λg J a=>EI (l2:=[d]) AN BH AA AA AA AA (MQ AA AA) (λ_=>AA) J AA (zq tb AA ?_))));exact AE (C g (Sh.AF a).symm _ (by refine Wk.trans (CP (L:=[(3,BL),(5,Ei),(7,ow 2 0 g),(8,i64 u)]) (st':=[Qk p0.decls p0.AB,Ra p2.steps p2.result,Bw g,YH d]) (.raw AA AA (.raw AA AA (.pure (Ac λ_=>AA) (.pure (Ac λ_=>AA) .nil)))) (.same AA)) ?_;exact Ag [0,1,2] AA AA (.w (.w (.p .nil))) (.same AA)))
   ·exact AH (C x (Sh.AF a).symm _ (AI AA))
 ·exact Ad (W x (Sh.AF b).symm _ (Ag [1,2] AA AA (.w (.p .nil)) (.same AA)))
theorem Pp {N:Nat}:∀(n:Nat),∀{p0:AL} {p1:(List Int)} {p2:Block} {r:Int},Cv N n p0 p1 p2=some r->Ay 127 [Ej p0,ls eI p1,DS p2] [] (i64 r) []:=by
 intro n
 induction n with
 | zero=>intro p0 p1 p2 r a;cases a
 | succ n ih=>
  intro p0 p1 p2 r a;rw[Cv]at a;exact PW (λh=>ih h) a
theorem RB {N:Nat}:∀{p0:AL} {p1:(List Int)} {p2:Block} {r:Int},Bp N p0 p1 p2=some r->Ay 127 [Ej p0,ls eI p1,DS p2] [] (i64 r) []:=by
 intro p0 p1 p2 r a;exact Pp N a
theorem PG {N:Nat}{p0:AL}{r:Bool}(h0:Ea N p0=some r):Ay 68 [Ej p0] [] (.bool r) []:=by
 unfold Ea at h0;refine ai Tryz.func68 AA AA AA AA (sr AA λT x=>Az (m:=0) AN AA AA AA AA AA (zq tb AA (dn x AA (AD λU y=>sr AA λV z=>zq tb AA (bs h0 λH A h0=>zc (hb 126) (NG A) rfl AA AA (zq tb AA (dn z AA ?_)))))));refine ci h0 AA ?_ ?_<;>intro I h0
 ·have W:H=false:=by simpa using I
  refine zr tb AA AA ?_;cases h0;exact rd [(2,.bool false)]
 ·have X:H=true:=by simpa using I
  refine AH (y _ (AD λK B=>zr tb AA AA ?_));obtain⟨e,b,h0⟩:=Sh.Ar h0;have C:∀(_:Unit),e=Sum.inr ()->∀s,Wk 0 s ⟨35,AM [],[]⟩->K s:=by
   intro _ L s D;subst e;refine B _ (AJ D (zr tb AA AA ?_));cases h0;exact rt [(2,.bool true)]
  refine AK (AT (σ:=Int) (λn v=>Bx N p0 n v=some e) (λc=>⟨35,AM [(1,.ptr 0 0 0 0),(3,i64 c)],[Qk p0.decls p0.AB]⟩) N 0 b (AI AA) (λ_ J=>by rw[Bx]at J;cases J) ?_);rintro n c b;rw[Bx]at b;refine AD λM g=>sr AA λO h=>zm tb 3 AA (zl tb AA AA (zq tb AA (dn h AA ?_)));refine ci b AA ?_ ?_<;>intro P b
  ·refine AH (g _ (AD λQ i=>AK (sr AA λR j=>zm tb 3 AA (bs b λE k b=>zx Ez k AA AA AA (zq tb AA (Aj (m:=1) AN MJ AA AA (Al AN Mo AA AA AA AA AA AA qi rfl (dn j AA (AD λF l=>bs b λo d b=>?_)))))))));have p:∀f,o=f->∀s,Wk 0 s ⟨35,AM [(1,BL),(3,i64 c),(34,.bool f)],[Qk p0.decls p0.AB]⟩->F s:=by
    intro f L s D;subst o;refine l _ (AJ D ?_);refine ci b AA ?_ ?_<;>intro S b
    ·refine zr tb AA AA ?_;cases b;cases h0;exact rd [(2,.bool false)]
    ·exact AH (i _ (AG AA (zm tb 3 AA (AE (xi (Sh.w (c+1)) b (AI AA))))))
   refine Bv (by kernel_rfl) (by kernel_rfl) (by rfl) ?_;iterate 2 refine yq tb rfl ?_
   refine bs d λG q d=>CU (v:=(i64 G)) AN (hb 70) (S4 q) rfl AA AA ?_;iterate 2 refine yq tb rfl ?_
   rcases Sh.Ab d with ⟨a,d⟩|⟨a,d⟩
   ·refine ys a AA ?_;iterate 8 refine ys a rfl ?_
    exact yt a AA (BG (p true (Sh.AF d).symm _ (Ag [0] AA AA (.w .nil) (.same AA))))
   ·refine yg tb a AA ?_;iterate 4 refine yg tb a rfl ?_
    refine bs d λt u d=>CU (v:=(i64 t)) (BI AA AA a) (hb 127) (RB u) rfl AA AA ?_;iterate 3 refine yg tb a rfl ?_
    exact yf a AA (BG (p (!decide (t=E.result)) (Sh.AF d).symm _ (Ag [0] AA AA (.w .nil) (.same AA))))
  ·exact Ad (C () (Sh.AF b).symm _ (BD _ AA))
theorem Qg {p0:Int}{r:Bool}(h0:HI p0=some r):Ay 128 [i64 p0] [] (.bool r) []:=by
 unfold HI at h0;refine ai Tryz.func128 AA AA AA AA (zr tb AA AA (sr AA λd a=>zq tb AA (bs h0 λc b h0=>zc (hb 174) (BZ b) rfl AA AA (zq tb AA (dn a AA ?_)))));obtain rfl:=Sh.AF h0;exact rt [(2,.bool c)]
theorem Og {N:Nat}{rT:Block->Option (Bool)}(tK :∀{p0:Block} {r:Bool},rT p0=some r->Ay 69 [DS p0] [] (.bool r) []){p0:Block}{r:Bool}(h0:HV N rT p0=some r):Ay 69 [DS p0] [] (.bool r) []:=by
 unfold HV at h0;refine ai Tryz.func69 AA AA AA AA (sr AA λK1 H=>Az (m:=0) AN AA AA AA AA AA (zq tb AA (dn H AA (AD λR I=>zr tb AA AA ?_))));obtain⟨J,b,h0⟩:=Sh.Ar h0;have S:∀(_:Unit),J=Sum.inr ()->∀s,Wk 0 s ⟨50,AM [],[]⟩->R s:=by
  intro _ Q s k;subst J;refine I _ (AJ k (zr tb AA AA ?_));cases h0;exact rt [(2,.bool true)]
 refine AK (AT (σ:=Int) (λn v=>C1 N p0 rT n v=some J) (λf=>⟨50,AM [(1,.ptr 0 0 0 0),(3,i64 f)],[Ra p0.steps p0.result]⟩) N 0 b (AI AA) (λ_ l=>by rw[C1]at l;cases l) ?_);rintro n f b;rw[C1]at b;refine AD λK7 K=>sr AA λK8 L=>zm tb 3 AA (zl tb AA AA (zq tb AA (dn L AA ?_)));refine ci b AA ?_ ?_<;>intro b9 b
 ·refine AH (K _ (AD λM o=>AK (AD λT p=>AD λO q=>bs b λt a b=>?_)));have u:∀g,t=g->∀s,Wk 0 s ⟨50,AM [(1,BL),(3,i64 f),(27,.bool g)],[Ra p0.steps p0.result]⟩->O s:=by
   intro g Q s k;subst t;refine q _ (AJ k ?_);refine ci b AA ?_ ?_<;>intro U b
   ·refine zr tb AA AA ?_;cases b;cases h0;exact rd [(2,.bool false)]
   ·refine AH (p _ (zr tb AA AA ?_));obtain⟨h,a,b⟩:=Sh.Ar b;have P:∀(_:Unit),h=Sum.inr ()->∀s,Wk 0 s ⟨50,AM [(1,BL),(3,i64 f)],[Ra p0.steps p0.result]⟩->M s:=by
     intro _ Q s k;subst h;exact o _ (AJ k (AG AA (zm tb 3 AA (AE (xi (Sh.w (f+1)) b (AI AA))))))
    refine AK (AT (σ:=Int) (λn v=>CW f p0 rT n v=some h) (λi=>⟨50,AM [(1,.ptr 0 0 0 0),(3,i64 f),(4,i64 i)],[Ra p0.steps p0.result]⟩) N 0 a (AI AA) (λ_ l=>by rw[CW]at l;cases l) ?_);rintro n i a;rw[CW]at a;refine AD λV x=>sr AA λW y=>zm tb 4 AA (bs a λz d a=>zz (Jo z) (Cp FM AA AA d (Be _) rfl) rfl (zm tb 2 AA (zl tb AA AA (zq tb AA (dn y AA ?_)))));refine ci a AA ?_ ?_<;>intro X a
    ·refine AH (x _ (AD λY A=>AK (sr AA λZ B=>zm tb 3 AA (zz (Jo z) (Cp FM AA AA d (Be _) rfl) rfl (zm tb 3 AA (bs a λb0 C a=>zx Hs C AA AA AA (zq tb AA (bs a λD E a=>zc (hb 69) (tK E) rfl AA AA (zq tb AA (dn B AA ?_))))))))));refine ci a AA ?_ ?_<;>intro F a
     ·have b1:D=false:=by simpa using F
      refine zr tb AA AA ?_;cases a;cases b;cases h0;exact rd [(2,.bool false)]
     ·have b2:D=true:=by simpa using F
      exact AH (A _ (AG AA (zm tb 3 AA (AE (xi (Sh.w (i+1)) a (AI AA))))))
    ·exact Ad (P () (Sh.AF a).symm _ (AI AA))
  refine AG AA (zm tb 3 AA (bs a λj e a=>zz (Jo j) (Cp FM AA AA e (Be _) rfl) rfl (zm tb 2 AA (bs a λb3 G a=>zc (hb 128) (Qg G) rfl AA AA (zq tb AA ?_)))));rcases Sh.Ab a with ⟨c,a⟩|⟨c,a⟩
  ·refine zs c AA ?_;iterate 6 refine zs c rfl ?_
   exact zt c AA (AE (u true (Sh.AF a).symm _ (AI AA)))
  ·refine zg tb c AA (zg tb c AA (zg tb c AA (At (v:=(Jo j)) (BI AA AA c) rfl (Cp FM AA AA e (Be _) rfl) ?_)));iterate 3 refine zg tb c rfl ?_
   exact zf c AA (AE (u (!decide (j.A5=0)) (Sh.AF a).symm _ (AI AA)))
 ·exact Ad (S () (Sh.AF b).symm _ (BD _ AA))
theorem Ok {N:Nat}:∀(n:Nat),∀{p0:Block} {r:Bool},E0 N n p0=some r->Ay 69 [DS p0] [] (.bool r) []:=by
 intro n
 induction n with
 | zero=>intro p0 r a;cases a
 | succ n ih=>
  intro p0 r a;rw[E0]at a;exact Og (λh=>ih h) a
theorem QW {N:Nat}:∀{p0:Block} {r:Bool},Ih N p0=some r->Ay 69 [DS p0] [] (.bool r) []:=by
 intro p0 r a;exact Ok N a
theorem TG {N:Nat}{p0:AL}{r:Bool}(h0:Gw N p0=some r):Ay 27 [Ej p0] [] (.bool r) []:=by
 unfold Gw at h0;refine ai Tryz.func27 AA AA AA AA (sr AA λK l=>Az (m:=0) AN AA AA AA AA AA (zq tb AA (dn l AA (AD λL o=>sr AA λM p=>zq tb AA (bs h0 λx q h0=>zc (hb 68) (PG q) rfl AA AA (zq tb AA (dn p AA ?_)))))));refine ci h0 AA ?_ ?_<;>intro y h0
 ·have O:x=false:=by simpa using y
  refine zr tb AA AA ?_;cases h0;exact rd [(2,.bool false)]
 ·have P:x=true:=by simpa using y
  refine AH (o _ (AD λA t=>zr tb AA AA ?_));obtain⟨b,a,h0⟩:=Sh.Ar h0;have u:∀(_:Unit),b=Sum.inr ()->∀s,Wk 0 s ⟨22,AM [],[]⟩->A s:=by
   intro _ Q s B;subst b;refine t _ (AJ B (zr tb AA AA ?_));cases h0;exact rt [(2,.bool true)]
  refine AK (AT (σ:=Int) (λn v=>E7 N p0 n v=some b) (λc=>⟨22,AM [(1,.ptr 0 0 0 0),(3,i64 c)],[Qk p0.decls p0.AB]⟩) N 0 a (AI AA) (λ_ z=>by rw[E7]at z;cases z) ?_);rintro n c a;rw[E7]at a;refine AD λC d=>sr AA λD e=>zm tb 3 AA (zl tb AA AA (zq tb AA (dn e AA ?_)));refine ci a AA ?_ ?_<;>intro E a
  ·refine AH (d _ (AD λF f=>AK (sr AA λG g=>zm tb 3 AA (bs a λH h a=>zx Ez h AA AA AA (zm tb 2 AA (bs a λi j a=>zc (hb 69) (QW j) rfl AA AA (zq tb AA (dn g AA ?_))))))));refine ci a AA ?_ ?_<;>intro k a
   ·have I:i=false:=by simpa using k
    refine zr tb AA AA ?_;cases a;cases h0;exact rd [(2,.bool false)]
   ·have J:i=true:=by simpa using k
    exact AH (f _ (AG AA (zm tb 3 AA (AE (xi (Sh.w (c+1)) a (AI AA))))))
  ·exact Ad (u () (Sh.AF a).symm _ (BD _ AA))
theorem QO {N:Nat}{rX:Block->Int->Option (Bool)}(te :∀{p0:Block} {p1:Int} {r:Bool},rX p0 p1=some r->Ay 214 (Q8 p0 p1) [] (.bool r) []){p0:Block}{p1:Int}{r:Bool}(h0:Im N rX p0 p1=some r):Ay 214 (Q8 p0 p1) [] (.bool r) []:=by
 unfold Im at h0;refine ai Tryz.func214 AA AA AA AA (sr AA λK1 E=>Az (m:=0) AN AA AA AA AA AA (zq tb AA (dn E AA (AD λO F=>zr tb AA AA ?_))));obtain⟨G,b,h0⟩:=Sh.Ar h0;have P:∀(_:Unit),G=Sum.inr ()->∀s,Wk 0 s ⟨53,AM [],[]⟩->O s:=by
  intro _ M s k;subst G;refine F _ (AJ k (zr tb AA AA ?_));cases h0;exact rt [(4,.bool false)]
 refine AK (AT (σ:=Int) (λn v=>C6 N p0 p1 rX n v=some G) (λf=>⟨53,AM [(1,i64 p1),(2,.ptr 0 0 0 0),(5,i64 f)],[Ra p0.steps p0.result]⟩) N 0 b (AI AA) (λ_ l=>by rw[C6]at l;cases l) ?_);rintro n f b;rw[C6]at b;refine AD λK7 H=>sr AA λK8 I=>zm tb 3 AA (zl tb AA AA (zq tb AA (dn I AA ?_)));refine ci b AA ?_ ?_<;>intro b9 b
 ·refine AH (H _ (AD λJ o=>AK (AD λQ p=>AD λK q=>bs b λt a b=>?_)));have u:∀g,t=g->∀s,Wk 0 s ⟨53,AM [(1,i64 p1),(2,BL),(5,i64 f),(30,.bool g)],[Ra p0.steps p0.result]⟩->K s:=by
   intro g M s k;subst t;refine q _ (AJ k ?_);refine ci b AA ?_ ?_<;>intro R b
   ·refine zr tb AA AA ?_;cases b;cases h0;exact rd [(4,.bool true)]
   ·refine AH (p _ (zr tb AA AA ?_));obtain⟨h,a,b⟩:=Sh.Ar b;have L:∀(_:Unit),h=Sum.inr ()->∀s,Wk 0 s ⟨53,AM [(1,i64 p1),(2,BL),(5,i64 f)],[Ra p0.steps p0.result]⟩->J s:=by
     intro _ M s k;subst h;exact o _ (AJ k (AG AA (zm tb 3 AA (AE (xi (Sh.w (f+1)) b (AI AA))))))
    refine AK (AT (σ:=Int) (λn v=>C5 f p0 p1 rX n v=some h) (λi=>⟨53,AM [(1,i64 p1),(2,.ptr 0 0 0 0),(5,i64 f),(6,i64 i)],[Ra p0.steps p0.result]⟩) N 0 a (AI AA) (λ_ l=>by rw[C5]at l;cases l) ?_);rintro n i a;rw[C5]at a;refine AD λS x=>sr AA λT y=>zm tb 4 AA (bs a λz d a=>zz (Jo z) (Cp FM AA AA d (Be _) rfl) rfl (zm tb 2 AA (zl tb AA AA (zq tb AA (dn y AA ?_)))));refine ci a AA ?_ ?_<;>intro U a
    ·refine AH (x _ (AD λV A=>AK (sr AA λW B=>zm tb 3 AA (zz (Jo z) (Cp FM AA AA d (Be _) rfl) rfl (zm tb 3 AA (bs a λX C a=>zx Hs C AA AA AA (zm tb 2 AA (bs a λY D a=>zc (hb 214) (te D) rfl AA AA (dn B AA ?_)))))))));refine ci a AA ?_ ?_<;>intro Z a
     ·refine zr tb AA AA ?_;cases a;cases b;cases h0;exact rd [(4,.bool true)]
     ·exact AH (A _ (AG AA (zm tb 3 AA (AE (xi (Sh.w (i+1)) a (AI AA))))))
    ·exact Ad (L () (Sh.AF a).symm _ (AI AA))
  refine AG AA (zm tb 3 AA (bs a λj e a=>zz (Jo j) (Cp FM AA AA e (Be _) rfl) rfl (zm tb 4 AA ?_)));rcases Sh.Ab a with ⟨c,a⟩|⟨c,a⟩
  ·refine zg tb c AA (zg tb c AA (zg tb c AA (At (v:=(Jo j)) (BI AA AA c) rfl (Cp FM AA AA e (Be _) rfl) ?_)));iterate 4 refine zg tb c rfl ?_
   exact zt c AA (AE (u (decide (j.num=p1)) (Sh.AF a).symm _ (AI AA)))
  ·refine zs c AA ?_;iterate 7 refine zs c rfl ?_
   exact zf c AA (AE (u false (Sh.AF a).symm _ (AI AA)))
 ·exact Ad (P () (Sh.AF b).symm _ (BD _ AA))
theorem QV {N:Nat}:∀(n:Nat),∀{p0:Block} {p1:Int} {r:Bool},ES N n p0 p1=some r->Ay 214 (Q8 p0 p1) [] (.bool r) []:=by
 intro n
 induction n with
 | zero=>intro p0 p1 r a;cases a
 | succ n ih=>
  intro p0 p1 r a;rw[ES]at a;exact QO (λh=>ih h) a
theorem Ry {N:Nat}:∀{p0:Block} {p1:Int} {r:Bool},Jw N p0 p1=some r->Ay 214 (Q8 p0 p1) [] (.bool r) []:=by
 intro p0 p1 r a;exact QV N a
theorem Sf {N:Nat}{p0:AL}{p1:Int}{r:Bool}(h0:II N p0 p1=some r):Ay 153 [Ej p0,i64 p1] [] (.bool r) []:=by
 unfold II at h0;refine ai Tryz.func153 AA AA AA AA (sr AA λA f=>Az (m:=0) AN AA AA AA AA AA (zq tb AA (dn f AA (AD λo g=>zr tb AA AA ?_))));obtain⟨h,a,h0⟩:=Sh.Ar h0;have p:∀(_:Unit),h=Sum.inr ()->∀s,Wk 0 s ⟨21,AM [],[]⟩->o s:=by
  intro _ B s q;subst h;refine g _ (AJ q (zr tb AA AA ?_));cases h0;exact rt [(4,.bool false)]
 refine AK (AT (σ:=Int) (λn v=>Dz N p0 p1 n v=some h) (λi=>⟨21,AM [(1,i64 p1),(2,.ptr 0 0 0 0),(5,i64 i)],[Qk p0.decls p0.AB]⟩) N 0 a (AI AA) (λ_ l=>by rw[Dz]at l;cases l) ?_);rintro n i a;rw[Dz]at a;refine AD λC j=>sr AA λD k=>zm tb 3 AA (zl tb AA AA (zq tb AA (dn k AA ?_)));refine ci a AA ?_ ?_<;>intro E a
 ·refine AH (j _ (AD λt b=>AK (sr AA λu c=>zm tb 3 AA (bs a λx d a=>zx Ez d AA AA AA (zm tb 3 AA (bs a λy e a=>zc (hb 214) (Ry e) rfl AA AA (dn c AA ?_)))))));refine ci a AA ?_ ?_<;>intro z a
  ·refine zr tb AA AA ?_;cases a;cases h0;exact rd [(4,.bool true)]
  ·exact AH (b _ (AG AA (zm tb 3 AA (AE (xi (Sh.w (i+1)) a (AI AA))))))
 ·exact Ad (p () (Sh.AF a).symm _ (BD _ AA))
theorem Sb {N:Nat}{p0:(List Int)}{p1:Int}{r:(List Int)}(h0:IQ N p0 p1=some r):Ay 154 [ls eI p0,i64 p1] [] (ow 0 0 r) [Bw r]:=by
 unfold IQ at h0;refine ai Tryz.func154 AA AA AA AA (zr tb AA AA (sr AA λP y=>Cn (m:=0) (l:=([]:List Int)) (enc:=eI) AN BH (by decide) rfl AA AA AA AA AA (zq tb AA (dn y AA (AD λE z=>zr tb AA AA (bs h0 λA a h0=>?_))))));have F:∀f,A=f->∀s,Wk 0 s ⟨26,AM [(5,ow 0 0 f)],[Bw f]⟩->E s:=by
  intro f G s B;subst A;try dsimp only at h0
  refine z _ (AJ B (zr tb AA AA ?_));obtain rfl:=Sh.AF h0;exact rt [(4,ow 0 0 f)]
 refine AK (AT (σ:=Int×(List Int)) (λn v=>D5 p0 p1 n v.1 v.2=some A) (λ(d,g)=>⟨26,AM [(0,ls eI p0),(1,i64 p1),(5,ow 0 0 g),(6,i64 d)],[ro 0 3 1 eI g]⟩) N (0,[]) a (AI AA) (λ_ D=>by rw[D5]at D;cases D) ?_);rintro n ⟨d,g⟩ a;rw[D5]at a;refine AD λH h=>sr AA λI i=>zm tb 2 AA (zl tb AA AA (zq tb AA (dn i AA ?_)));refine ci a AA ?_ ?_<;>intro J a
 ·refine AH (h _ (AD λC j=>bs a λk c a=>?_));have o:∀b,k=b->∀s,Wk 0 s ⟨26,AM [(0,ls eI p0),(1,i64 p1),(5,ow 0 0 b),(6,i64 d)],[Bw b]⟩->C s:=by
   intro b G s B;subst k;exact j _ (AJ B (AG AA (zm tb 3 AA (AE (xi (Sh.w (d+1),b) a (AI AA))))))
  refine AK (sr AA λK p=>zm tb 2 AA (bs c λq t c=>zx BH t AA AA AA (zm tb 2 AA (dn p AA ?_))));refine ci c AA ?_ ?_<;>intro u c
  ·have M:decide (q=0)=false:=by simpa using u
   refine AG AA (zm tb 4 AA (Cn (m:=1) (l:=[Sh.w (p1+d)]) (enc:=eI) AN BH (by decide) rfl AA AA AA AA AA (bs c λe x c=>EI (l2:=[Sh.w (p1+d)]) AN BH AA AA AA AA (MQ AA AA) (λ_=>AA) x AA (zq tb AA ?_))));exact AE (o e (Sh.AF c).symm _ (by refine Wk.trans (CP (L:=[(0,ls eI p0),(1,i64 p1),(5,ow 0 0 e),(6,i64 d)]) (st':=[Bw e,ro 0 3 1 eI [Sh.w (p1+d)]]) (.pure (Ac λ_=>AA) (.pure (Ac λ_=>AA) .nil)) (.same AA)) ?_;exact Ag [0] AA AA (.p .nil) (.same AA)))
  ·have O:decide (q=0)=true:=by simpa using u
   exact AH (o g (Sh.AF c).symm _ (AI AA))
 ·exact Ad (F g (Sh.AF a).symm _ (AI AA))
end
end Go.Proofs.YtccficmcdkcpnaaGreat
