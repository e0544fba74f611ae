import Derived.Test.YtccficmcdkcpnaaGreatGAbsZRToAbsZS
import Derived.Test.YtccficmcdkcpnaaGreatCFWalk
set_option linter.all false
namespace Go.Proofs.YtccficmcdkcpnaaGreat
noncomputable section
open Go Go.Abs RC
attribute [local irreducible] Go.Abs.Dp
set_option maxRecDepth 100000
theorem LU:([16,17,18,19,21,22,23,24,32,44,51,52,53,54,55,56,57,58,59,63,64,65,71,76,96,98,99,100,101,104,105,106,107,108,109,110,111,112,113,114,117,120,121,122,131,137,138,139,160,161,162,163,164,165,166,167,168,169,170,171,172,173,174,175,176,177,178,179,180,181,182,183,184,185,187,188,189,219,220,221,222,223,224,225,226,227,228,229,230,231,232,233,234,235,236,237,239,240,268,269,270,271,282,283,284,285,286,287,288,289,290,292].all λn=>Cr Tryz.prog n)=true:=by kernel_rfl
theorem hb (n:Nat)(h:[16,17,18,19,21,22,23,24,32,44,51,52,53,54,55,56,57,58,59,63,64,65,71,76,96,98,99,100,101,104,105,106,107,108,109,110,111,112,113,114,117,120,121,122,131,137,138,139,160,161,162,163,164,165,166,167,168,169,170,171,172,173,174,175,176,177,178,179,180,181,182,183,184,185,187,188,189,219,220,221,222,223,224,225,226,227,228,229,230,231,232,233,234,235,236,237,239,240,268,269,270,271,282,283,284,285,286,287,288,289,290,292].contains n=true:=by decide):Cr Tryz.prog n=true:=qC.1 LU n (List.contains_iff_mem.1 h)
abbrev FT (z0:List Int)(z1:Int):Go.Abs.Row:=⟨0,144,2,[[ls Fi z0,i64 z1]]⟩
abbrev Lu:Go.Abs.Row:=⟨0,53,3,[[i64 0,i64 0,.zc]]⟩
abbrev Gc (z0 z1:Int)(z2:List AG):Go.Abs.Row:=⟨0,53,3,[[i64 z0,i64 z1,ls BI z2]]⟩
abbrev Rt:Go.Abs.Row:=⟨0,40,2,[[.zc,.zc]]⟩
abbrev na (z0:List AI):Go.Abs.Row:=⟨0,40,2,[[ls Ak z0,.zc]]⟩
abbrev FW (z0:List Int)(z1:Int):Go.Abs.Row:=⟨0,144,2,[[ls Fi z0,i64 z1]]⟩
abbrev LW:Go.Abs.Row:=⟨0,40,2,[[.zc,.zc]]⟩
abbrev cU (z0 z1:Int)(z2:List AG):Go.Abs.Row:=⟨0,53,3,[[i64 z0,i64 z1,ls BI z2]]⟩
abbrev VO (z0:Int):Go.Abs.Row:=⟨0,3,1,[[i64 z0]]⟩
abbrev gy (z0:List AI)(z1:List Ar):Go.Abs.Row:=⟨0,40,2,[[ls Ak z0,ls Bd z1]]⟩
abbrev iI:Go.Abs.Row:=⟨0,104,3,[[i64 0,i64 0,.zc]]⟩
abbrev dw:Go.Abs.Row:=⟨0,65,2,[[.zc,.zc]]⟩
abbrev O8 (z0 z1:Int)(z2:List AG):Go.Abs.Row:=⟨0,53,3,[[i64 z0,i64 z1,ls BI z2]]⟩
abbrev iT:Go.Abs.Row:=⟨0,80,5,[[i64 0,i64 0,i64 0,.zc,.zc]]⟩
abbrev Vs:Go.Abs.Row:=⟨0,48,2,[[.zc,i64 0]]⟩
abbrev Hd (z0:List AI)(z1:List Ar):Go.Abs.Row:=⟨0,40,2,[[ls Ak z0,ls Bd z1]]⟩
abbrev J9 (z0 z1:Int)(z2:List AG):Go.Abs.Row:=⟨0,53,3,[[i64 z0,i64 z1,ls BI z2]]⟩
abbrev Vx (z0:List AI)(z1:List CQ):Go.Abs.Row:=⟨0,30,2,[[ls Ak z0,ls DH z1]]⟩
abbrev dI (z0:List Int)(z1 z2 z3:Int)(z4:List AG):Go.Abs.Row:=⟨0,55,5,[[ls eI z0,i64 z1,i64 z2,i64 z3,ls BI z4]]⟩
abbrev MR:Go.Abs.Row:=⟨0,30,2,[[.zc,.zc]]⟩
abbrev je (z0 z1 z2:Int)(z3:List Int)(z4:List Block):Go.Abs.Row:=⟨0,80,5,[[i64 z0,i64 z1,i64 z2,ls eI z3,ls EZ z4]]⟩
abbrev iD:Go.Abs.Row:=⟨0,48,2,[[.zc,i64 0]]⟩
abbrev hH (z0 z1 z2:Int)(z3:List Int)(z4:List Block):Go.Abs.Row:=⟨0,80,5,[[i64 z0,i64 z1,i64 z2,ls eI z3,ls EZ z4]]⟩
abbrev gw (z0:List AI)(z1:List CQ):Go.Abs.Row:=⟨0,30,2,[[ls Ak z0,ls DH z1]]⟩
abbrev Pe (z0:Bool):Go.Abs.Row:=⟨0,4,1,[[.bool z0]]⟩
abbrev ke (z0:List AI)(z1:List Ar):Go.Abs.Row:=⟨0,40,2,[[ls Ak z0,ls Bd z1]]⟩
abbrev bU (z0:List Step)(z1:Int):Go.Abs.Row:=⟨0,48,2,[[ls C8 z0,i64 z1]]⟩
abbrev Ts (z0:Int):Go.Abs.Row:=⟨0,3,1,[[i64 z0]]⟩
abbrev kM:Go.Abs.Row:=⟨0,104,3,[[i64 0,i64 0,.zc]]⟩
abbrev Hx (z0 z1 z2:_):=([i64 z0,i64 z1,ls BI z2]:List AV)
abbrev Aq:=((.ptr 0 0 0 0):AV)
abbrev PA (z0 z1:_){α2:Type}(z2:List α2):=(⟨0,92,3,[[ls Ak z0,i64 z1,ow 2 0 z2]]⟩:Row)
abbrev iq (z0:_){α1:Type}(z1:List α1):=(⟨0,40,2,[[ls Ak z0,ow 1 0 z1]]⟩:Row)
abbrev PB (z0:_):=((ro 0 55 5 Bd z0):Row)
abbrev Ct:=(⟨1,80,5,[]⟩:Row)
abbrev Ck (z0:_):=((ro 0 80 5 C8 z0):Row)
abbrev ZF (z0 z1 z2 z3 z4:_):=([ls eI z0,i64 z1,i64 z2,i64 z3,ls BI z4]:List AV)
abbrev Cd (z0:_):=((ls Ak z0):AV)
abbrev BP (z0:_):=((ro 0 3 1 eI z0):Row)
abbrev Ca:=((.ptr 2 0 0 0):AV)
abbrev BJ (z0 z1 z2:_):=((.agg (Hx z0 z1 z2)):AV)
abbrev G1:=((.ptr 3 0 0 0):AV)
abbrev DW:=((.ptr 1 0 0 0):AV)
abbrev I0 (z0:Block):=((.agg [ls C8 z0.steps,i64 z0.result]):AV)
abbrev Cb {α0:Type}(z0:List α0):=((i64 (Sh.len z0)):AV)
abbrev Px {α0:Type}(z0:List α0)(z1:_):=(⟨0,206,2,[[ow 2 0 z0,i64 z1]]⟩:Row)
abbrev Cz (z0 z1 z2:_):=((.CT (Hx z0 z1 z2) 0):AV)
abbrev IM (z0:_):=(⟨0,65,2,[Dl z0]⟩:Row)
abbrev S0 (z0 z1:_){α2:Type}(z2:List α2):=(⟨0,92,3,[[Cd z0,i64 z1,ow 1 0 z2]]⟩:Row)
abbrev Tj (z0:Step):=([i64 z0.op,i64 z0.num,i64 z0.Ed,ls eI z0.args,ls EZ z0.kids]:List AV)
abbrev Jn (z0 z1:_):=((.agg [Cd z0,ls Bd z1]):AV)
abbrev Il (z0:_){α1:Type}(z1:List α1):=((.agg [Cd z0,ow 1 0 z1]):AV)
abbrev Gx:=(⟨1,53,3,[]⟩:Row)
abbrev Ic (z0:_):=((ro 0 53 3 BI z0):Row)
abbrev ZB (z0 z1:_){α2:Type}(z2:List α2):=(⟨0,80,5,[[i64 z0,i64 z1,i64 0,ow 4 0 z2,.zc]]⟩:Row)
abbrev iy (z0 z1:_):=((.CT [i64 0,i64 0,ls CP [z0,z1]] 0):AV)
abbrev I1 (z0:_):=((.agg (Dl z0)):AV)
abbrev QL:=(⟨1,104,3,[]⟩:Row)
abbrev Kv (z0:_):=((ro 0 3 1 eI [z0]):Row)
abbrev Jo (z0:_):=((ro 0 104 3 Ak z0):Row)
abbrev JG:=(⟨0,53,3,[]⟩:Row)
abbrev Lz (z0 z1 z2:_):=([PA z0 z1 z2,Ct,Ck z2]:List Row)
abbrev YX:=((.sl (List.map Ak [])):AV)
abbrev Mc (z0:_):=((.ptr 1 0 (Int.toNat z0) 0):AV)
abbrev OA:=(⟨1,106,1,[]⟩:Row)
abbrev Tp (z0 z1:_){α2:Type}(z2:List α2):=(⟨0,92,3,[[Cd z0,i64 z1,ow 4 0 z2]]⟩:Row)
abbrev Qz (z0 z1:_):=((.Dv [.agg (Ak z0),.bool z1]):AV)
abbrev JU (z0:_):=((ls BI z0):AV)
abbrev Kp (z0:_):=((i64 (Sh.w (z0+1))):AV)
abbrev Y2 (z0:_){α1:Type}(z1:List α1):=(⟨0,30,2,[[Cd z0,ow 2 0 z1]]⟩:Row)
abbrev Nu (z0 z1:_):=([Px z0 z1,Ct,Ck z0]:List Row)
abbrev YF (z0 z1:_):=([⟨0,206,2,[[ow 1 0 z0,i64 z1]]⟩,Ck z0]:List Row)
abbrev Qg (z0:_):=((ro 0 48 2 EZ z0):Row)
abbrev iV (z0 z1:_)(z2:Step):=([Px z0 z1,Ct,Ck z0,je z2.op z2.num z2.Ed z2.args z2.kids,ro 0 80 5 C8 [z2]]:List Row)
abbrev Ut (z0:_):=((ro 0 50 5 DH z0):Row)
abbrev GZ (z0 z1 z2 z3 z4:_):=((.agg (ZF z0 z1 z2 z3 z4)):AV)
abbrev jD (z0 z1:_):=((.CT [Cd z0,ls Bd z1] 0):AV)
abbrev Va {α0:Type}(z0:List α0)(z1:_):=(⟨0,206,2,[[ow 6 0 z0,i64 z1]]⟩:Row)
abbrev O5 (z0 z1 z2 z3 z4 z5:_):=((ro 0 55 5 Bd [z0,z1,z2,z3,z4,z5]):Row)
abbrev Wq (z0 z1 z2 z3 z4:_):=([PA z0 z1 z2,Ct,Ck z2,BP z3,Kv z4]:List Row)
abbrev Sv:=((.sl (List.map eI [])):AV)
abbrev dF:=([YX,.sl (List.map DH [])]:List AV)
abbrev dB:=((.sl (List.map CP [])):AV)
abbrev Ky (z0:_):=((.agg (CP z0)):AV)
abbrev Y7:=((ro 0 80 5 C8 ([]:List Step)):Row)
abbrev bw (z0:Ax):=([Cd z0.decls,ls DH z0.AU]:List AV)
abbrev ak (z0 z1:_){α2:Type}(z2:List α2):=(⟨0,92,3,[[Cd z0,i64 z1,ow 5 0 z2]]⟩:Row)
abbrev Pd:=((.ptr 4 0 0 0):AV)
abbrev fL:=((.sl (List.map BI [])):AV)
abbrev S6:=([⟨1,3,1,[]⟩]:List Row)
abbrev Pq (z0 z1 z2:_):=([S0 z0 z1 z2,Ck z2]:List Row)
abbrev ig (z0 z1:_){α2:Type}(z2:List α2):=(⟨0,80,5,[[i64 z0,i64 z1,i64 0,ow 3 0 z2,.zc]]⟩:Row)
abbrev Y9 (z0 z1 z2 z3:_):=([PA z0 z1 z2,Ct,Ck z2,BP z3]:List Row)
abbrev Xv (z0:_):=(⟨0,104,3,[Ak z0]⟩:Row)
abbrev Yn (z0:_){α1:Type}(z1:List α1)(z2 z3 z4:_):=([Aq,Il z0 z1,ls eI z2,i64 z3,i64 z4]:List AV)
abbrev bt (z0 z1 z2 z3 z4 z5:_):=([PA z0 z1 z2,Ct,Ck z2,ZB z3 z4 z5,BP z5]:List Row)
abbrev dT {α0:Type}(z0:List α0)(z1:_):=(⟨0,206,2,[[ow 5 0 z0,i64 z1]]⟩:Row)
abbrev jZ:=((.own 0 0 (List.length ([]:List Int))):AV)
abbrev Uf (z0:_):=((ro 0 53 3 BI [z0]):Row)
abbrev lM (z0:_)(z1:Step)(z2:_):=([IM z0,hH z1.op z1.num z1.Ed z1.args z1.kids,BP z2]:List Row)
abbrev UU (z0:_):=((.CT (Ak z0) 0):AV)
abbrev eH (z0:_){α1:Type}(z1:List α1):=(⟨0,40,2,[[Cd z0,ow 1 1 z1]]⟩:Row)
abbrev iu (z0 z1:_){α2:Type}(z2:List α2):=(⟨0,92,3,[[Cd z0,i64 z1,ow 6 0 z2]]⟩:Row)
abbrev jU (z0:_){α1:Type}(z1:List α1):=([[Cd z0,ow 3 0 z1]]:List (List AV))
abbrev mY:=([YX,.sl (List.map Cj [])]:List AV)
abbrev Y6 (z0:_):=((ls (eS eI) z0):AV)
abbrev Y0:=(⟨1,55,5,[]⟩:Row)
abbrev br (z0 z1:_):=([Cd z0,ls DH z1]:List AV)
abbrev J8 (z0:_):=((ls eI z0):AV)
abbrev mC (z0 z1 z2:_):=([S0 z0 z1 z2,Ck z2,Vs,⟨0,92,3,[[.zc,i64 0,.zc]]⟩]:List Row)
abbrev kT (z0:_):=((.agg [i64 0,i64 0,ls CP [z0]]):AV)
abbrev nS (z0 z1 z2:_):=(⟨0,92,3,[[Cd z0,i64 (Sh.w (z1+z2)),.own 5 0 (List.length ([]:List Step))]]⟩:Row)
abbrev iS (z0 z1 z2 z3:_):=([PA z0 z1 z2,Ct,Ck z2,iT,Kv z3]:List Row)
abbrev jR:=([i64 0,i64 0,dB]:List AV)
abbrev X2 (z0:_):=((ls Cj z0):AV)
abbrev bF (z0 z1 z2 z3 z4:_):=((.CT (ZF z0 z1 z2 z3 z4) 0):AV)
abbrev ny (z0:_){α1:Type}(z1:List α1):=(⟨0,92,3,[[Cd z0,Cb z1,.own 7 0 (List.length ([]:List Step))]]⟩:Row)
abbrev Yu (z0:AI):=((i64 (Sh.len z0.cons)):AV)
abbrev XK (z0 z1 z2:_):=([PA z0 z1 z2,Ck z2]:List Row)
abbrev dk (z0 z1 z2:_):=([Cd z0,i64 (Sh.w (z1+z2)),.zc]:List AV)
abbrev kR:=((.agg [i64 1,i64 0,.zc]):AV)
abbrev jd (z0:Block):=([ls C8 z0.steps,i64 z0.result]:List AV)
abbrev U0 (z0:_):=((.CT (eI z0) 0):AV)
abbrev iR:=([i64 0,i64 0,.zc]:List AV)
abbrev YS (z0 z1 z2 z3 z4 z5:_):=([Jn z0 z1,ls eI z2,BJ z3 z4 z5]:List AV)
abbrev Yo:=((.ptr 5 0 0 0):AV)
abbrev kB {α0:Type}(z0:List α0)(z1:_):=(⟨0,206,2,[[ow 3 0 z0,i64 z1]]⟩:Row)
abbrev ji (z0:_){α1:Type}(z1:List α1):=(⟨0,30,2,[[Cd z0,ow 1 0 z1]]⟩:Row)
abbrev eN:=(⟨1,48,2,[]⟩:Row)
abbrev Z7 (z0:_):=((.CT (Bd z0) 0):AV)
abbrev cg (z0:_):=((ro 1 55 5 Bd z0):Row)
abbrev lb:=((.agg [i64 0,i64 1,.zc]):AV)
abbrev iU:=(⟨0,104,3,[]⟩:Row)
abbrev jS (z0:_):=((.ptr 4 0 (Int.toNat z0) 0):AV)
abbrev jE (z0:_):=((ro 0 122 3 Cj z0):Row)
abbrev mF (z0 z1:_):=((.agg [i64 0,i64 0,ls CP [z0,z1]]):AV)
abbrev fA (z0 z1:_):=([MR,Y2 z0 z1,Ut z1]:List Row)
abbrev ni:=((.own 1 0 (List.length ([]:List Step))):AV)
abbrev iZ:=(⟨0,55,5,[]⟩:Row)
abbrev nL (z0 z1:_):=([ls eI z0,i64 z1,i64 0,i64 0,fL]:List AV)
abbrev gx (z0 z1:_):=([ls C8 z0,i64 z1]:List AV)
abbrev au (z0 z1 z2:_):=((.CT (Hx z0 z1 z2) 1):AV)
abbrev lr:=((.ptr 2 0 (Int.toNat 0) 0):AV)
abbrev lA (z0 z1 z2 z3:_):=([PA z0 z1 z2,Ct,Ck z2,Kv z3]:List Row)
abbrev eY:=((.ptr 2 0 0 1):AV)
abbrev aZ (z0:_):=((.agg (Ak z0)):AV)
abbrev ju:=((ls eI [(0:Int)]):AV)
abbrev jl:=(⟨0,106,1,[]⟩:Row)
set_option maxHeartbeats 4000000
abbrev Bn (f:FuncId)(a:List AV)(r:List Go.Abs.Row)(v:AV)(s:List Go.Abs.Row):Prop:=BS Tryz.prog f a r λx y=>x=v/\y=s
def tb:MK Tryz.prog where
 t:=[(102,false,1),(104,true,3),(106,true,1),(122,true,3),(27,false,1),(28,false,1),(3,false,1),(30,true,2),(37,false,1),(38,false,1),(4,false,1),(40,true,2),(45,false,1),(46,false,1),(48,true,2),(5,false,1),(50,true,5),(51,false,1),(53,true,3),(55,true,5),(63,false,1),(65,true,2),(78,false,1),(80,true,5),(92,true,3)]
 f:=[(104,0,0),(104,1,1),(104,2,2),(106,0,0),(122,0,0),(122,1,1),(122,2,2),(144,0,0),(144,1,1),(206,0,0),(206,1,1),(30,0,0),(30,1,1),(40,0,0),(40,1,1),(48,0,0),(48,1,1),(50,0,0),(50,1,1),(50,2,2),(50,3,3),(53,0,0),(53,1,1),(53,2,2),(55,0,0),(55,1,1),(55,2,2),(65,0,0),(65,1,1),(80,0,0),(80,1,1),(80,2,2),(80,3,3),(80,4,4),(92,0,0),(92,1,1),(92,2,2)]
 v:=[]
 b:=[4]
 s:=[102,134,27,28,37,38,45,46,51,63,78]
 ht:=by kernel_rfl
 hf:=by kernel_rfl
 hv:=by kernel_rfl
 hb:=by kernel_rfl
 hs:=by kernel_rfl
section
variable {k n : Nat} {ops : Array Oper} {Q : Exit -> St -> Prop} {st : List Row} {e e' : Nat -> AV} {ds ds' : List (Option Tmp)} {t : Tmp} {op : Op} {ty : TypeId} {ps : String} {ed : Array Edge} {v : AV} {r l l' : List Oper} {jj id : Nat} {b want : Bool} {x : Operand} {t' : TypeId} {α : Type} {enc : α -> List AV} {xs : List α} {y : Code}
theorem AR (h:qL tb ⟨n,e,st⟩ op=some v)(hk:AO Tryz.prog k ops Q (ds++[some t]) r ⟨n,Dr e t v,st⟩):AO Tryz.prog k ops Q ds (⟨some t,op,ty,ps,ed,none⟩::r) ⟨n,e,st⟩:=zq tb h hk
theorem Am (hb:b=want)(h:gL tb ds jj ⟨n,e,st⟩ op=some (b,v))(hk:AO Tryz.prog k ops Q (ds++[some t]) r ⟨n,Dr e t v,st⟩):AO Tryz.prog k ops Q ds (⟨some t,op,ty,ps,ed,some (jj,want)⟩::r) ⟨n,e,st⟩:=zg tb hb h hk
theorem Ae (m:Nat)(h:Go.Abs.runN tb n st m l ds e=some (l',ds',e'))(hk:AO Tryz.prog k ops Q ds' l' ⟨n,e',st⟩):AO Tryz.prog k ops Q ds l ⟨n,e,st⟩:=zm tb m h hk
theorem Al (h:(Go.Abs.Zj tb n st ops.toList e,ops.toList.all λo=>DG n o.dst)=(some e',true))(hk:AW Tryz.prog k y Q ⟨n,e',st⟩):AW Tryz.prog k (.seq (.region id ops false) y) Q ⟨n,e,st⟩:=zr tb (rC Prod.fst h) (rC Prod.snd h) hk
theorem Cc (h:(has tb.s t',St.ev ⟨n,e,st⟩ x)=(true,.sl (xs.map enc)))(hk:AO Tryz.prog k ops Q (ds++[some t]) r ⟨n,Dr e t (i64 (Sh.len xs)),st⟩):AO Tryz.prog k ops Q ds (⟨some t,.call ⟨.builtin .len,#[x],#[t']⟩,ty,ps,ed,none⟩::r) ⟨n,e,st⟩:=zl tb (rC Prod.fst h) (rC Prod.snd h) hk
end
abbrev E1 (z0:List Int)(z1:Int):Go.Abs.Row:=⟨0,144,2,[[ls Fi z0,i64 z1]]⟩
abbrev KM:Go.Abs.Row:=⟨0,53,3,[[i64 0,i64 0,.zc]]⟩
abbrev KN (z0 z1:Int)(z2:List AG):Go.Abs.Row:=⟨0,53,3,[[i64 z0,i64 z1,ls BI z2]]⟩
abbrev Yq (z0:List AI)(z1:List Ar):Go.Abs.Row:=⟨0,40,2,[[ls Ak z0,ls Bd z1]]⟩
abbrev Cw (r:List (Go.Abs.Row)):=⟨1,3,1,[]⟩::⟨1,3,1,[]⟩::r
abbrev Pt (r:List (Go.Abs.Row)):=⟨0,3,1,[]⟩::⟨0,3,1,[]⟩::⟨0,3,1,[]⟩::r
abbrev Ef (z0:_)(r:List (Nat×AV)):=(0,Aq)::(2,ls eI z0)::r
abbrev Qc (z0 z1 z2:_)(r:List (Nat×AV)):=(0,Aq)::(2,i64 z0)::(3,i64 z1)::(5,Ca)::(8,G1)::(9,J8 z2)::r
abbrev HF (z0:List Int)(z1:Int)(z2 z3:_)(r:List (Go.Abs.Row)):=(FT z0 z1)::(PB z2)::(iq z3 z2)::Lu::r
abbrev Pp (z0 z1:_)(r:List (Nat×AV)):=(0,Aq)::(2,i64 z0)::(4,Ca)::(6,G1)::(7,J8 z1)::r
abbrev Hb (z0:List Int)(z1:Int)(z2 z3:_)(r:List (Go.Abs.Row)):=(E1 z0 z1)::(PB z2)::(iq z3 z2)::KM::r
abbrev IZ (z0 z1 z2:_)(r:List (Go.Abs.Row)):=(PA z0 z1 z2)::Ct::(Ck z2)::r
abbrev UJ (z0 z1 z2 z3:_)(r:List (Nat×AV)):=(1,ls eI z0)::(3,Y6 z1)::(4,Aq)::(9,i64 z2)::(10,i64 z3)::r
abbrev S9 (z0 z1:_)(r:List (Nat×AV)):=(3,i64 z0)::(4,i64 z1)::(6,Ca)::(10,G1)::r
abbrev YK (z0 z1:_)(r:List (Nat×AV)):=(13,G1)::(110,JU z0)::(111,Cb z0)::(112,i64 z1)::r
abbrev aQ (z0 z1 z2:_){α3:Type}(z3:List α3)(z4 z5:_)(r:List (Nat×AV)):=(4,Cz z0 z1 z2)::(8,G1)::(9,ow 6 0 z3)::(70,JU z4)::(71,Cb z4)::(72,i64 z5)::r
abbrev TF (z0 z1:_)(r:List (Nat×AV)):=(13,JU z0)::(14,Cb z0)::(15,i64 z1)::r
abbrev R4 (z0:_)(r:List (Nat×AV)):=(1,ls eI z0)::(3,Aq)::(5,DW)::r
abbrev YP (z0 z1 z2 z3 z4 z5 z6 z7:_)(r:List (Nat×AV)):=(1,jD z0 z1)::(2,Aq)::(3,DW)::(4,i64 z2)::(5,bF z3 z4 z5 z6 z7)::r
abbrev D2 (z0:List Int)(z1:Int)(z2:_)(r:List (Go.Abs.Row)):=(E1 z0 z1)::(PB z2)::r
abbrev Q8 (r:List (Nat×AV)):=(0,Aq)::(2,DW)::(3,G1)::r
abbrev QV (z0 z1:_)(r:List (Nat×AV)):=(2,i64 z0)::(3,ls eI z1)::r
abbrev ZD (z0 z1:_)(r:List (Nat×AV)):=(4,DW)::(65,i64 z0)::(67,i64 z1)::r
abbrev fT (z0:_){α1:Type}(z1:List α1)(z2:_)(r:List (Nat×AV)):=(1,i64 z0)::(2,Aq)::(5,ow 1 0 z1)::(6,i64 z2)::r
abbrev Lk (z0 z1:_)(r:List (Go.Abs.Row)):=(PB z0)::(iq z1 z0)::r
abbrev lD (z0 z1 z2:_)(r:List (Nat×AV)):=(4,Cz z0 z1 z2)::(8,G1)::(49,i64 z0)::(51,i64 z1)::r
abbrev kI {α0:Type}(z0:List α0)(z1 z2:_)(r:List (Nat×AV)):=(3,ow 1 0 z0)::(63,ow 1 0 z0)::(64,i64 z1)::(66,i64 z2)::r
abbrev fH (z0 z1:_)(r:List (Nat×AV)):=(70,JU z0)::(71,Cb z0)::(72,i64 z1)::r
abbrev MI (z0:List Int)(z1:Int)(z2:_)(r:List (Go.Abs.Row)):=(FT z0 z1)::(PB z2)::r
abbrev S4 (z0:List Int)(z1:Int)(z2:List AI)(r:List (Go.Abs.Row)):=(FT z0 z1)::Rt::QL::(na z2)::r
abbrev aM (z0:List Int)(z1:Int)(z2:_)(r:List (Go.Abs.Row)):=(FW z0 z1)::(Jo z2)::⟨1,3,1,[]⟩::r
abbrev Yx {α0:Type}(z0:List α0){α1:Type}(z1:List α1)(r:List (Nat×AV)):=(10,Cb z0)::(11,ow 4 0 z1)::r
abbrev bL (z0 z1 z2 z3:_)(r:List (Nat×AV)):=(0,Aq)::(3,iy z0 z1)::(4,iy z2 z3)::r
abbrev bA (z0 z1 z2 z3:_)(r:List (Nat×AV)):=(3,i64 z0)::(5,Cz z1 z2 z3)::(8,Ca)::r
abbrev gz (z0:Int)(z1:_)(r:List (Nat×AV)):=(7,.bool (decide (z0=0)))::(15,i64 z1)::r
abbrev cy (r:List (Go.Abs.Row)):=OA::QL::⟨1,3,1,[]⟩::r
abbrev oF (z0:Ax){α1:Type}(z1:List α1)(r:List (Go.Abs.Row)):=(Vx z0.decls z0.AU)::⟨0,65,2,[[.zc,.zc]]⟩::⟨0,65,2,jU z0.decls z1⟩::r
abbrev ek (z0 z1 z2:_){α3:Type}(z3:List α3)(r:List (Nat×AV)):=(34,Aq)::(38,BJ z0 z1 z2)::(43,ow 3 0 z3)::r
abbrev lK (z0:_)(z1:Step)(r:List (Go.Abs.Row)):=(IM z0)::(hH z1.op z1.num z1.Ed z1.args z1.kids)::r
abbrev nM (z0 z1:_)(r:List (Nat×AV)):=(0,Cd z0)::(3,i64 z1)::(4,Aq)::(12,Cd z0)::(13,Cb z0)::(14,i64 z1)::r
abbrev ij (z0 z1:_)(r:List (Go.Abs.Row)):=MR::⟨0,30,2,jU z0 z1⟩::(Ut z1)::r
abbrev mZ (z0 z1 z2:_)(r:List (Nat×AV)):=(4,DW)::(64,Cz z0 z1 z2)::(66,au z0 z1 z2)::r
abbrev QZ (z0:List Int)(z1:Int)(z2:_)(r:List (Go.Abs.Row)):=(FT z0 z1)::Lu::(Ic z2)::r
abbrev lF (r:List (Nat×AV)):=(8,i64 (-1))::(9,.bool false)::r
abbrev kJ (r:List (Nat×AV)):=(6,i64 (-1))::(7,.bool false)::r
abbrev iG (r:List (Nat×AV)):=(2,Aq)::(3,.bool false)::r
abbrev VL (z0 z1 z2:_)(r:List (Nat×AV)):=(4,Cz z0 z1 z2)::(8,G1)::r
abbrev UH (z0 z1 z2:_)(r:List (Go.Abs.Row)):=(Kv z0)::(Qg z1)::(BP z2)::r
abbrev mX {α0:Type}(z0:List α0)(z1:_)(r:List (Nat×AV)):=(3,ow 1 0 z0)::(27,ow 1 0 z0)::(28,i64 z1)::r
abbrev mP (z0 z1 z2:_)(r:List (Nat×AV)):=(4,Cz z0 z1 z2)::(49,i64 z0)::(51,i64 z1)::r
abbrev lx (z0:_)(r:List (Nat×AV)):=(0,Aq)::(3,ls eI z0)::(5,G1)::(6,Pd)::r
theorem LQ:HM Tryz.prog 104=true:=by kernel_rfl
theorem eR:HM Tryz.prog 106=true:=by kernel_rfl
theorem nx:HM Tryz.prog 144=true:=by kernel_rfl
theorem fr:HM Tryz.prog 53=true:=by kernel_rfl
theorem cc:HM Tryz.prog 55=true:=by kernel_rfl
theorem LS:Ig Tryz.prog 104=some [(0,1),(1,1),(2,1)]:=by kernel_rfl
theorem dt:Ig Tryz.prog 106=some [(0,1)]:=by kernel_rfl
theorem nU:Ig Tryz.prog 144=some [(0,1),(1,1)]:=by kernel_rfl
theorem gW:Ig Tryz.prog 53=some [(0,1),(1,1),(2,1)]:=by kernel_rfl
theorem cD:Ig Tryz.prog 55=some [(0,1),(1,1),(2,3)]:=by kernel_rfl
theorem dm:fX Tryz.prog 5 3=some .i64:=by kernel_rfl
theorem Hg:DR Tryz.prog 102=some ⟨106,1,24,[.sl []]⟩:=by kernel_rfl
theorem DZ:DR Tryz.prog 27=some ⟨104,3,40,[.int .i64 0,.int .i64 0,.sl []]⟩:=by kernel_rfl
theorem fp:DR Tryz.prog 37=some ⟨5,1,1,[.int .u8 0]⟩:=by kernel_rfl
theorem Ee:DR Tryz.prog 38=some ⟨55,5,72,[.sl [],.int .i64 0,.int .i64 0,.int .i64 0,.sl []]⟩:=by kernel_rfl
theorem BE:DR Tryz.prog 45=some ⟨3,1,8,[.int .i64 0]⟩:=by kernel_rfl
theorem Bq:DR Tryz.prog 51=some ⟨53,3,40,[.int .i64 0,.int .i64 0,.sl []]⟩:=by kernel_rfl
theorem kX:HH Tryz.prog 104 0=some 0:=by kernel_rfl
theorem bK:HH Tryz.prog 40 0=some 0:=by kernel_rfl
theorem Qi:HH Tryz.prog 40 1=some 1:=by kernel_rfl
theorem W3:HH Tryz.prog 55 0=some 0:=by kernel_rfl
theorem Oe:DB Tryz.prog 102=true:=by kernel_rfl
theorem pF:DB Tryz.prog 37=true:=by kernel_rfl
theorem FY:DB Tryz.prog 45=true:=by kernel_rfl
theorem Hl:De Tryz.prog 104=some (true,3):=by kernel_rfl
theorem Ns:De Tryz.prog 106=some (true,1):=by kernel_rfl
theorem gZ:De Tryz.prog 27=some (false,1):=by kernel_rfl
theorem HP:De Tryz.prog 3=some (false,1):=by kernel_rfl
theorem TN:De Tryz.prog 38=some (false,1):=by kernel_rfl
theorem IL:De Tryz.prog 40=some (true,2):=by kernel_rfl
theorem Mi:De Tryz.prog 45=some (false,1):=by kernel_rfl
theorem BY:De Tryz.prog 53=some (true,3):=by kernel_rfl
theorem Mf:De Tryz.prog 55=some (true,5):=by kernel_rfl
theorem Ev:HN Tryz.prog 104=some [.int .i64 0,.int .i64 0,.zc]:=by kernel_rfl
theorem Pf:HN Tryz.prog 106=some [.zc]:=by kernel_rfl
theorem nV:HN Tryz.prog 144=some [.zc,.int .i64 0]:=by kernel_rfl
theorem GG:HN Tryz.prog 53=some [.int .i64 0,.int .i64 0,.zc]:=by kernel_rfl
theorem PZ:HN Tryz.prog 55=some [.zc,.int .i64 0,.int .i64 0,.int .i64 0,.zc]:=by kernel_rfl
theorem TY {p0:(List Int)}{r:(List Int)×Int}(h0:Jk p0=some r):Bn 52 [ls Fi p0] [] Aq [E1 r.1 r.2]:=by
 unfold Jk at h0;refine Cx Tryz.func52 AA (Al AA (AD λk c=>bs h0 λg b h0=>?_));have h:∀{a},JJ g a ⟨11,AL [(0,ls Fi a)],[]⟩ k:=by
  rintro _ ⟨⟩ s l;refine c _ (AF l (Ai λp d=>AR AA (zz (.agg [ls Fi g,i64 0]) (DA nx nU nV AA AA) rfl (Et 0 AA (AR AA (Ad d ?_))))));cases h0;exact rt [(2,Aq)]
 refine Ai λq e=>AR AA (Cc AA (AR AA (Ad e ?_)));refine Az b ?_ ?_<;>intro t b
 ·exact AE AA (AR AA (bs b λn f b=>Sd (i:=0) (j:=2000) AT fp AA AA AA Cv f (AR AA (AB (h b Au)))))
 ·exact AH (h b Au)
theorem EH {p0:(List Int)}{r:EK}(h0:Fz p0=some r):Bn 223 [ls eI p0] [] (Ky r) []:=by
 unfold Fz at h0;refine Dd AA (Cx Tryz.func223 AA (Ai λc a=>Cn 0 Pf AA (Ad a (Ai λd b=>AR AA (zz (.agg [ls eI p0]) (DA eR dt Pf AA AA) rfl (Bp Ns AA (Ad b ?_)))))));cases h0;exact Ap ⟨_,Wk.refl _ _,Gw (.tmp 2) [ls eI p0] Ns AA _ AA⟩
theorem Aw {uT:(List Int)}{uV p1:Int}{r:Int×Int}(h0:Ay uT uV p1=some r):Bn 160 [Aq,i64 p1] [E1 uT uV] (i64 r.1) [E1 uT r.2]:=by
 unfold Ay at h0;refine Cx Tryz.func160 AA (Al AA (Ai λR z=>Ae 8 AA (Bp HP AA (Ad z (AD λS A=>AD λI B=>bs h0 λG e h0=>?_)))));have H:∀C,G=C->∀s,Wk 1 s ⟨99,AL [(0,Aq),(1,i64 p1),(24,.bool C)],[⟨0,144,2,[[ls Fi uT,Kp uV]]⟩]⟩->I s:=by
  intro C T s J;subst G;refine B _ (AF J ?_);refine Az h0 ?_ ?_<;>intro U h0
  ·refine Al AA ?_;cases h0;exact rt [(4,i64 0)]
  ·refine AH (A _ (Al AA (AD λK f=>Ai λL g=>Ae 5 AA (Cc AA (AR AA (Ad g ?_))))));refine Az h0 ?_ ?_<;>intro M h0
   ·refine Ai λN h=>Ae 5 AA (bs h0 λD i h0=>Gz fp i AA (AR AA (zz (i64 (Sh.wk .i64 D)) (eX dm AA) rfl (AR AA (bs h0 λj k h0=>zz (i64 j) (UK AA AA k) rfl (AR AA (Ad h ?_)))))));cases h0;exact rt [(4,i64 j)]
   ·refine AH (f _ (AD λO l=>CZ (by kernel_rfl) (by kernel_rfl) (by rfl) ?_));iterate 9 refine yq tb rfl ?_
    refine yl tb AA AA (bs h0 λE m h0=>yz (i64 E) (UK AA AA m) rfl (bs h0 λb n h0=>Mt fp n AA (yq tb AA (yz (i64 (Sh.wk .i64 b)) (eX dm AA) rfl ?_))));iterate 12 refine yq tb rfl ?_
    refine yl tb AA AA (bs h0 λF o h0=>yz (i64 F) (UK AA AA o) rfl (bs h0 λc p h0=>Mt fp p AA (yq tb AA (yz (i64 (Sh.wk .i64 c)) (eX dm AA) rfl ?_))));iterate 10 refine yq tb rfl ?_
    refine yl tb AA AA (bs h0 λd q h0=>yz (i64 d) (XY AA AA q) rfl ?_);iterate 3 refine yq tb rfl ?_
    refine Ao (l _ (Ai λP t=>Ae 2 AA (zz (i64 (Sh.w (Int.tdiv (Sh.w ((Sh.w ((Sh.w ((Sh.w ((Sh.wk .i64 b)*131))+(Sh.w ((Sh.wk .i64 c)*1117))))+(Sh.w ((Sh.w ((Sh.w (uV+1))-1))*29))))+(Sh.w (d*53)))) 64))) (XA AA AA (by decide)) rfl (zz (i64 (Sh.xor (Sh.w ((Sh.w ((Sh.w ((Sh.w ((Sh.wk .i64 b)*131))+(Sh.w ((Sh.wk .i64 c)*1117))))+(Sh.w ((Sh.w ((Sh.w (uV+1))-1))*29))))+(Sh.w (d*53)))) (Sh.w (Int.tdiv (Sh.w ((Sh.w ((Sh.w ((Sh.w ((Sh.wk .i64 b)*131))+(Sh.w ((Sh.wk .i64 c)*1117))))+(Sh.w ((Sh.w ((Sh.w (uV+1))-1))*29))))+(Sh.w (d*53)))) 64)))) (ln AA AA) rfl (AR AA (Ad t (Ai λQ u=>Ae 2 AA (bs h0 λx y h0=>zz (i64 x) (UK AA AA y) rfl (AR AA (Ad u ?_))))))))));cases h0;exact rt [(4,i64 x)]
 refine AE AA (Ae 3 AA ?_);rcases Sh.Aa e with ⟨a,e⟩|⟨a,e⟩
 ·refine zs a AA ?_;iterate 5 refine zs a rfl ?_
  exact zt a AA (AB (H true (BU e) _ Au))
 ·refine Am a AA ?_;iterate 3 refine Am a rfl ?_
  exact DQ (Cb uT) a (By pF AA) (Am a AA (zf a AA (AB (H (decide ((Sh.len uT)=0)) (BU e) _ Au))))
theorem Ot {uT:(List Int)}{uV:Int}{r:(List AI)×Int}(h0:IT uT uV=some r):Bn 165 [Aq] [E1 uT uV] (ow 1 0 r.1) [E1 uT r.2,Jo r.1]:=by
 unfold IT at h0;refine Cx Tryz.func165 AA (Al AA (Ai λT F=>CF 1 ([]:List Int) eI BE AA (D8 [(0,Aq),(8,Sv)] [E1 uT uV,⟨1,3,1,[]⟩] 1 AA ⟨.rfl,.Bg AA,pw⟩ Cv AA (bs h0 λe G h0=>Dj (Ky e) (hb 223) (EH G) rfl (CF 2 [(0:Int),1] eI BE AA (D8 [(0,Aq),(9,Ky e),(10,ls eI [(0:Int),1])] ((E1 uT uV)::Cw []) 2 AA ⟨.rfl,.rfl,.Bg AA,pw⟩ Cv AA (bs h0 λf H h0=>Dj (Ky f) (hb 223) (EH H) rfl (CF 3 [e,f] CP Hg AA (zz (.agg [i64 0,i64 0,ow 3 0 [e,f]]) (DA LQ LS Ev AA AA) rfl (Cn 4 Ev AA (D8 [(0,Aq),(3,Pd),(13,mF e f)] ((E1 uT uV)::Cw [OA,⟨0,104,3,[iR]⟩]) 3 AA ⟨.rfl,.rfl,.agg ⟨.rfl,.rfl,.Gs AA,pw⟩,pw⟩ Cv AA (Bp Hl AA (BD (Wk.Bg (L:=[(0,Aq),(3,iy e f)]) (st':=((E1 uT uV)::Cw [OA,QL])) (id:=4) rfl uK (Di AA) (.same AA) rfl) (Ad F (Ai λU I=>CF 5 ([]:List Int) eI BE AA (D8 [(0,Aq),(3,iy e f),(14,Sv)] ((E1 uT uV)::Cw (cy [])) 5 AA ⟨.rfl,.rfl,.Bg AA,pw⟩ Cv AA (bs h0 λg J h0=>Dj (Ky g) (hb 223) (EH J) rfl (CF 6 [(3:Int),0,3] eI BE AA (D8 [(0,Aq),(3,iy e f),(15,Ky g),(16,ls eI [(3:Int),0,3])] ((E1 uT uV)::Cw (OA::QL::Cw [])) 6 AA ⟨.rfl,.rfl,.rfl,.Bg AA,pw⟩ Cv AA (bs h0 λh K h0=>Dj (Ky h) (hb 223) (EH K) rfl (CF 7 [g,h] CP Hg AA (zz (.agg [i64 0,i64 0,ow 7 0 [g,h]]) (DA LQ LS Ev AA AA) rfl (Cn 8 Ev AA (D8 [(0,Aq),(3,iy e f),(4,.ptr 8 0 0 0),(19,mF g h)] ((E1 uT uV)::Cw (OA::QL::Cw [OA,⟨0,104,3,[iR]⟩])) 7 AA ⟨.rfl,.rfl,.rfl,.agg ⟨.rfl,.rfl,.Gs AA,pw⟩,pw⟩ Cv AA (Bp Hl AA (BD (Wk.Bg (L:=(bL e f g h [])) (st':=((E1 uT uV)::Cw (OA::QL::Cw [OA,QL]))) (id:=8) rfl (show 1<=8 by decide) (Di AA) (.same AA) rfl) (Ad I (Ai λV M=>CF 9 [(1:Int),3] eI BE AA (D8 (bL e f g h [(20,ls eI [(1:Int),3])]) ((E1 uT uV)::Cw (OA::QL::Cw (cy []))) 9 AA ⟨.rfl,.rfl,.rfl,.Bg AA,pw⟩ Cv AA (bs h0 λi N h0=>Dj (Ky i) (hb 223) (EH N) rfl (CF 10 [i] CP Hg AA (zz (.agg [i64 0,i64 0,ow 10 0 [i]]) (DA LQ LS Ev AA AA) rfl (zz kR (DA LQ LS Ev AA AA) rfl (CF 11 [(1:Int),1,0] eI BE AA (D8 (bL e f g h [(23,.agg [i64 0,i64 0,ow 10 0 [i]]),(24,kR),(25,ls eI [(1:Int),1,0])]) ((E1 uT uV)::Cw (OA::QL::Cw (cy [ro 0 106 1 CP [i],⟨1,3,1,[]⟩]))) 11 AA ⟨.rfl,.rfl,.rfl,.agg ⟨.rfl,.rfl,.rfl,pw⟩,.rfl,.Bg AA,pw⟩ Cv AA (bs h0 λa t h0=>Dj (Ky a) (hb 223) (EH t) rfl (CF 12 [(0:Int)] eI BE AA (D8 (bL e f g h [(23,.agg [i64 0,i64 0,ow 10 0 [i]]),(24,kR),(26,Ky a),(27,ju)]) ((E1 uT uV)::Cw (OA::QL::Cw (cy ((ro 0 106 1 CP [i])::Cw [])))) 12 AA ⟨.rfl,.rfl,.rfl,.agg ⟨.rfl,.rfl,.rfl,pw⟩,.rfl,.rfl,.Bg AA,pw⟩ Cv AA (bs h0 λb u h0=>Dj (Ky b) (hb 223) (EH u) rfl (CF 13 [(3:Int)] eI BE AA (D8 (bL e f g h [(23,.agg [i64 0,i64 0,ow 10 0 [i]]),(24,kR),(26,Ky a),(28,Ky b),(29,ls eI [(3:Int)])]) ((E1 uT uV)::Cw (OA::QL::Cw (cy ((ro 0 106 1 CP [i])::Cw [⟨1,3,1,[]⟩])))) 13 AA ⟨.rfl,.rfl,.rfl,.agg ⟨.rfl,.rfl,.rfl,pw⟩,.rfl,.rfl,.rfl,.Bg AA,pw⟩ Cv AA (bs h0 λd w h0=>Dj (Ky d) (hb 223) (EH w) rfl (CF 14 [a,b,d] CP Hg AA (zz (.agg [i64 0,i64 0,ow 14 0 [a,b,d]]) (DA LQ LS Ev AA AA) rfl (zz lb (DA LQ LS Ev AA AA) rfl (D8 (bL e f g h [(23,kT i),(24,kR),(32,.agg [i64 0,i64 0,ow 14 0 [a,b,d]]),(33,lb)]) ((E1 uT uV)::Cw (OA::QL::Cw (cy (OA::Cw [⟨1,3,1,[]⟩,ro 0 106 1 CP [a,b,d]])))) 10 AA ⟨.rfl,.rfl,.rfl,.agg ⟨.rfl,.rfl,.Gs AA,pw⟩,.rfl,.agg ⟨.rfl,.rfl,.rfl,pw⟩,.rfl,pw⟩ Cv AA (BD (Dh (bL e f g h [(23,kT i),(24,.agg [i64 1,i64 0,dB]),(32,.agg [i64 0,i64 0,ow 14 0 [a,b,d]]),(33,lb)]) ⟨.rfl,.rfl,.rfl,.rfl,.agg ⟨.rfl,.rfl,.zc,pw⟩,.rfl,.rfl,pw⟩) (D8 (bL e f g h [(23,kT i),(24,.agg [i64 1,i64 0,dB]),(32,.agg [i64 0,i64 0,ls CP [a,b,d]]),(33,lb)]) ((E1 uT uV)::Cw (OA::QL::Cw (cy (OA::Cw [⟨1,3,1,[]⟩,OA])))) 14 AA ⟨.rfl,.rfl,.rfl,.rfl,.rfl,.agg ⟨.rfl,.rfl,.Gs AA,pw⟩,.rfl,pw⟩ Cv AA (BD (Dh (bL e f g h [(23,kT i),(24,.agg [i64 1,i64 0,dB]),(32,.agg [i64 0,i64 0,ls CP [a,b,d]]),(33,.agg [i64 0,i64 1,dB])]) ⟨.rfl,.rfl,.rfl,.rfl,.rfl,.rfl,.agg ⟨.rfl,.rfl,.zc,pw⟩,pw⟩) (CF 15 ([AI.mk 0 0 [i],AI.mk 1 0 [],AI.mk 0 0 [a,b,d],AI.mk 0 1 []]) Ak DZ AA (AR AA (Ad M (Ai λP y=>AR AA (zz (.agg iR) (DA LQ LS Ev AA AA) rfl (AR AA (BD (Dh [(0,Aq),(5,.own 15 0 (List.length ([AI.mk 0 0 [i],AI.mk 1 0 [],AI.mk 0 0 [a,b,d],AI.mk 0 1 []]))),(35,mF e f),(36,.agg jR),(37,mF g h)] ⟨.rfl,.rfl,.rfl,.agg ⟨.rfl,.rfl,.zc,pw⟩,.rfl,pw⟩) (CF 16 ([AI.mk 0 0 [e,f],AI.mk 0 0 [],AI.mk 0 0 [g,h]]) Ak DZ AA (AR AA (Ad y (Ai λQ z=>AR AA (bs h0 λj A h0=>IE ((E1 uT j.2)::Cw (OA::QL::Cw (cy (OA::Cw [⟨1,3,1,[]⟩,OA,ro 0 104 3 Ak ([AI.mk 0 0 [i],AI.mk 1 0 [],AI.mk 0 0 [a,b,d],AI.mk 0 1 []]),ro 0 104 3 Ak ([AI.mk 0 0 [e,f],AI.mk 0 0 [],AI.mk 0 0 [g,h]])])))) (i64 j.1) [0] AT (hb 160) (Aw A) rfl AA ?_)))))))))))))))))))))))))))))))))))))))))))))))))))))))))))));refine AR AA (Ad z (AD λO B=>bs h0 λC n h0=>?_));have D:∀k,C=k->∀s,Wk 1 s ⟨51,AL [(6,ow 1 0 k)],[E1 uT j.2,Jo k]⟩->O s:=by
  intro k W s R;subst C;refine B _ (AF R (Al AA ?_));cases h0;exact rt [(2,ow 1 0 k)]
 refine Al AA ?_;refine Az n ?_ ?_<;>intro S n
 ·refine AE AA (Ae 3 AA (bs n λo p n=>zz (.ptr 15 0 (Int.toNat j.1) 0) (HC DZ AA p) rfl (zz (aZ o) (DD Hl AA AA (CM p) tr rfl) rfl (CF 17 [o] Ak DZ AA (bs n λq E n=>Lb [o] DZ AA (E8 AA AA) E (AR AA ?_))))));exact AB (D q (BU n) _ (by refine Wk.trans (CS (L:=[(6,ow 16 0 q)]) (st':=((E1 uT j.2)::⟨0,3,1,[]⟩::⟨0,3,1,[]⟩::jl::iU::⟨0,3,1,[]⟩::⟨0,3,1,[]⟩::jl::iU::⟨0,3,1,[]⟩::jl::Pt [jl,ro 0 104 3 Ak ([AI.mk 0 0 [i],AI.mk 1 0 [],AI.mk 0 0 [a,b,d],AI.mk 0 1 []]),Jo q,ro 0 104 3 Ak [o]])) (.raw AA AA AA (.pure AA nN (.pure AA nN (.pure AA nN (.pure AA nN (.pure AA nN (.pure AA nN (.pure AA nN (.pure AA nN (.pure AA nN (.pure AA nN (.pure AA nN (.pure AA nN (.pure AA nN (.pure AA nN (.pure AA Bf (.pure AA Bf (.pure AA Bf .nil)))))))))))))))))) (.same AA)) ?_;exact BH [0,16] (.w (.p .nil)) (.same AA)))
 ·exact AH (D ([AI.mk 0 0 [e,f],AI.mk 0 0 [],AI.mk 0 0 [g,h]]) (BU n) _ (BH [0,16] (.w (.p .nil)) (.same AA)))
theorem Dx {p0:(List Int)}{p1:Int}{r:Ar}(h0:FU p0 p1=some r):Bn 166 [ls eI p0,i64 p1] [] (GZ r.params r.result r.body.op r.body.num r.body.kids) []:=by
 unfold FU at h0;refine Dd AA (Cx Tryz.func166 AA (Ai λc a=>Cn 0 PZ AA (Ad a (Ai λd b=>Ae 2 AA (zz (.agg [ls eI p0,i64 p1,i64 0,i64 0,.zc]) (DA cc cD PZ AA AA) rfl (Bp Mf AA (Ad b ?_)))))));cases h0;exact Ap ⟨_,(Hk (id:=0) (cs:=[ls eI p0,i64 p1,i64 0,i64 0,.zc]) (cs':=(nL p0 p1)) (st':=[⟨0,55,5,[nL p0 p1]⟩]) rfl ⟨le.rfl,le.rfl,le.rfl,le.rfl,le.zc,pw⟩ AA AA).trans (Dh [(4,Aq)] (.same AA)),Gw (.tmp 4) (nL p0 p1) Mf AA _ AA⟩
theorem CG {uT:(List Int)}{uV:Int}{p1:(List Int)}{r:Int×Int}(h0:CC uT uV p1=some r):Bn 163 [Aq,ls eI p1] [E1 uT uV] (i64 r.1) [E1 uT r.2]:=by
 unfold CC at h0;refine Cx Tryz.func163 AA (Al AA (Ai λf a=>Ae 3 AA (Cc AA (bs h0 λb c h0=>IE [E1 uT b.2] (i64 b.1) [0] AT (hb 160) (Aw c) rfl AA (bs h0 λe d h0=>Gz BE d AA (Ae 2 AA (Ad a ?_)))))));cases h0;exact rt [(4,i64 e)]
theorem VV {N:Nat}{p0:(List Int)}{p1 r:Int}(h0:Lc N p0 p1=some r):Bn 224 [ls eI p0,i64 p1] [] (i64 r) []:=by
 unfold Lc at h0;refine Cx Tryz.func224 AA (Al AA (AD λk f=>Al AA ?_));obtain⟨g,a,h0⟩:=Sh.BZ h0;have l:JJ g (.inr ()) ⟨19,AL [],[]⟩ k:=by
  rintro⟨⟩ s m;refine f _ (AF m (Al AA ?_));cases h0;exact rt [(4,i64 (-1))]
 refine AJ (Le (GV p0 p1) (λe=>⟨19,AL [(0,ls eI p0),(1,i64 p1),(5,i64 e)],[]⟩) N 0 a Au ?_);intro n e a;rw[GV]at a;refine AD λx h=>Ai λy i=>Ae 2 AA (Cc AA (AR AA (Ad i ?_)));refine Az a ?_ ?_<;>intro z a
 ·refine AH (h _ (AD λo b=>AJ (Ai λp c=>Ae 2 AA (bs a λq d a=>Gz BE d AA (Ae 3 AA (Ad c ?_))))));refine Az a ?_ ?_<;>intro t a
  ·refine Al AA ?_;cases a;cases h0;exact rt [(4,i64 e)]
  ·exact AH (b _ (AE AA (Ae 3 AA (AB (xi (Sh.w (e+1)) a Au)))))
 ·exact As (l a Au)
theorem Dt {p0:Int}{r:AG}(h0:F5 p0=some r):Bn 221 [i64 p0] [] (BJ r.op r.num r.kids) []:=by
 unfold F5 at h0;refine Dd AA (Cx Tryz.func221 AA (Ai λc a=>Cn 0 GG AA (Ad a (Ai λd b=>AR AA ?_))));refine CF 1 ([]:List AG) BI Bq (by simp only[List.map,Aj];rfl) ?_;refine zz (.agg [i64 0,i64 p0,.own 1 0 (List.length ([]:List AG))]) (DA fr gW GG AA AA) rfl (BD (Wk.Bg (L:=[(2,Aq),(5,.agg [i64 0,i64 p0,fL])]) (st':=[KM,Gx]) (id:=1) rfl uL (AM Ag) ⟨.rfl,.agg ⟨.rfl,.rfl,.Gs AA,pw⟩,pw⟩ AA) (Bp BY AA (Ad b ?_)));cases h0;exact Ap ⟨_,Wk.refl _ _,Gw (.tmp 2) [i64 0,i64 p0,fL] BY AA _ AA⟩
theorem TJ {N:Nat}{p0:(List Int)}{p1:Int}{r:(List Int)}(h0:JK N p0 p1=some r):Bn 288 [ls eI p0,i64 p1] [] (ow 0 0 r) [BP r]:=by
 unfold JK at h0;refine Cx Tryz.func288 AA (Al AA (Ai λM u=>CF 0 ([]:List Int) eI BE AA (AR AA (Ad u (AD λC x=>Al AA (bs h0 λy a h0=>?_))))));have D:∀{f},JJ y f ⟨25,AL [(5,ow 0 0 f)],[BP f]⟩ C:=by
  rintro _ ⟨⟩ s z;try dsimp only at h0
  refine x _ (AF z (Al AA ?_));obtain rfl:=Sh.Bt h0;exact rt [(4,ow 0 0 y)]
 refine AJ (KB (El p0 p1) (λd g=>⟨25,AL [(0,ls eI p0),(1,i64 p1),(5,ow 0 0 g),(6,i64 d)],[ro 0 3 1 eI g]⟩) N 0 [] a Au ?_);intro n d g a;rw[El]at a;refine AD λF h=>Ai λG i=>Ae 2 AA (Cc AA (AR AA (Ad i ?_)));refine Az a ?_ ?_<;>intro H a
 ·refine AH (h _ (AD λA j=>bs a λk c a=>?_));have o:∀{b},JJ k b ⟨25,AL [(0,ls eI p0),(1,i64 p1),(5,ow 0 0 b),(6,i64 d)],[BP b]⟩ A:=by
   rintro _ ⟨⟩ s z;exact j _ (AF z (AE AA (Ae 3 AA (AB (xi (Sh.w (d+1),k) a Au)))))
  refine AJ (Ai λI p=>Ae 2 AA (bs c λJ q c=>Gz BE q AA (Ae 3 AA (Ad p ?_))));refine Az c ?_ ?_<;>intro K c
  ·refine AE AA (Ae 2 AA (CF 1 [d] eI BE AA (bs c λe t c=>Lb [d] BE AA (E8 AA AA) t (AR AA ?_))));exact AB (o c (by refine Wk.trans (Eh (L:=[(0,ls eI p0),(1,i64 p1),(5,ow 0 0 e),(6,i64 d)]) (st':=[BP e,Kv d]) (.pure Bf (.pure Bf .nil)) (.same AA)) ?_;exact BH [0] (.p .nil) (.same AA)))
  ·exact AH (o c Au)
 ·exact As (D a Au)
theorem EN {p0 p1 p2:Int}{r:Bool}(h0:Bv p0 p1 p2=some r):Bn 174 [i64 p0,i64 p1,i64 p2] [] (.bool r) []:=by
 unfold Bv at h0;refine Cx Tryz.func174 AA (Al AA (AD λg d=>bs h0 λe b h0=>?_));have f:∀{c},JJ e c ⟨15,AL [(6,.bool c)],[]⟩ g:=by
  rintro _ ⟨⟩ s h;try dsimp only at h0
  refine d _ (AF h ?_);obtain rfl:=Sh.Bt h0;exact rt [(6,.bool e)]
 refine AE AA (Ae 4 AA ?_);rcases Sh.Aa b with ⟨a,b⟩|⟨a,b⟩
 ·exact Am a AA (Am a AA (Am a AA (zt a AA (AR AA (AB (f b Au))))))
 ·exact zs a AA (zs a AA (zs a AA (zf a AA (AR AA (AB (f b Au))))))
theorem K0 {p0:(List AI)}{p1:Int}{r:Bool}(h0:F7 p0 p1=some r):Bn 183 [Cd p0,i64 p1] [] (.bool r) []:=by
 unfold F7 at h0;refine Cx Tryz.func183 AA (Al AA (AD λj d=>bs h0 λh b h0=>?_));have i:∀{c},JJ h c ⟨19,AL [(4,.bool c)],[]⟩ j:=by
  rintro _ ⟨⟩ s k;try dsimp only at h0
  refine d _ (AF k ?_);obtain rfl:=Sh.Bt h0;exact rt [(4,.bool h)]
 refine AE AA (Ae 2 AA (Cc AA (bs b λm e b=>HX (hb 174) (EN e) rfl (AR AA ?_))));rcases Sh.Aa b with ⟨a,b⟩|⟨a,b⟩
 ·exact Am a AA (Am a AA (Am a AA (bs b λf g b=>DQ (UU f) a (JT DZ AA g) (Am a AA (Am a AA (DQ (Yu f) a (By Oe AA) (Am a AA (zt a AA (AR AA (AB (i b Au)))))))))))
 ·refine zs a AA ?_;iterate 7 refine zs a rfl ?_
  exact zf a AA (AR AA (AB (i b Au)))
theorem QO {N:Nat}{p0:(List AI)}{p1 p2 r:Int}(h0:Hr N p0 p1 p2=some r):Bn 235 [Cd p0,i64 p1,i64 p2] [] (i64 r) []:=by
 unfold Hr at h0;refine Cx Tryz.func235 AA (Al AA (AD λy m=>Al AA ?_));obtain⟨o,c,h0⟩:=Sh.BZ h0;have z:JJ o (.inr ()) ⟨41,AL [],[]⟩ y:=by
  rintro⟨⟩ s p;refine m _ (AF p (Al AA ?_));cases h0;exact rt [(6,i64 (-1))]
 refine AJ (Le (GR p0 p1 p2) (λi=>⟨41,AL [(0,ls Ak p0),(1,i64 p1),(2,i64 p2),(7,i64 i)],[]⟩) N 0 c Au ?_);intro n i c;rw[GR]at c;refine AD λD q=>Ai λE t=>Ae 2 AA (Cc AA (AR AA (Ad t ?_)));refine Az c ?_ ?_<;>intro F c
 ·refine AH (q _ (AD λB j=>AJ (AD λu k=>bs c λl d c=>?_)));have f:∀{g},JJ l g ⟨41,AL [(0,Cd p0),(1,i64 p1),(2,i64 p2),(7,i64 i),(38,.bool g)],[]⟩ u:=by
   rintro _ ⟨⟩ s p;refine k _ (AF p ?_);refine Az c ?_ ?_<;>intro C c
   ·refine Al AA ?_;cases c;cases h0;exact rt [(6,Kp i)]
   ·exact AH (j _ (AE AA (Ae 3 AA (AB (xi (Sh.w (i+1)) c Au)))))
  refine AE AA (Ae 2 AA (bs d λh e d=>Gz DZ e AA (Ae 2 AA (Cc AA (Ae 2 AA ?_)))));rcases Sh.Aa d with ⟨a,d⟩|⟨a,d⟩
  ·refine Am a AA (Am a AA (DQ (UU h) a (JT DZ AA e) ?_));iterate 4 refine Am a rfl ?_
   refine zt a AA (AR AA ?_);rcases Sh.Aa d with ⟨b,d⟩|⟨b,d⟩
   ·refine Am b AA (Am b AA (DQ (UU h) b (JT DZ AA e) ?_));iterate 4 refine Am b rfl ?_
    exact zt b AA (AB (f d Au))
   ·refine zs b AA ?_;iterate 6 refine zs b rfl ?_
    exact zf b AA (AB (f d Au))
  ·refine zs a AA ?_;iterate 6 refine zs a rfl ?_
   refine zf a AA (AR AA ?_);iterate 7 refine zs rfl rfl ?_
   exact zf AA AA (AB (f d Au))
 ·exact As (z c Au)
theorem PW {N:Nat}{p0:AP}{p1:Int}{r:(List Int)}(h0:JS N p0 p1=some r):Bn 292 [Jn p0.decls p0.funcs,i64 p1] [] (ow 0 0 r) [BP r]:=by
 unfold JS at h0;refine Cx Tryz.func292 AA (Ai λZ H=>Et 0 AA (AR AA (Ad H (Ai λK2 I=>CF 1 ([]:List Int) eI BE AA (AR AA (Ad I (AD λS J=>Al AA (bs h0 λK b h0=>?_))))))));have T:∀{k},JJ K k ⟨53,AL [(5,ow 0 0 k)],[BP k]⟩ S:=by
  rintro _ ⟨⟩ s o;try dsimp only at h0
  refine J _ (AF o (Al AA ?_));obtain rfl:=Sh.Bt h0;exact rt [(4,ow 0 0 K)]
 refine AJ (KB (Fo N p0 p1) (λf h=>⟨53,AL [(1,i64 p1),(2,.ptr 0 0 0 0),(5,ow 1 0 h),(6,i64 f)],[Yq p0.decls p0.funcs,ro 0 3 1 eI h]⟩) N 0 [] b Au ?_);intro n f h b;rw[Fo]at b;refine AD λU p=>Ai λV q=>Ae 3 AA (Cc AA (AR AA (Ad q ?_)));refine Az b ?_ ?_<;>intro W b
 ·refine AH (p _ (AD λM t=>bs b λu c b=>?_));have x:∀{d},JJ u d ⟨53,AL (fT p1 d f []),[Yq p0.decls p0.funcs,BP d]⟩ M:=by
   rintro _ ⟨⟩ s o;exact t _ (AF o (AE AA (Ae 3 AA (AB (xi (Sh.w (f+1),u) b Au)))))
  refine AJ (Ai λX y=>Ae 3 AA (bs c λz e c=>Gz Ee e AA (Ae 2 AA (Cc AA (AR AA (Ad y (AD λO A=>bs c λB g c=>?_)))))));have C:∀{i},JJ B i ⟨53,AL (fT p1 h f [(47,.bool i)]),[Yq p0.decls p0.funcs,BP h]⟩ O:=by
   rintro _ ⟨⟩ s o;refine A _ (AF o ?_);refine Az c ?_ ?_<;>intro Y c
   ·refine AE AA (Ae 2 AA (CF 2 [f] eI BE AA (bs c λj D c=>Lb [f] BE AA (E8 AA AA) D (AR AA ?_))));exact AB (x c (by refine Wk.trans (Eh (L:=(fT p1 j f [])) (st':=[Yq p0.decls p0.funcs,BP j,Kv f]) (.raw AA AA (.pure Bf (.pure Bf .nil))) (.same AA)) ?_;exact BH [0,1] (.w (.p .nil)) (.same AA)))
   ·exact AH (x c Au)
  refine CZ (by kernel_rfl) (by kernel_rfl) (by rfl) ?_;iterate 3 refine yq tb rfl ?_
  rcases Sh.Aa g with ⟨a,g⟩|⟨a,g⟩
  ·refine yg tb a AA ?_;iterate 4 refine yg tb a rfl ?_
   refine I7 (v:=(Z7 z)) (GF AA AA a) rfl (JT Ee AA e) ?_;iterate 4 refine yg tb a rfl ?_
   refine bs g λP E g=>I7 (v:=(U0 P)) (GF AA AA a) rfl (JT BE AA E) ?_;iterate 4 refine yg tb a rfl ?_
   refine I7 (v:=(Z7 z)) (GF AA AA a) rfl (JT Ee AA e) ?_;iterate 2 refine yg tb a rfl ?_
   refine bs g λF G g=>Ls (v:=(i64 F)) (GF AA AA a) (hb 235) (QO G) rfl AA AA ?_;iterate 2 refine yg tb a rfl ?_
   exact yt a AA (Ao (C g Au))
  ·refine ys a AA ?_;iterate 20 refine ys a rfl ?_
   exact yf a AA (Ao (C g Au))
 ·exact As (T b (BH [1] (.p .nil) (.same AA)))
theorem TP {N:Nat}{p0:(List Int)}{p1:Int}{r:Bool}(h0:L3 N p0 p1=some r):Bn 131 [ls eI p0,i64 p1] [] (.bool r) []:=by
 unfold L3 at h0;refine Cx Tryz.func131 AA (Al AA (AD λk e=>Al AA ?_));obtain⟨f,a,h0⟩:=Sh.BZ h0;have l:JJ f (.inr ()) ⟨18,AL [],[]⟩ k:=by
  rintro⟨⟩ s m;refine e _ (AF m (Al AA ?_));cases h0;exact rt [(4,.bool false)]
 refine AJ (Le (Ht p0 p1) (λg=>⟨18,AL [(0,ls eI p0),(1,i64 p1),(5,i64 g)],[]⟩) N 0 a Au ?_);intro n g a;rw[Ht]at a;refine AD λx h=>Ai λy i=>Ae 2 AA (Cc AA (AR AA (Ad i ?_)));refine Az a ?_ ?_<;>intro z a
 ·refine AH (h _ (AD λo b=>AJ (Ai λp c=>Ae 2 AA (bs a λq d a=>Gz BE d AA (Ae 3 AA (Ad c ?_))))));refine Az a ?_ ?_<;>intro t a
  ·refine Al AA ?_;cases a;cases h0;exact rt [(4,.bool true)]
  ·exact AH (b _ (AE AA (Ae 3 AA (AB (xi (Sh.w (g+1)) a Au)))))
 ·exact As (l a Au)
theorem LH {N:Nat}{p0:AP}{p1:(List Int)}{p2:Int}{r:Bool}(h0:Hq N p0 p1 p2=some r):Bn 289 [Jn p0.decls p0.funcs,ls eI p1,i64 p2] [] (.bool r) []:=by
 unfold Hq at h0;refine Cx Tryz.func289 AA (Ai λq e=>Et 0 AA (AR AA (Ad e (AD λn f=>bs h0 λk a h0=>?_))));have g:∀{d},JJ k d ⟨24,AL [(6,.bool d)],[]⟩ n:=by
  rintro _ ⟨⟩ s o;try dsimp only at h0
  refine f _ (AF o ?_);obtain rfl:=Sh.Bt h0;exact rt [(6,.bool k)]
 refine AE AA (Ae 3 AA (bs a λu h a=>HX (hb 183) (K0 h) rfl (Ae 2 AA ?_)));rcases Sh.Aa a with ⟨b,a⟩|⟨b,a⟩
 ·refine zs b AA ?_;iterate 4 refine zs b rfl ?_
  refine zt b AA (AR AA ?_);iterate 3 refine zs rfl rfl ?_
  exact zt AA AA (AR AA (AB (g a (Bi _ AA))))
 ·refine Am b AA (Am b AA (bs a λl i a=>HZ (v':=(ow 1 0 l)) (GF AA AA b) (hb 292) (PW i) rfl AA ⟨(Bj λ_=>AA),pw⟩ AA AA (DQ (Cb l) b (C9 FY AA AA AA) (Am b AA (zf b AA (AR AA ?_))))));rcases Sh.Aa a with ⟨c,a⟩|⟨c,a⟩
  ·exact zs c AA (zs c AA (zs c AA (zt c AA (AR AA (AB (g a (Bi _ AA)))))))
  ·exact Am c AA (Am c AA (bs a λp j a=>Oz c (TP j) rfl (zf c AA (AR AA (AB (g a (Bi _ AA)))))))
theorem CO {p0:Int}{r:AG}(h0:Ci p0=some r):Bn 222 [i64 p0] [] (BJ r.op r.num r.kids) []:=by
 unfold Ci at h0;refine Dd AA (Cx Tryz.func222 AA (Ai λc a=>Cn 0 GG AA (Ad a (Ai λd b=>AR AA ?_))));refine CF 1 ([]:List AG) BI Bq (by simp only[List.map,Aj];rfl) ?_;refine zz (.agg [i64 12,i64 p0,.own 1 0 (List.length ([]:List AG))]) (DA fr gW GG AA AA) rfl (BD (Wk.Bg (L:=[(2,Aq),(5,.agg [i64 12,i64 p0,fL])]) (st':=[KM,Gx]) (id:=1) rfl uL (AM Ag) ⟨.rfl,.agg ⟨.rfl,.rfl,.Gs AA,pw⟩,pw⟩ AA) (Bp BY AA (Ad b ?_)));cases h0;exact Ap ⟨_,Wk.refl _ _,Gw (.tmp 2) [i64 12,i64 p0,fL] BY AA _ AA⟩
theorem ML {N:Nat}{p0:(List AI)}{p1 r:Int}(h0:IA N p0 p1=some r):Bn 233 [Cd p0,i64 p1] [] (i64 r) []:=by
 unfold IA at h0;refine Cx Tryz.func233 AA ?_;iterate 2 refine Al rfl ?_
 refine AD λj e=>Al AA (bs h0 λf a h0=>?_);have k:∀{n7},JJ f n7 ⟨21,AL [(5,i64 n7)],[]⟩ j:=by
  rintro _ ⟨⟩ s l;try dsimp only at h0
  refine e _ (AF l (Al AA ?_));obtain rfl:=Sh.Bt h0;exact rt [(4,i64 f)]
 refine AJ (KB (Fl p0 p1) (λn5 g=>⟨21,AL [(0,ls Ak p0),(1,i64 p1),(5,i64 n5),(6,i64 g)],[]⟩) N 0 0 a Au ?_);intro n n5 g a;rw[Fl]at a;refine AD λm b=>Al AA ?_;refine Az a ?_ ?_<;>intro o a
 ·exact AH (b _ (AD λp c=>AJ (AE AA (Ae 3 AA (bs a λh d a=>Gz DZ d AA (Ae 2 AA (Cc AA (Ae 2 AA (Ad c (AE AA (Ae 3 AA (AB (xi (Sh.w (n5+(Sh.len h.cons)),Sh.w (g+1)) a Au)))))))))))))
 ·exact As (k a Au)
theorem Jm {N:Nat}{p0:(List AI)}{p1:Int}{r:(List Int)}(h0:Gj N p0 p1=some r):Bn 234 [Cd p0,i64 p1] [] (ow 0 0 r) [BP r]:=by
 unfold Gj at h0;refine Cx Tryz.func234 AA (Al AA (Ai λK t=>CF 0 ([]:List Int) eI BE AA (AR AA (Ad t (AD λM u=>Ai λO x=>Ae 2 AA (Cc AA (bs h0 λB y h0=>HX (hb 174) (EN y) rfl (AR AA (Ad x ?_)))))))));refine Az h0 ?_ ?_<;>intro C h0
 ·have P:B=false:=by simpa using C
  refine Al AA ?_;cases h0;exact rt [(4,jZ)]
 ·have Q:B=true:=by simpa using C
  refine AH (u _ (AD λz h=>Al AA (bs h0 λe a h0=>?_)));have A:∀{c},JJ e c ⟨35,AL [(5,ow 0 0 c)],[BP c]⟩ z:=by
   rintro _ ⟨⟩ s E;try dsimp only at h0
   refine h _ (AF E (Al AA ?_));obtain rfl:=Sh.Bt h0;exact rt [(4,ow 0 0 e)]
  refine AJ (KB (Gq N p0 p1) (λb d=>⟨35,AL [(0,ls Ak p0),(1,i64 p1),(5,ow 0 0 d),(6,i64 b)],[ro 0 3 1 eI d]⟩) N 0 [] a Au ?_);intro n b d a;rw[Gq]at a;refine AD λF i=>Ai λG j=>Ae 4 AA (bs a λH k a=>Gz DZ k AA (Ae 2 AA (Cc AA (AR AA (Ad j ?_)))));refine Az a ?_ ?_<;>intro I a
  ·refine AH (i _ (AD λJ o=>AJ (AE AA (Ae 4 AA (bs a λf p a=>HX (hb 233) (ML p) rfl (Ae 2 AA (CF 1 [Sh.w (f+b)] eI BE AA (bs a λg q a=>Lb [Sh.w (f+b)] BE AA (E8 AA AA) q (AR AA (Ad o (AE AA (Ae 3 AA ?_))))))))))));exact AB (xi (Sh.w (b+1),g) a (by refine Wk.trans (Eh (L:=[(0,Cd p0),(1,i64 p1),(5,ow 0 0 g),(6,Kp b)]) (st':=[BP g,ro 0 3 1 eI [Sh.w (f+b)]]) (.pure Bf (.pure Bf .nil)) (.same AA)) ?_;exact BH [0] (.p .nil) (.same AA)))
  ·exact As (A a Au)
theorem Mw {N:Nat}{p0:(List AI)}{p1 r:Int}(h0:DU N p0 p1=some r):Bn 178 [Cd p0,i64 p1] [] (i64 r) []:=by
 unfold DU at h0;refine Cx Tryz.func178 AA (Al AA (AD λo i=>Al AA ?_));obtain⟨j,a,h0⟩:=Sh.BZ h0;have p:JJ j (.inr ()) ⟨30,AL [],[]⟩ o:=by
  rintro⟨⟩ s q;refine i _ (AF q (Al AA ?_));cases h0;exact rt [(4,i64 (-1))]
 refine AJ (Le (Ei N p0 p1) (λh=>⟨30,AL [(0,ls Ak p0),(1,i64 p1),(5,i64 h)],[]⟩) N 0 a Au ?_);intro n h a;rw[Ei]at a;refine AD λD k=>Ai λE l=>Ae 2 AA (Cc AA (AR AA (Ad l ?_)));refine Az a ?_ ?_<;>intro F a
 ·refine AH (k _ (AD λt b=>AJ (Ai λu c=>Ae 2 AA (bs a λx d a=>HX (hb 233) (ML d) rfl (AR AA (Ad c (Ai λy e=>Ae 5 AA (bs a λz f a=>Gz DZ f AA (Ae 2 AA (Cc AA (Ae 2 AA (bs a λA g a=>HX (hb 174) (EN g) rfl (Ad e ?_)))))))))))));refine Az a ?_ ?_<;>intro B a
  ·refine Al AA ?_;cases a;cases h0;exact rt [(4,Kp h)]
  ·exact AH (b _ (AE AA (Ae 3 AA (AB (xi (Sh.w (h+1)) a Au)))))
 ·exact As (p a Au)
theorem E9 {N:Nat}{p0:(List AI)}{p1:Int}{r:(List Int)}(h0:BV N p0 p1=some r):Bn 180 [Cd p0,i64 p1] [] (ls eI r) []:=by
 unfold BV at h0;refine Cx Tryz.func180 AA (Al AA (Ai λk c=>Ae 2 AA (bs h0 λn d h0=>HX (hb 178) (Mw d) rfl (AR AA (Ad c (AD λo e=>Al AA ?_))))));refine Az h0 ?_ ?_<;>intro p h0
 ·refine Ai λq f=>CF 0 ([]:List Int) eI BE AA (AR AA (Ad f ?_));cases h0;exact Ap (Exists.intro ⟨27,AL [(4,Sv)],[]⟩ (And.intro (by refine Wk.trans (Wk.Bg (L:=[(4,Sv)]) (st':=S6) (id:=0) rfl tw Bf ⟨.Bg AA,pw⟩ AA) ?_;exact BH [] .nil (.same AA)) (And.intro AA AA)))
 ·refine AH (e _ (AD λs g=>CZ (by kernel_rfl) (by kernel_rfl) (by rfl) ?_));iterate 3 refine yq tb rfl ?_
  refine bs h0 λt h h0=>Mt DZ h AA ?_;iterate 6 refine yq tb rfl ?_
  refine bs h0 λi a h0=>Fa (ML a) (yq tb AA (bs h0 λj b h0=>Mt Hg b AA ?_));iterate 3 refine yq tb rfl ?_
  refine Ao (g _ ?_);cases h0;exact rt [(4,ls eI j.fields)]
theorem BT {p0 p1:Int}{p2:(List AG)}{r:AG}(h0:Bl p0 p1 p2=some r):Bn 220 (Hx p0 p1 p2) [] (BJ r.op r.num r.kids) []:=by
 unfold Bl at h0;refine Dd AA (Cx Tryz.func220 AA (Ai λc a=>Cn 0 GG AA (Ad a (Ai λd b=>Ae 3 AA (zz (BJ p0 p1 p2) (DA fr gW GG AA AA) rfl (Bp BY AA (Ad b ?_)))))));cases h0;exact Ap ⟨_,Wk.refl _ _,Gw (.tmp 6) (Hx p0 p1 p2) BY AA _ AA⟩
theorem QF {uT:(List Int)}{uV:Int}{r:Int×Int}(h0:J5 uT uV=some r):Bn 287 [Aq] [E1 uT uV] (i64 r.1) [E1 uT r.2]:=by
 unfold J5 at h0;refine Cx Tryz.func287 AA (Al AA (Ai λj e=>Ae 2 AA (bs h0 λb f h0=>IE [E1 uT b.2] (i64 b.1) [0] AT (hb 160) (Aw f) rfl AA (AR AA (bs h0 λc g h0=>IE [E1 uT c.2] (i64 c.1) [0] AT (hb 160) (Aw g) rfl AA (AR AA (bs h0 λa h h0=>IE [E1 uT a.2] (i64 a.1) [0] AT (hb 160) (Aw h) rfl AA (ll (m:=1) (st':=[E1 uT a.2,ro 0 3 1 eI [b.1,c.1,0,1,2,-1,3,a.1,999,-998]]) (l:=[b.1,c.1,0,1,2,-1,3,a.1,999,-998]) (enc:=eI) AT BE (by decide) rfl AA ⟨AA,AA,AA,⟨AA,AA,AA,⟨AA,AA,AA,⟨AA,AA,AA,⟨AA,AA,AA,⟨AA,AA,AA,⟨AA,AA,AA,⟨AA,AA,AA,⟨AA,AA,AA,⟨AA,AA,AA,pw⟩⟩⟩⟩⟩⟩⟩⟩⟩⟩ AA AA AA (D8 [(3,Aq),(10,ls eI [b.1,c.1,0,1,2,-1,3,a.1,999,-998])] [E1 uT a.2,⟨1,3,1,[]⟩] 1 AA ⟨.rfl,.Bg AA,pw⟩ Cv AA (bs h0 λd i h0=>IE [E1 uT d.2,⟨1,3,1,[]⟩] (i64 d.1) [0] AT (hb 163) (CG i) rfl AA (AR AA (Ad e ?_))))))))))));cases h0;exact Ap (xr (BH (L:=[(2,i64 d.1)]) (st':=[E1 uT d.2]) [0] (.w .nil) ⟨.rfl,pw⟩))
theorem TG {N:Nat}{vG:(List Int)->Int->(List Ar)->(List AI)->Int->Option (AG×Int)}(wC :∀{uT:(List Int)} {uV:Int} {s1:(List Ar)} {uW:(List AI)} {p2:Int} {r:AG×Int},vG uT uV s1 uW p2=some r->Bn 290 [Aq,Il uW s1,i64 p2] (D2 uT uV s1 []) (BJ r.1.op r.1.num r.1.kids) (D2 uT r.2 s1 [])){uT:(List Int)}{uV:Int}{s1:(List Ar)}{uW:(List AI)}{p2:Int}{r:AG×Int}(h0:JR N vG uT uV s1 uW p2=some r):Bn 290 [Aq,Il uW s1,i64 p2] (D2 uT uV s1 []) (BJ r.1.op r.1.num r.1.kids) (D2 uT r.2 s1 []):=by
 unfold JR at h0;refine BS.wk (r0:=(BJ r.1.op r.1.num r.1.kids)) (st0:=(D2 uT r.2 s1 [KN r.1.op r.1.num r.1.kids])) (Cx Tryz.func290 AA (Ai λK1 k4=>Et 2 AA (Cn 3 GG AA (Ad k4 (Ai λK2 k5=>Ae 3 AA (bs h0 λP k6 h0=>La (ow 4 0 P) (Jm k6) ⟨(Bj λ_=>AA),pw⟩ (AR AA (Ad k5 (AD λK4 k7=>Ai λK5 k8=>AR AA (zz (Cb P) (C9 FY AA AA AA) rfl (AR AA (Ad k8 ?_)))))))))))) (Fy (L:=[(0,BJ r.1.op r.1.num r.1.kids)]) (st':=(D2 uT r.2 s1 [])) [0,1] AA (by decide) rfl AA (.raw AA (.pure Bf pw)) (.same AA));refine Az h0 ?_ ?_<;>intro b6 h0
 ·refine Ai λK7 k9=>AR AA (bs h0 λc8 H h0=>zz (.ptr 4 0 (Int.toNat 0) 0) (HC BE AA H) rfl (zz (i64 c8) (CL HP AA AA (CM H) rfl) rfl (AR AA (Ad k9 (AD λK9 l0=>bs h0 λb0 a h0=>?_)))));have b1:∀I q,b0=(I,q)->∀s,Wk 2 s ⟨118,AL [(0,Aq),(2,i64 p2),(4,Ca),(6,G1),(7,ow 4 0 P),(8,i64 I)],Hb uT q s1 uW [BP P]⟩->K9 s:=by
   rintro I q rfl s t;refine l0 _ (AF t (AD λl1 b2=>bs h0 λb3 a h0=>?_));have b4:∀j,b3=j->∀s,Wk 2 s ⟨118,AL [(0,Aq),(4,Ca),(6,G1),(8,i64 j)],Hb uT q s1 uW []⟩->l1 s:=by
    intro j hq s t;subst b3;refine b2 _ (AF t (Ai λl9 b5=>?_));refine CF 4 ([]:List AG) BI Bq (by simp only[List.map,Aj];rfl) ?_;refine AR AA (Ad b5 (Ai λm0 b7=>Ae 3 AA (bs h0 λJ b8 h0=>HX (hb 180) (E9 b8) rfl (AR AA (Ad b7 (AD λl3 b9=>Al AA (bs h0 λT a h0=>?_)))))));have l4:∀u y,T=(u,y)->∀s,Wk 2 s ⟨118,AL [(6,Ca),(8,i64 j),(9,ow 3 0 y)],D2 uT u s1 [KM,Ic y]⟩->l3 s:=by
     rintro u y rfl s t;refine b9 _ (AF t (Ai λm1 c0=>Ae 2 AA (BD (Wk.Bg (L:=[(6,Ca),(68,i64 j),(69,JU y)]) (st':=(D2 uT u s1 [KM,Gx])) (id:=3) rfl uF (AM Ag) ⟨.rfl,.rfl,.Bg AA,pw⟩ AA) (bs h0 λb c1 h0=>Dj (BJ b.op b.num b.kids) (hb 220) (BT c1) rfl (Bp BY AA (Ad c0 ?_))))));cases h0;exact Ap ⟨_,(BH (L:=[(6,Ca)]) (st':=(D2 uT u s1 [KN b.op b.num b.kids])) [0,1,2] (.w (.p (.w .nil))) ⟨.rfl,pw⟩).trans (Dh [(6,Ca)] ⟨.rfl,pw⟩),Gw (.tmp 6) (Hx b.op b.num b.kids) BY AA _ ⟨AA,AA⟩⟩
    refine AJ (dX (Dk uT s1 uW J vG) (λz K k=>⟨118,AL [(0,.ptr 0 0 0 0),(4,.ptr 2 0 0 0),(6,.ptr 3 0 0 0),(8,i64 j),(9,ow 4 0 k),(10,ls eI J),(11,i64 z)],[E1 uT K,ro 0 55 5 Bd s1,⟨0,40,2,[[ls Ak uW,ow 1 0 s1]]⟩,KM,ro 0 53 3 BI k]⟩) N 0 q [] a Au ?_);intro n z K k a;rw[Dk]at a;refine AD λm2 c2=>Ai λm3 c3=>Ae 2 AA (Cc AA (AR AA (Ad c3 ?_)));refine Az a ?_ ?_<;>intro m4 a
    ·refine AH (c2 _ (AD λm5 c4=>AJ (Bh (Lk s1 uW [KM,Ic k]) 9 (by kernel_rfl) (by kernel_rfl) (by kernel_rfl) (by rfl) (BL (ow 4 0 k) AT AA (λ_ _=>BO AA) (BL Aq AT AA (λ_ _=>BO AA) (BL (Il uW s1) AT AA (λ_ _=>DD IL AA AA AA tv rfl) (BL (ls eI J) AT AA (λ_ _=>BO AA) (BL (i64 z) AT AA (λ_ _=>BO AA) (bs a λc5 c6 a=>BL (U0 c5) AT AA (λ_ _=>JT BE AA c6) (BL (i64 c5) AT AA (λ_ _=>JA HP AA AA) (bs a λe c7 a=>Q0 (BJ e.1.op e.1.num e.1.kids) (E1 uT e.2) [0,1] AT (hb 290) (wC c7) rfl (λ_=>AA) (λ_=>AA) Cv ?_)))))))))));refine GA AT (λx0 zz=>Gv (l:=[e.1]) (enc:=BI) AT Bq (by decide) rfl AA AA (by simp only[List.map,Aj];rfl) rfl (AM Ag) (Ao AA)) ?_;exact FV AA (bs a λU c9 a=>Fx (l2:=[e.1]) AT Bq AA AA AA AA N8 D9 c9 AA (AR AA (Ad c4 (AE AA (Ae 3 AA (AB (xi (Sh.w (z+1),e.2,U) a (CS (L:=[(0,Aq),(4,Ca),(6,G1),(8,i64 j),(9,ow 4 0 U),(10,ls eI J),(11,Kp z)]) (st':=(Hb uT e.2 s1 uW [Ic U])) (.raw AA AA AA (.pure AA Bf (.raw AA AA AA (.raw AA AA AA (.pure AA (AM Ag) .nil))))) (.same AA)))))))))
    ·exact As (l4 K k (BU a) _ (BH [0,1,3,4] (.w (.p (.w (.pure (AM Ag) .nil)))) (.same AA)))
   refine Ai λm6 d0=>Ae 3 AA (bs a λm7 d1 a=>HX (hb 180) (E9 d1) rfl (AR AA (bs a λm8 d2 a=>HX (hb 131) (TP d2) rfl (Ad d0 ?_))));refine Az a ?_ ?_<;>intro m9 a
   ·exact AE AA (AR AA (zz (.ptr 4 0 (Int.toNat 0) 0) (HC BE AA H) rfl (zz (i64 c8) (CL HP AA AA (CM H) rfl) rfl (AR AA (AB (b4 c8 (BU a) _ (BH [0,1,2,3] (.w (.p (.w (.w .nil)))) (.same AA))))))))
   ·exact AH (b4 I (BU a) _ (BH [0,1,2,3] (.w (.p (.w (.w .nil)))) (.same AA)))
  refine AD λl5 d3=>bs a λd4 V a=>?_;have d5:∀W A,d4=(W,A)->∀s,Wk 2 s ⟨118,AL [(0,Aq),(2,i64 p2),(4,Ca),(6,G1),(7,ow 4 0 P),(8,i64 c8),(34,.bool W)],Hb uT A s1 uW [BP P]⟩->l5 s:=by
   rintro W A rfl s t;refine d3 _ (AF t ?_);refine Az a ?_ ?_<;>intro q0 a
   ·exact AE AA (AR AA (bs a λd6 Q a=>zz (.ptr 4 0 (Int.toNat 1) 0) (HC BE AA Q) rfl (zz (i64 d6) (CL HP AA AA (CM Q) rfl) rfl (AR AA (AB (b1 d6 A (BU a) _ Au))))))
   ·exact AH (b1 c8 A (BU a) _ Au)
  refine AE AA (AR AA (zz (Cb P) (C9 FY AA AA AA) rfl (Ae 2 AA ?_)));rcases Sh.Aa V with ⟨f,V⟩|⟨f,V⟩
  ·exact Am f AA (bs V λB d7 V=>IE (Hb uT B.2 s1 uW [BP P]) (i64 B.1) [0] (GF AA AA f) (hb 160) (Aw d7) rfl AA (Am f AA (zt f AA (AB (d5 (decide (B.1=0)) B.2 (BU V) _ Au)))))
  ·exact zs f AA (zs f AA (zs f AA (zf f AA (AB (d5 false uV (BU V) _ Au)))))
 ·refine AH (k7 _ (Ai λq1 d8=>Ae 2 AA (bs h0 λi d9 h0=>OU (v':=(ow 5 0 i)) AT (hb 292) (PW d9) rfl (.agg (.val AA (.own AA AA Cv .nil)) (.val AA .nil)) rfl (nA Cv pw) rfl AA (AR AA (Ad d8 (AD λq2 g0=>AD λl6 g1=>bs h0 λg2 a h0=>?_))))));have g3:∀X,g2=X->∀s,Wk 2 s ⟨118,AL [(0,Aq),(4,Ca),(6,G1),(12,ow 4 0 i),(80,.bool X)],Hb uT uV s1 uW [BP i]⟩->l6 s:=by
   intro X hq s t;subst g2;refine g1 _ (AF t ?_);refine Az h0 ?_ ?_<;>intro q4 h0
   ·refine Ai λq5 g4=>Ae 3 AA (zz (Cb i) (C9 FY AA AA AA) rfl (bs h0 λC g5 h0=>IE (Hb uT C.2 s1 uW [BP i]) (i64 C.1) [0] AT (hb 160) (Aw g5) rfl AA (bs h0 λo R h0=>zz (jS C.1) (HC BE AA R) rfl (zz (i64 o) (CL HP AA AA (CM R) rfl) rfl (AR AA (Ad g4 (Ai λq6 g6=>Ae 3 AA (bs h0 λD S h0=>zz (Mc o) (HC Ee AA S) rfl (AR AA (zz (J8 D.params) (CL Mi AA AA (CM S) rfl) rfl (AR AA (Ad g6 (Ai λq7 g7=>?_)))))))))))));refine CF 5 ([]:List AG) BI Bq (by simp only[List.map,Aj];rfl) ?_;refine AR AA (Ad g7 (AD λl7 g8=>Al AA (bs h0 λY a h0=>?_)));have l8:∀E F,Y=(E,F)->∀s,Wk 2 s ⟨118,AL [(6,Ca),(13,i64 o),(15,ow 3 0 F)],D2 uT E s1 [KM,Ic F]⟩->l7 s:=by
     rintro E F rfl s t;refine g8 _ (AF t (Ai λq8 g9=>Ae 2 AA (BD (Wk.Bg (L:=[(6,Ca),(112,i64 o),(113,JU F)]) (st':=(D2 uT E s1 [KM,Gx])) (id:=3) rfl uF (AM Ag) ⟨.rfl,.rfl,.Bg AA,pw⟩ AA) (bs h0 λc h3 h0=>Dj (BJ c.op c.num c.kids) (hb 220) (BT h3) rfl (Bp BY AA (Ad g9 ?_))))));cases h0;exact Ap ⟨_,(BH (L:=[(6,Ca)]) (st':=(D2 uT E s1 [KN c.op c.num c.kids])) [0,1,2] (.w (.p (.w .nil))) ⟨.rfl,pw⟩).trans (Dh [(6,Ca)] ⟨.rfl,pw⟩),Gw (.tmp 6) (Hx c.op c.num c.kids) BY AA _ ⟨AA,AA⟩⟩
    refine AJ (dX (Ek D uT s1 uW vG) (λG M p=>⟨118,AL [(0,.ptr 0 0 0 0),(4,.ptr 2 0 0 0),(6,.ptr 3 0 0 0),(13,i64 o),(14,ls eI D.params),(15,ow 4 0 p),(16,i64 G)],[E1 uT M,ro 0 55 5 Bd s1,⟨0,40,2,[[ls Ak uW,ow 1 0 s1]]⟩,KM,ro 0 53 3 BI p]⟩) N 0 C.2 [] a (BH [0,1,2,3,5] (.w (.p (.w (.w (.pure (AM Ag) .nil))))) (.same AA)) ?_);intro n G M p a;rw[Ek]at a;refine AD λq9 h4=>Ai λt0 h5=>Ae 3 AA (Cc AA (AR AA (Ad h5 ?_)));refine Az a ?_ ?_<;>intro t1 a
    ·refine AH (h4 _ (AD λt2 h6=>AJ (Bh (Lk s1 uW [KM,Ic p]) 9 (by kernel_rfl) (by kernel_rfl) (by kernel_rfl) (by rfl) (BL (ow 4 0 p) AT AA (λ_ _=>BO AA) (BL Aq AT AA (λ_ _=>BO AA) (BL (Il uW s1) AT AA (λ_ _=>DD IL AA AA AA tv rfl) (BL (J8 D.params) AT AA (λ_ _=>BO AA) (BL (i64 G) AT AA (λ_ _=>BO AA) (bs a λh7 h8 a=>BL (U0 h7) AT AA (λ_ _=>JT BE AA h8) (BL (i64 h7) AT AA (λ_ _=>JA HP AA AA) (bs a λg h9 a=>Q0 (BJ g.1.op g.1.num g.1.kids) (E1 uT g.2) [0,1] AT (hb 290) (wC h9) rfl (λ_=>AA) (λ_=>AA) Cv ?_)))))))))));refine GA AT (λx0 zz=>Gv (l:=[g.1]) (enc:=BI) AT Bq (by decide) rfl AA AA (by simp only[List.map,Aj];rfl) rfl (AM Ag) (Ao AA)) ?_;exact FV AA (bs a λZ k0 a=>Fx (l2:=[g.1]) AT Bq AA AA AA AA N8 D9 k0 AA (AR AA (Ad h6 (AE AA (Ae 3 AA (AB (xi (Sh.w (G+1),g.2,Z) a (CS (L:=[(0,Aq),(4,Ca),(6,G1),(13,i64 o),(14,J8 D.params),(15,ow 4 0 Z),(16,Kp G)]) (st':=(Hb uT g.2 s1 uW [Ic Z])) (.raw AA AA AA (.pure AA Bf (.raw AA AA AA (.raw AA AA AA (.pure AA (AM Ag) .nil))))) (.same AA)))))))))
    ·exact As (l8 M p (BU a) _ (BH [0,1,3,4] (.w (.p (.w (.pure (AM Ag) .nil)))) (.same AA)))
   ·refine AH (g0 _ (Ai λt3 k1=>AR AA (bs h0 λO k2 h0=>IE (Hb uT O.2 s1 uW [BP i]) (i64 O.1) [0] AT (hb 287) (QF k2) rfl AA (bs h0 λd k3 h0=>Dj (BJ d.op d.num d.kids) (hb 221) (Dt k3) rfl (Bp BY AA (Ad k1 ?_))))));cases h0;exact Ap ⟨_,(BH (L:=[(6,Ca)]) (st':=(D2 uT O.2 s1 [KN d.op d.num d.kids])) [0,1,3] (.w (.p (.w .nil))) ⟨.rfl,pw⟩).trans (Dh [(6,Ca)] ⟨.rfl,pw⟩),Gw (.tmp 6) (Hx d.op d.num d.kids) BY AA _ ⟨AA,AA⟩⟩
  refine AE AA (Ae 3 AA ?_);rcases Sh.Aa a with ⟨h,a⟩|⟨h,a⟩
  ·exact Am h AA (DQ (Cb i) h (C9 FY AA AA AA) (Am h AA (zt h AA (AB (g3 (decide (0<(Sh.len i))) (BU a) _ (BH [0,1,2,3,5] (.w (.p (.w (.w (.p .nil))))) (.same AA)))))))
  ·exact zs h AA (zs h AA (zs h AA (zf h AA (AB (g3 false (BU a) _ (BH [0,1,2,3,5] (.w (.p (.w (.w (.p .nil))))) (.same AA)))))))
theorem TA {N:Nat}:∀(n:Nat),∀{uT:(List Int)} {uV:Int} {s1:(List Ar)} {uW:(List AI)} {p2:Int} {r:AG×Int},Dq N n uT uV s1 uW p2=some r->Bn 290 [Aq,Il uW s1,i64 p2] (D2 uT uV s1 []) (BJ r.1.op r.1.num r.1.kids) (D2 uT r.2 s1 []):=by
 intro n
 induction n with
 | zero=>intro uT uV s1 uW p2 r a;cases a
 | succ n ih=>
  intro uT uV s1 uW p2 r a;rw[Dq]at a;exact TG (λh=>ih h) a
theorem Ua {N:Nat}:∀{uT:(List Int)} {uV:Int} {s1:(List Ar)} {uW:(List AI)} {p2:Int} {r:AG×Int},Ok N uT uV s1 uW p2=some r->Bn 290 [Aq,Il uW s1,i64 p2] (D2 uT uV s1 []) (BJ r.1.op r.1.num r.1.kids) (D2 uT r.2 s1 []):=by
 intro uT uV s1 uW p2 r a;exact TA N a
theorem J3 {N:Nat}{uT:(List Int)}{uV:Int}{s1:(List Ar)}{uW:(List AI)}{p2:(List Int)}{p3:Int}{r:AG×Int}(h0:Iz N uT uV s1 uW p2 p3=some r):Bn 271 [Aq,Il uW s1,ls eI p2,i64 p3] (D2 uT uV s1 []) (BJ r.1.op r.1.num r.1.kids) (D2 uT r.2 s1 []):=by
 unfold Iz at h0;refine BS.wk (r0:=(BJ r.1.op r.1.num r.1.kids)) (st0:=(D2 uT r.2 s1 [KN r.1.op r.1.num r.1.kids])) (Cx Tryz.func271 AA (Ai λM y=>Et 2 AA (Cn 3 GG AA (Ad y (Ai λO z=>Ae 2 AA (bs h0 λg A h0=>La (ow 4 0 g) (TJ A) ⟨(Bj λ_=>AA),pw⟩ (AR AA (Ad z (AD λP B=>AD λH C=>bs h0 λG f h0=>?_))))))))) (Fy (L:=[(0,BJ r.1.op r.1.num r.1.kids)]) (st':=(D2 uT r.2 s1 [])) [0,1] AA (by decide) rfl AA (.raw AA (.pure Bf pw)) (.same AA));have D:∀E k,G=(E,k)->∀s,Wk 2 s ⟨40,AL [(0,Aq),(3,i64 p3),(5,Ca),(8,G1),(9,ow 4 0 g),(27,.bool E)],Hb uT k s1 uW [BP g]⟩->H s:=by
  rintro E k rfl s I;refine C _ (AF I ?_);refine Az h0 ?_ ?_<;>intro R h0
  ·refine Ai λJ n=>Ae 3 AA (zz (Cb g) (C9 FY AA AA AA) rfl (bs h0 λh o h0=>IE (Hb uT h.2 s1 uW [BP g]) (i64 h.1) [0] AT (hb 160) (Aw o) rfl AA (bs h0 λF i h0=>zz (jS h.1) (HC BE AA i) rfl (zz (i64 F) (CL HP AA AA (CM i) rfl) rfl (bs h0 λc p h0=>Dj (BJ c.op c.num c.kids) (hb 222) (CO p) rfl (Bp BY AA (Ad n ?_)))))));cases h0;exact Ap ⟨_,(BH (L:=[(8,Ca)]) (st':=(D2 uT h.2 s1 [KN c.op c.num c.kids])) [0,1,3] (.w (.p (.w .nil))) ⟨.rfl,pw⟩).trans (Dh [(8,Ca)] ⟨.rfl,pw⟩),Gw (.tmp 8) (Hx c.op c.num c.kids) BY AA _ ⟨AA,AA⟩⟩
  ·refine AH (B _ (Ai λK q=>Ae 3 AA (bs h0 λa t h0=>QT (Hb uT a.2 s1 uW [BP g]) (BJ a.1.op a.1.num a.1.kids) [0,1] AT (hb 290) (Ua t) rfl AA (λ_=>AA) (λ_=>AA) (Bp BY AA (Ad q ?_)))));cases h0;exact Ap ⟨_,(BH (L:=[(8,Ca)]) (st':=(D2 uT a.2 s1 [KN a.1.op a.1.num a.1.kids])) [0,1,3] (.w (.p (.w .nil))) ⟨.rfl,pw⟩).trans (Dh [(8,Ca)] ⟨.rfl,pw⟩),Gw (.tmp 8) (Hx a.1.op a.1.num a.1.kids) BY AA _ ⟨AA,AA⟩⟩
 refine AE AA (AR AA (zz (Cb g) (C9 FY AA AA AA) rfl (Ae 2 AA ?_)));rcases Sh.Aa f with ⟨b,f⟩|⟨b,f⟩
 ·refine Am b AA (bs f λe u f=>IE (Hb uT e.2 s1 uW [BP g]) (i64 e.1) [0] (GF AA AA b) (hb 160) (Aw u) rfl AA (Am b AA (Am b AA ?_)));rcases Sh.Aa f with ⟨d,f⟩|⟨d,f⟩
  ·refine zs d AA ?_;iterate 4 refine zs d rfl ?_
   exact DQ (.bool true) b (Gy AA d AA) (zt b AA (AB (D true e.2 (BU f) _ Au)))
  ·exact Am d AA (MN (m:=5) (l:=([]:List Int)) (enc:=eI) (GF AA AA d) BE (by decide) rfl AA AA AA AA AA (Am d AA (D8 [(0,Aq),(3,i64 p3),(5,Ca),(8,G1),(9,ow 4 0 g),(16,.bool (decide (0<(Sh.len g)))),(20,.bool (decide (0<e.1))),(21,Il uW s1),(22,Sv),(23,i64 p3)] (Hb uT e.2 s1 uW [BP g,⟨1,3,1,[]⟩]) 5 AA ⟨.rfl,.rfl,.rfl,.rfl,.rfl,.rfl,.rfl,.agg ⟨.rfl,.rfl,pw⟩,.Bg AA,.rfl,pw⟩ Cv AA (bs f λj w f=>OU (v':=(.bool j)) (GF AA AA d) (hb 289) (LH w) rfl (.agg (.val AA (.own AA AA Cv .nil)) (.val AA (.val AA .nil))) rfl pw AA AA (Am d AA (DQ (.bool (!j)) b (HE AA d AA) (zt b AA (AB (D (!j) e.2 (BU f) _ (BH [0,1,2,3,4] (.w (.p (.w (.w (.p .nil))))) (.same AA)))))))))))
 ·refine zs b AA ?_;iterate 3 refine zs b rfl ?_
  iterate 5 refine zn rfl ?_
  exact zs b AA (zf b AA (AB (D false uV (BU f) _ Au)))
theorem Vb {N:Nat}{uT:(List Int)}{uV:Int}{s1:(List Ar)}{uW:(List AI)}{p2:(List Int)}{r:Int×Int}(h0:Lh N uT uV s1 uW p2=some r):Bn 282 [Aq,Il uW s1,ls eI p2] (D2 uT uV s1 []) (i64 r.1) (D2 uT r.2 s1 []):=by
 unfold Lh at h0;refine Cx Tryz.func282 AA (Ai λt f=>Et 2 AA (AR AA (Ad f (Ai λu g=>AR AA (CF 3 [(1:Int),1,3,0,2,4,3] eI BE AA (D8 [(2,ls eI p2),(4,Ca),(8,Aq),(9,ls eI [(1:Int),1,3,0,2,4,3])] (D2 uT uV s1 [iq uW s1,⟨1,3,1,[]⟩]) 3 AA ⟨.rfl,.rfl,.rfl,.Bg AA,pw⟩ Cv AA (bs h0 λc h h0=>IE (D2 uT c.2 s1 [iq uW s1,⟨1,3,1,[]⟩]) (i64 c.1) [0] AT (hb 163) (CG h) rfl AA (AR AA (Ad g (AD λw i=>AD λp j=>bs h0 λn b h0=>?_))))))))));have o:∀k,n=k->∀s,Wk 2 s ⟨24,AL [(7,i64 c.1),(22,.bool k)],D2 uT c.2 s1 []⟩->p s:=by
  intro k x s q;subst n;refine j _ (AF q ?_);refine Az h0 ?_ ?_<;>intro y h0
  ·refine Al AA ?_;cases h0;exact rt [(6,i64 1)]
  ·refine AH (i _ (Al AA ?_));cases h0;exact rt [(6,i64 c.1)]
 refine AE AA (Ae 3 AA (Cc AA (Ae 2 AA ?_)));rcases Sh.Aa b with ⟨a,b⟩|⟨a,b⟩
 ·refine zs a AA ?_;iterate 4 refine zs a rfl ?_
  exact zt a AA (AB (o true (BU b) _ (BH [0,1] (.w (.p .nil)) (.same AA))))
 ·exact Am a AA (Am a AA (Am a AA (bs b λd e b=>OU (v':=(.bool d)) (GF AA AA a) (hb 289) (LH e) rfl (.agg (.val AA (.own AA AA Cv .nil)) (.val AA (.val AA .nil))) rfl pw AA AA (Am a AA (zf a AA (AB (o (!d) (BU b) _ (BH [0,1] (.w (.p .nil)) (.same AA)))))))))
theorem MU {p0:(List Int)}{r:(List Int)}(h0:EP p0=some r):Bn 113 [ls eI p0] [] (ow 0 0 r) [BP r]:=by
 unfold EP at h0;refine Cx Tryz.func113 AA (Al AA (Ai λd a=>CF 0 ([]:List Int) eI BE AA (AR AA (bs h0 λc b h0=>Lb p0 BE AA N8 b (AR AA (Ad a ?_))))));obtain rfl:=Sh.Bt h0;exact Ap (xr (Eh (L:=[(2,ow 0 0 c)]) (st':=[BP c]) (.pure Bf .nil) (.same AA)))
theorem Eg {p0:(List Int)}{p1:(List Int)}{r:(List Int)}(h0:DP p0 p1=some r):Bn 162 [ls eI p0,ls eI p1] [] (ow 0 0 r) [BP r]:=by
 unfold DP at h0;refine Cx Tryz.func162 AA (Al AA (Ai λf a=>AR AA (bs h0 λe b h0=>La (ow 0 0 e) (MU b) ⟨(Bj λ_=>AA),pw⟩ (AR AA (bs h0 λd c h0=>Lb p1 BE AA N8 c (AR AA (Ad a ?_)))))));obtain rfl:=Sh.Bt h0;exact Ap (xr (Eh (L:=[(4,ow 0 0 d)]) (st':=[BP d]) (.pure Bf .nil) (.same AA)))
theorem Ju {N:Nat}{ug:(List Int)->Int->(List Ar)->(List AI)->(List Int)->Int->Int->Option (AG×Int)}(vK :∀{uT:(List Int)} {uV:Int} {s1:(List Ar)} {uW:(List AI)} {p2:(List Int)} {p3:Int} {p4:Int} {r:AG×Int},ug uT uV s1 uW p2 p3 p4=some r->Bn 269 (Yn uW s1 p2 p3 p4) (D2 uT uV s1 []) (BJ r.1.op r.1.num r.1.kids) (D2 uT r.2 s1 [])){uT:(List Int)}{uV:Int}{s1:(List Ar)}{uW:(List AI)}{p2:(List Int)}{p3:(List Int)}{p4:Int}{r:(List AG)×Int}(h0:Gl N ug uT uV s1 uW p2 p3 p4=some r):Bn 283 [Aq,Il uW s1,ls eI p2,ls eI p3,i64 p4] (D2 uT uV s1 []) (ow 2 0 r.1) (D2 uT r.2 s1 [Ic r.1]):=by
 unfold Gl at h0;refine Cx Tryz.func283 AA (Ai λK x=>Et 2 AA (AR AA (Ad x (Ai λM y=>?_))));refine CF 3 ([]:List AG) BI Bq (by simp only[List.map,Aj];rfl) ?_;refine AR AA (Ad y (AD λE z=>Al AA (bs h0 λc b h0=>?_)));have A:∀B f,c=(B,f)->∀s,Wk 2 s ⟨36,AL [(11,ow 2 0 f)],D2 uT B s1 [Ic f]⟩->E s:=by
  rintro B f rfl s F;refine z _ (AF F (Al AA ?_));cases h0;exact rt [(10,ow 2 0 f)]
 refine AJ (dX (Gr uT s1 uW p2 p3 p4 ug) (λg u e=>⟨36,AL [(0,.ptr 0 0 0 0),(2,ls eI p2),(3,ls eI p3),(4,i64 p4),(6,.ptr 2 0 0 0),(11,ow 3 0 e),(12,i64 g)],[E1 uT u,ro 0 55 5 Bd s1,⟨0,40,2,[[ls Ak uW,ow 1 0 s1]]⟩,ro 0 53 3 BI e]⟩) N 0 uV [] b Au ?_);intro n g u e b;rw[Gr]at b;refine AD λG h=>Ai λH i=>Ae 2 AA (Cc AA (AR AA (Ad i ?_)));refine Az b ?_ ?_<;>intro I b
 ·refine AH (h _ (AD λJ j=>AJ (Bh (Lk s1 uW [Ic e]) 14 (by kernel_rfl) (by kernel_rfl) (by kernel_rfl) (by rfl) (BL (ow 3 0 e) AT AA (λ_ _=>BO AA) (BL Aq AT AA (λ_ _=>BO AA) (BL (Il uW s1) AT AA (λ_ _=>DD IL AA AA AA tv rfl) (BL (ls eI p2) AT AA (λ_ _=>BO AA) (BL (ls eI p3) AT AA (λ_ _=>BO AA) (BL (i64 g) AT AA (λ_ _=>BO AA) (bs b λk o b=>BL (U0 k) AT AA (λ_ _=>JT BE AA o) (BL (i64 k) AT AA (λ_ _=>JA HP AA AA) (BL (i64 p4) AT AA (λ_ _=>BO AA) (BL (ls eI p3) AT AA (λ_ _=>BO AA) (BL (Cb p3) AT AA (λ_ _=>By FY AA) (bs b λC p b=>BL (i64 C) AT AA (λ_ _=>XY AA AA p) (bs b λa q b=>Q0 (BJ a.1.op a.1.num a.1.kids) (E1 uT a.2) [0,1] AT (hb 269) (vK q) rfl (λ_=>AA) (λ_=>AA) Cv ?_))))))))))))))));refine GA AT (λP zz=>Gv (l:=[a.1]) (enc:=BI) AT Bq (by decide) rfl AA AA (by simp only[List.map,Aj];rfl) rfl (AM Ag) (Ao AA)) ?_;exact FV AA (bs b λd t b=>Fx (l2:=[a.1]) AT Bq AA AA AA AA N8 D9 t AA (AR AA (Ad j (AE AA (Ae 3 AA (AB (xi (Sh.w (g+1),a.2,d) b (CS (L:=(Ef p2 [(3,ls eI p3),(4,i64 p4),(6,Ca),(11,ow 3 0 d),(12,Kp g)])) (st':=(D2 uT a.2 s1 [iq uW s1,Ic d])) (.raw AA AA AA (.pure AA Bf (.raw AA AA AA (.pure AA (AM Ag) .nil)))) (.same AA)))))))))
 ·exact As (A u e (BU b) _ (BH [0,1,3] (.w (.p (.pure (AM Ag) .nil))) (.same AA)))
theorem Ux {N:Nat}{ug:(List Int)->Int->(List Ar)->(List AI)->(List Int)->Int->Int->Option (AG×Int)}(vK :∀{uT:(List Int)} {uV:Int} {s1:(List Ar)} {uW:(List AI)} {p2:(List Int)} {p3:Int} {p4:Int} {r:AG×Int},ug uT uV s1 uW p2 p3 p4=some r->Bn 269 (Yn uW s1 p2 p3 p4) (D2 uT uV s1 []) (BJ r.1.op r.1.num r.1.kids) (D2 uT r.2 s1 [])){uT:(List Int)}{uV:Int}{s1:(List Ar)}{uW:(List AI)}{p2:(List Int)}{p3 p4:Int}{r:AG×Int}(h0:Kj N ug uT uV s1 uW p2 p3 p4=some r):Bn 284 (Yn uW s1 p2 p3 p4) (D2 uT uV s1 []) (BJ r.1.op r.1.num r.1.kids) (D2 uT r.2 s1 []):=by
 unfold Kj at h0;refine BS.wk (r0:=(BJ r.1.op r.1.num r.1.kids)) (st0:=(D2 uT r.2 s1 [KN r.1.op r.1.num r.1.kids])) (Cx Tryz.func284 AA (Ai λK1 U=>Et 2 AA (Cn 3 GG AA (Ad U (Ai λK2 V=>AR AA (CF 4 [(1:Int),1,3,4] eI BE AA (D8 (Ef p2 (S9 p3 p4 [(15,Aq),(16,ls eI [(1:Int),1,3,4])])) (Hb uT uV s1 uW [⟨1,3,1,[]⟩]) 4 AA ⟨.rfl,.rfl,.rfl,.rfl,.rfl,.rfl,.rfl,.Bg AA,pw⟩ Cv AA (bs h0 λo W h0=>IE (Hb uT o.2 s1 uW [⟨1,3,1,[]⟩]) (i64 o.1) [0] AT (hb 163) (CG W) rfl AA (AR AA (Ad V (AD λK4 X=>bs h0 λo6 a h0=>?_))))))))))) (Fy (L:=[(0,BJ r.1.op r.1.num r.1.kids)]) (st':=(D2 uT r.2 s1 [])) [0,1] AA (by decide) rfl AA (.raw AA (.pure Bf pw)) (.same AA));have M6:∀q,o6=q->∀s,Wk 2 s ⟨69,AL (Ef p2 (S9 p3 p4 [(11,i64 q)])),Hb uT o.2 s1 uW []⟩->K4 s:=by
  intro q hq s A;subst o6;refine X _ (AF A (Ai λK7 Y=>Ae 3 AA (bs h0 λh Z h0=>La (ow 4 0 h) (Jm Z) ⟨(Bj λ_=>AA),pw⟩ (AR AA (Ad Y (Ai λK9 b0=>Ae 4 AA (bs h0 λe B h0=>QT (Hb uT e.2 s1 uW [BP h]) (BJ e.1.op e.1.num e.1.kids) [0,1] AT (hb 271) (J3 B) rfl AA (λ_=>AA) Cv ?_)))))));refine CF 5 [e.1] BI Bq (by simp only[List.map,Aj];rfl) ?_;refine AR AA (Ad b0 (AD λb1 C=>Al AA (bs h0 λt a h0=>?_)));have b2:∀i j,t=(i,j)->∀s,Wk 2 s ⟨69,AL [(10,Ca),(11,i64 q),(13,ow 3 0 j)],D2 uT i s1 [KM,Ic j]⟩->b1 s:=by
   rintro i j rfl s A;refine C _ (AF A (Ai λb8 D=>Ae 2 AA (BD (Wk.Bg (L:=[(10,Ca),(66,i64 q),(67,JU j)]) (st':=(D2 uT i s1 [KM,Gx])) (id:=3) rfl uF (AM Ag) ⟨.rfl,.rfl,.Bg AA,pw⟩ AA) (bs h0 λb E h0=>Dj (BJ b.op b.num b.kids) (hb 220) (BT E) rfl (Bp BY AA (Ad D ?_))))));cases h0;exact Ap ⟨_,(BH (L:=[(10,Ca)]) (st':=(D2 uT i s1 [KN b.op b.num b.kids])) [0,1,2] (.w (.p (.w .nil))) ⟨.rfl,pw⟩).trans (Dh [(10,Ca)] ⟨.rfl,pw⟩),Gw (.tmp 10) (Hx b.op b.num b.kids) BY AA _ ⟨AA,AA⟩⟩
  refine AJ (dX (E0 N uT s1 uW p2 p3 p4 h ug) (λf k g=>⟨69,AL [(0,.ptr 0 0 0 0),(2,ls eI p2),(3,i64 p3),(4,i64 p4),(6,.ptr 2 0 0 0),(10,.ptr 3 0 0 0),(11,i64 q),(12,ow 4 0 h),(13,ow 5 0 g),(14,i64 f)],[E1 uT k,ro 0 55 5 Bd s1,⟨0,40,2,[[ls Ak uW,ow 1 0 s1]]⟩,KM,ro 0 3 1 eI h,ro 0 53 3 BI g]⟩) N 0 e.2 [e.1] a Au ?_);intro n f k g a;rw[E0]at a;refine AD λb9 F=>Ai λc0 G=>Ae 2 AA (zz (Cb h) (C9 FY AA AA AA) rfl (AR AA (Ad G ?_)));refine Az a ?_ ?_<;>intro c1 a
  ·refine AH (F _ (AD λc2 H=>AJ (Bh (Lk s1 uW [KM,BP h,Ic g]) 20 (by kernel_rfl) (by kernel_rfl) (by kernel_rfl) (by rfl) (BL (ow 5 0 g) AT AA (λ_ _=>BO AA) (BL Aq AT AA (λ_ _=>BO AA) (BL (Il uW s1) AT AA (λ_ _=>DD IL AA AA AA tv rfl) (BL (ls eI p2) AT AA (λ_ _=>BO AA) (BL Ca AT AA (λ_ _=>FR bK AA AA uM rfl) (BL (Cd uW) AT AA (λ_ _=>CL gZ AA AA AA AA) (BL (ow 4 0 h) AT AA (λ_ _=>BO AA) (BL (i64 f) AT AA (λ_ _=>BO AA) (bs a λb3 p a=>BL (jS f) AT AA (λ_ _=>HC BE AA p) (BL (i64 b3) AT AA (λ_ _=>CL HP AA AA (CM p) rfl) (bs a λb4 I a=>GA AT (λx0 zz=>Fa (E9 I) (Ao AA)) (bs a λJ K a=>?_)))))))))))))));refine GA AT (λx0 zz=>Fa (BS.wk (Eg K) (by refine Wk.trans (Wk.Bg (L:=[(0,ls eI J)]) (st':=S6) (id:=0) rfl tw Bf ⟨.Bg AA,pw⟩ AA) ?_;exact BH [] .nil (.same AA))) (Ao AA)) ?_;refine BL (i64 p3) AT AA (λ_ _=>BO AA) (BL (i64 p4) AT AA (λ_ _=>BO AA) (BL (i64 (Sh.w (p4-2))) AT AA (λ_ _=>Qk AA AA) (BL (ow 4 0 h) AT AA (λ_ _=>BO AA) (BL (Cb h) AT AA (λ_ _=>C9 FY AA AA AA) (bs a λb5 M a=>BL (i64 b5) AT AA (λ_ _=>XY AA AA M) (bs a λc O a=>Q0 (BJ c.1.op c.1.num c.1.kids) (E1 uT c.2) [0,1] AT (hb 269) (vK O) rfl (λ_=>AA) (λ_=>AA) Cv ?_))))));refine GA AT (λx0 zz=>Gv (l:=[c.1]) (enc:=BI) AT Bq (by decide) rfl AA AA (by simp only[List.map,Aj];rfl) rfl (AM Ag) (Ao AA)) ?_;exact FV AA (bs a λu P a=>Fx (l2:=[c.1]) AT Bq AA AA AA AA N8 D9 P AA (AR AA (Ad H (AE AA (Ae 3 AA (AB (xi (Sh.w (f+1),c.2,u) a (CS (L:=(Ef p2 (S9 p3 p4 [(11,i64 q),(12,ow 4 0 h),(13,ow 5 0 u),(14,Kp f)]))) (st':=(Hb uT c.2 s1 uW [BP h,Ic u])) (.raw AA AA AA (.pure AA Bf (.raw AA AA AA (.raw AA AA AA (.pure AA Bf (.pure AA (AM Ag) .nil)))))) (.same AA)))))))))
  ·exact As (b2 k g (BU a) _ (BH [0,1,3,5] (.w (.p (.w (.pure (AM Ag) .nil)))) (.same AA)))
 refine AD λb6 Q=>bs a λR y a=>?_;have S:∀z,R=z->∀s,Wk 2 s ⟨69,AL (Ef p2 (S9 p3 p4 [(11,i64 o.1),(28,.bool z)])),Hb uT o.2 s1 uW []⟩->b6 s:=by
  intro z hq s A;subst R;refine Q _ (AF A ?_);refine Az a ?_ ?_<;>intro c3 a
  ·exact AE AA (AR AA (AB (M6 1 (BU a) _ Au)))
  ·exact AH (M6 o.1 (BU a) _ Au)
 refine AE AA (Ae 3 AA (Cc AA (Ae 2 AA ?_)));rcases Sh.Aa y with ⟨d,y⟩|⟨d,y⟩
 ·refine zs d AA ?_;iterate 3 refine zs d rfl ?_
  exact zt d AA (AB (S true (BU y) _ (BH [0,1,2,3] (.w (.p (.w (.w .nil)))) (.same AA))))
 ·exact Am d AA (Am d AA (Am d AA (bs y λb7 T y=>Oz d (K0 T) rfl (zf d AA (AB (S b7 (BU y) _ (BH [0,1,2,3] (.w (.p (.w (.w .nil)))) (.same AA))))))))
theorem UY {N:Nat}{p0:AP}{p1:Int}{r:(List Int)}(h0:Kn N p0 p1=some r):Bn 285 [Jn p0.decls p0.funcs,i64 p1] [] (ow 0 0 r) [BP r]:=by
 unfold Kn at h0;refine Cx Tryz.func285 AA (Ai λK1 S=>Et 0 AA (AR AA (Ad S (Ai λK2 T=>CF 1 ([]:List Int) eI BE AA (AR AA (Ad T (AD λK3 U=>Al AA (bs h0 λV c h0=>?_))))))));have M8:∀{y},JJ V y ⟨57,AL [(5,ow 0 0 y)],[BP y]⟩ K3:=by
  rintro _ ⟨⟩ s q;try dsimp only at h0
  refine U _ (AF q (Al AA ?_));obtain rfl:=Sh.Bt h0;exact rt [(4,ow 0 0 V)]
 refine AJ (KB (Ft N p0 p1) (λf g=>⟨57,AL [(1,i64 p1),(2,.ptr 0 0 0 0),(5,ow 1 0 g),(6,i64 f)],[Yq p0.decls p0.funcs,ro 0 3 1 eI g]⟩) N 1 [] c Au ?_);intro n f g c;rw[Ft]at c;refine AD λb2 A=>Ai λb3 B=>Ae 3 AA (Cc AA (AR AA (Ad B ?_)));refine Az c ?_ ?_<;>intro b4 c
 ·refine AH (A _ (AD λX C=>bs c λD d c=>?_));have E:∀{h},JJ D h ⟨57,AL (fT p1 h f []),[Yq p0.decls p0.funcs,BP h]⟩ X:=by
   rintro _ ⟨⟩ s q;exact C _ (AF q (AE AA (Ae 3 AA (AB (xi (Sh.w (f+1),D) c Au)))))
  refine AJ (Ai λb5 F=>Ae 3 AA (bs d λt i d=>Gz Ee i AA (Ae 5 AA (Ad F (AD λY G=>Al AA (bs d λu e d=>?_))))));have Z:∀{j},JJ u j ⟨57,AL (fT p1 g f [(7,.bool j)]),[Yq p0.decls p0.funcs,BP g]⟩ Y:=by
   rintro _ ⟨⟩ s q;refine G _ (AF q (Al AA ?_));refine Az d ?_ ?_<;>intro b6 d
   ·refine AE AA (Ae 2 AA (CF 2 [f] eI BE AA (bs d λx H d=>Lb [f] BE AA (E8 AA AA) H (AR AA ?_))));exact AB (E d (by refine Wk.trans (Eh (L:=(fT p1 x f [])) (st':=[Yq p0.decls p0.funcs,BP x,Kv f]) (.raw AA AA (.pure Bf (.pure Bf .nil))) (.same AA)) ?_;exact BH [0,1] (.w (.p .nil)) (.same AA)))
   ·exact AH (E d Au)
  refine AJ (KB (Fv N t p0) (λk o=>⟨57,AL [(1,i64 p1),(2,.ptr 0 0 0 0),(5,ow 1 0 g),(6,i64 f),(7,.bool k),(8,i64 o)],[Yq p0.decls p0.funcs,ro 0 3 1 eI g]⟩) N (decide (t.result=p1)) 0 e Au ?_);intro n k o e;rw[Fv]at e;refine AD λb7 I=>Ai λb8 J=>Ae 4 AA (Gz Ee i AA (Ae 2 AA (Cc AA (AR AA (Ad J ?_)))));refine Az e ?_ ?_<;>intro b9 e
  ·refine AH (I _ (AD λb0 K=>bs e λM p e=>?_));have O:∀{b},JJ M b ⟨57,AL (fT p1 g f [(7,.bool b),(8,i64 o)]),[Yq p0.decls p0.funcs,BP g]⟩ b0:=by
    rintro _ ⟨⟩ s q;exact K _ (AF q (AE AA (Ae 3 AA (AB (xi (M,Sh.w (o+1)) e Au)))))
   refine AJ (Bu 15 (by kernel_rfl) (by kernel_rfl) (by rfl) ?_);iterate 2 refine yq tb rfl ?_
   rcases Sh.Aa p with ⟨a,p⟩|⟨a,p⟩
   ·refine yg tb a AA (Gv (l:=([]:List Int)) (enc:=eI) (GF AA AA a) BE (by decide) rfl AA AA AA AA Bf ?_);iterate 3 refine yg tb a rfl ?_
    refine I7 (v:=(Z7 t)) (GF AA AA a) rfl (JT Ee AA i) ?_;iterate 3 refine yg tb a rfl ?_
    exact bs p λb1 P p=>I7 (v:=(U0 b1)) (GF AA AA a) rfl (JT BE AA P) (yg tb a AA (bs p λQ R p=>Ls (v:=(.bool Q)) (GF AA AA a) (hb 289) (LH R) rfl AA AA (yt a AA (Ao (AR AA (AB (O p Au)))))))
   ·refine ys a AA ?_;iterate 11 refine ys a rfl ?_
    exact yf a AA (Ao (AR AA (AB (O p Au))))
  ·exact As (Z e Au)
 ·exact As (M8 c (BH [1] (.p .nil) (.same AA)))
theorem UF {N:Nat}{ug:(List Int)->Int->(List Ar)->(List AI)->(List Int)->Int->Int->Option (AG×Int)}(vK :∀{uT:(List Int)} {uV:Int} {s1:(List Ar)} {uW:(List AI)} {p2:(List Int)} {p3:Int} {p4:Int} {r:AG×Int},ug uT uV s1 uW p2 p3 p4=some r->Bn 269 (Yn uW s1 p2 p3 p4) (D2 uT uV s1 []) (BJ r.1.op r.1.num r.1.kids) (D2 uT r.2 s1 [])){uT:(List Int)}{uV:Int}{s1:(List Ar)}{uW:(List AI)}{p2:(List Int)}{p3 p4:Int}{r:AG×Int}(h0:KZ N ug uT uV s1 uW p2 p3 p4=some r):Bn 286 (Yn uW s1 p2 p3 p4) (D2 uT uV s1 []) (BJ r.1.op r.1.num r.1.kids) (D2 uT r.2 s1 []):=by
 unfold KZ at h0;refine BS.wk (r0:=(BJ r.1.op r.1.num r.1.kids)) (st0:=(D2 uT r.2 s1 [KN r.1.op r.1.num r.1.kids])) (Cx Tryz.func286 AA (Ai λK1 d4=>Et 2 AA (Cn 3 GG AA (Ad d4 (AD λK2 d5=>?_))))) (Fy (L:=[(0,BJ r.1.op r.1.num r.1.kids)]) (st':=(D2 uT r.2 s1 [])) [0,1] AA (by decide) rfl AA (.raw AA (.pure Bf pw)) (.same AA));obtain⟨o4,y,h0⟩:=Sh.BZ h0;have M4:∀(I:Int),o4=Sum.inr I->∀s,Wk 2 s ⟨120,AL (Ef p2 (S9 p3 p4 [])),Hb uT I s1 uW []⟩->K2 s:=by
  intro I hq s K;subst o4;refine d5 _ (AF K (Ai λK5 d6=>Ae 3 AA (bs h0 λz d7 h0=>La (ow 4 0 z) (Jm d7) ⟨(Bj λ_=>AA),pw⟩ (AR AA (Ad d6 (AD λK7 d8=>Ai λK8 d9=>AR AA (zz (Cb z) (C9 FY AA AA AA) rfl (AR AA (Ad d9 ?_)))))))));refine Az h0 ?_ ?_<;>intro b9 h0
  ·refine Ai λg5 M=>Ae 3 AA (zz (Cb z) (C9 FY AA AA AA) rfl (bs h0 λA O h0=>IE (Hb uT A.2 s1 uW [BP z]) (i64 A.1) [0] AT (hb 160) (Aw O) rfl AA (bs h0 λD C h0=>zz (jS A.1) (HC BE AA C) rfl (zz (i64 D) (CL HP AA AA (CM C) rfl) rfl (AR AA (Ad M (AD λg6 P=>Bh (Lk s1 uW [KM,BP z]) 12 (by kernel_rfl) (by kernel_rfl) (by kernel_rfl) (by rfl) (BL (i64 D) AT AA (λ_ _=>BO AA) (BL Aq AT AA (λ_ _=>BO AA) (BL (Il uW s1) AT AA (λ_ _=>DD IL AA AA AA tv rfl) (BL (ls eI p2) AT AA (λ_ _=>BO AA) (BL Ca AT AA (λ_ _=>FR bK AA AA uM rfl) (BL (Cd uW) AT AA (λ_ _=>CL gZ AA AA AA AA) (BL (i64 D) AT AA (λ_ _=>BO AA) (bs h0 λg0 Q h0=>GA AT (λJ zz=>Fa (E9 Q) (Ao AA)) (BL (i64 p4) AT AA (λ_ _=>BO AA) (BL (i64 (Sh.w (p4-1))) AT AA (λ_ _=>Qk AA AA) (bs h0 λt R h0=>?_))))))))))))))))));refine Q0 (JU t.1) (E1 uT t.2) [0,1] AT (hb 283) (BS.wk (Ju vK R) (by refine Wk.trans (Wk.Bg (L:=[(0,JU t.1)]) (st':=(D2 uT t.2 s1 [Gx])) (id:=2) rfl uI (AM Ag) ⟨.Bg AA,pw⟩ AA) ?_;exact BH [0,1] (.w (.p .nil)) (.same AA))) rfl (λ_=>AA) (λ_=>AA) Cv ?_;refine bs h0 λb S h0=>GA AT (λJ zz=>Fa (BT S) (Ao AA)) (FV AA (Bp BY AA (Ad P ?_)));cases h0;exact Ap ⟨_,(BH (L:=[(10,Ca)]) (st':=(D2 uT t.2 s1 [KN b.op b.num b.kids])) [0,1,3] (.w (.p (.w .nil))) ⟨.rfl,pw⟩).trans (Dh [(10,Ca)] ⟨.rfl,pw⟩),Gw (.tmp 10) (Hx b.op b.num b.kids) BY AA _ ⟨AA,AA⟩⟩
  ·refine AH (d8 _ (AD λg7 T=>Al AA ?_));refine Az h0 ?_ ?_<;>intro g8 h0
   ·refine Ai λg9 U=>Ae 4 AA (bs h0 λa V h0=>QT (Hb uT a.2 s1 uW [BP z]) (BJ a.1.op a.1.num a.1.kids) [0,1] AT (hb 271) (J3 V) rfl AA (λ_=>AA) (λ_=>AA) (Bp BY AA (Ad U ?_)));cases h0;exact Ap ⟨_,(BH (L:=[(10,Ca)]) (st':=(D2 uT a.2 s1 [KN a.1.op a.1.num a.1.kids])) [0,1,3] (.w (.p (.w .nil))) ⟨.rfl,pw⟩).trans (Dh [(10,Ca)] ⟨.rfl,pw⟩),Gw (.tmp 10) (Hx a.1.op a.1.num a.1.kids) BY AA _ ⟨AA,AA⟩⟩
   ·refine AH (T _ (AD λh4 W=>Ai λh5 X=>AR AA (bs h0 λk Y h0=>IE (Hb uT k.2 s1 uW [BP z]) (i64 k.1) [0] AT (hb 160) (Aw Y) rfl AA (AR AA (Ad X ?_)))));refine Az h0 ?_ ?_<;>intro h6 h0
    ·refine Ai λh7 Z=>Ae 3 AA (CF 5 [(0:Int)] eI BE AA (Ae 2 AA (D8 [(10,G1),(101,Aq),(102,Il uW s1),(103,ls eI p2),(104,ju),(106,i64 (Sh.w (p4-1)))] (Hb uT k.2 s1 uW [BP z,⟨1,3,1,[]⟩]) 5 AA ⟨.rfl,.rfl,.agg ⟨.rfl,.rfl,pw⟩,.rfl,.Bg AA,.rfl,pw⟩ Cv AA (bs h0 λg b0 h0=>DX (rowsP:=(D2 uT k.2 s1 [])) (rows0:=(D2 uT k.2 s1 [])) (rows1:=(D2 uT g.2 s1 [])) (rows2:=[Ic g.1]) (rows1':=(D2 uT g.2 s1 [])) (rows2':=[Ic g.1]) (st':=(Hb uT g.2 s1 uW [BP z,⟨1,3,1,[]⟩,Ic g.1])) (v':=(ow 6 0 g.1)) [0,1] AT (hb 283) (Ju vK b0) rfl (by decide) rfl AA (.raw AA AA (.pure Bf .nil)) rfl AA (.raw AA AA (.pure Bf .nil)) (.pure (AM Ag) .nil) rfl AA (BD (Wk.Bg (L:=[(10,G1),(107,JU g.1)]) (st':=(Hb uT g.2 s1 uW [BP z,⟨1,3,1,[]⟩,Gx])) (id:=6) rfl uA (AM Ag) ⟨.rfl,.Bg AA,pw⟩ AA) (bs h0 λc b1 h0=>Dj (BJ c.op c.num c.kids) (hb 220) (BT b1) rfl (Bp BY AA (Ad Z ?_))))))));cases h0;exact Ap ⟨_,(BH (L:=[(10,Ca)]) (st':=(D2 uT g.2 s1 [KN c.op c.num c.kids])) [0,1,3] (.w (.p (.w .nil))) ⟨.rfl,pw⟩).trans (Dh [(10,Ca)] ⟨.rfl,pw⟩),Gw (.tmp 10) (Hx c.op c.num c.kids) BY AA _ ⟨AA,AA⟩⟩
    ·refine AH (W _ (AD λh8 b2=>Bh (Lk s1 uW [KM,BP z]) 11 (by kernel_rfl) (by kernel_rfl) (by kernel_rfl) (by rfl) (BL Aq AT AA (λ_ _=>BO AA) (GA AT (λJ zz=>Gv (l:=[(1:Int),2,3,4]) (enc:=eI) AT BE (by decide) rfl AA AA AA AA Bf (Ao AA)) (bs h0 λB b3 h0=>US (i64 B.1) (E1 uT B.2) [0] AT (hb 163) (CG b3) rfl (λ_=>AA) (BL Aq AT AA (λ_ _=>BO AA) (BL (Il uW s1) AT AA (λ_ _=>DD IL AA AA AA tv rfl) (BL (ls eI p2) AT AA (λ_ _=>BO AA) (GA AT (λJ zz=>Gv (l:=[(0:Int),0]) (enc:=eI) AT BE (by decide) rfl AA AA AA AA Bf (Ao AA)) (BL (i64 p4) AT AA (λ_ _=>BO AA) (BL (i64 (Sh.w (p4-1))) AT AA (λ_ _=>Qk AA AA) (bs h0 λu b4 h0=>?_))))))))))));refine Q0 (JU u.1) (E1 uT u.2) [0,1] AT (hb 283) (BS.wk (Ju vK b4) (by refine Wk.trans (Wk.Bg (L:=[(0,JU u.1)]) (st':=(D2 uT u.2 s1 [Gx])) (id:=2) rfl uI (AM Ag) ⟨.Bg AA,pw⟩ AA) ?_;exact BH [0,1] (.w (.p .nil)) (.same AA))) rfl (λ_=>AA) (λ_=>AA) Cv ?_;refine bs h0 λd b5 h0=>GA AT (λJ zz=>Fa (BT b5) (Ao AA)) (FV AA (Bp BY AA (Ad b2 ?_)));cases h0;exact Ap ⟨_,(BH (L:=[(10,Ca)]) (st':=(D2 uT u.2 s1 [KN d.op d.num d.kids])) [0,1,3] (.w (.p (.w .nil))) ⟨.rfl,pw⟩).trans (Dh [(10,Ca)] ⟨.rfl,pw⟩),Gw (.tmp 10) (Hx d.op d.num d.kids) BY AA _ ⟨AA,AA⟩⟩
 refine Ai λh9 b6=>AR AA (bs y λh b7 y=>IE (Hb uT h.2 s1 uW []) (i64 h.1) [0] AT (hb 160) (Aw b7) rfl AA (AR AA (Ad b6 ?_)));refine Az y ?_ ?_<;>intro k0 y
 ·refine Al AA (ZX λg1 b8=>?_);obtain⟨E,f,y⟩:=Sh.BZ y;have g2:∀(_:Unit),E=Sum.inr ()->∀s,Wk 2 s ⟨120,AL (Ef p2 (S9 p3 p4 [])),Hb uT h.2 s1 uW []⟩->g1 s:=by
   intro _ hq s K;subst E;exact b8 _ (M4 h.2 (BU y) _ (K.trans (Dh (Ef p2 (S9 p3 p4 [])) (.same AA))))
  refine AJ (Le (Fj N uT s1 uW p2 p3 p4 h ug) (λa38=>⟨120,AL [(0,.ptr 0 0 0 0),(2,ls eI p2),(3,i64 p3),(4,i64 p4),(6,.ptr 2 0 0 0),(10,.ptr 3 0 0 0),(11,i64 a38)],[E1 uT h.2,ro 0 55 5 Bd s1,⟨0,40,2,[[ls Ak uW,ow 1 0 s1]]⟩,KM]⟩) N 1 f Au ?_);intro n a38 f;rw[Fj]at f;refine AD λk1 c0=>Ai λk2 c1=>Ae 3 AA (Cc AA (AR AA (Ad c1 ?_)));refine Az f ?_ ?_<;>intro k3 f
  ·refine AH (c0 _ (AD λk4 c2=>AJ (AD λg3 c3=>bs f λc4 o f=>?_)));have F:∀G,c4=G->∀s,Wk 2 s ⟨120,AL (Ef p2 (S9 p3 p4 [(11,i64 a38),(44,.bool G)])),Hb uT h.2 s1 uW []⟩->g3 s:=by
    intro G hq s K;subst c4;refine c3 _ (AF K ?_);refine Az f ?_ ?_<;>intro k5 f
    ·refine AD λk6 c5=>Bh (Lk s1 uW [KM]) 20 (by kernel_rfl) (by kernel_rfl) (by kernel_rfl) (by rfl) (BL Aq AT AA (λ_ _=>BO AA) (BL (Il uW s1) AT AA (λ_ _=>DD IL AA AA AA tv rfl) (BL (ls eI p2) AT AA (λ_ _=>BO AA) (BL (i64 a38) AT AA (λ_ _=>BO AA) (bs f λp c6 f=>Q0 (BJ p.1.op p.1.num p.1.kids) (E1 uT p.2) [0,1] AT (hb 271) (J3 c6) rfl (λ_=>AA) (λ_=>AA) (λ_=>AA) (BL Aq AT AA (λ_ _=>BO AA) (BL (Il uW s1) AT AA (λ_ _=>DD IL AA AA AA tv rfl) (BL (ls eI p2) AT AA (λ_ _=>BO AA) (BL Ca AT AA (λ_ _=>FR bK AA AA uM rfl) (BL (Cd uW) AT AA (λ_ _=>CL gZ AA AA AA AA) (BL (i64 a38) AT AA (λ_ _=>BO AA) (BL (i64 (Sh.w (a38-1))) AT AA (λ_ _=>Qk AA AA) (bs f λH c7 f=>BL (UU H) AT AA (λ_ _=>JT DZ AA c7) (BL (UU H) AT AA (λ_ _=>Je kX AA AA) (BL (i64 H.from_) AT AA (λ_ _=>JA HP AA AA) (BL (i64 p4) AT AA (λ_ _=>BO AA) (BL (i64 (Sh.w (p4-2))) AT AA (λ_ _=>Qk AA AA) (bs f λq c8 f=>Q0 (BJ q.1.op q.1.num q.1.kids) (E1 uT q.2) [0,1] AT (hb 269) (vK c8) rfl (λ_=>AA) (λ_=>AA) Cv ?_))))))))))))))))));refine GA AT (λJ zz=>Gv (l:=[p.1,q.1]) (enc:=BI) AT Bq (by decide) rfl AA AA (by simp only[List.map,Aj];rfl) rfl (AM Ag) (Ao AA)) ?_;refine bs f λe c9 f=>GA AT (λJ zz=>Fa (BT c9) (Ao AA)) (FV AA (Bp BY AA (Ad c5 ?_)));cases f;cases y;cases h0;exact Ap ⟨_,(BH (L:=[(10,Ca)]) (st':=(D2 uT q.2 s1 [KN e.op e.num e.kids])) [0,1,3] (.w (.p (.w .nil))) ⟨.rfl,pw⟩).trans (Dh [(10,Ca)] ⟨.rfl,pw⟩),Gw (.tmp 10) (Hx e.op e.num e.kids) BY AA _ ⟨AA,AA⟩⟩
    ·exact AH (c2 _ (AE AA (Ae 3 AA (AB (xi (Sh.w (a38+1)) f Au)))))
   refine AE AA (Ae 3 AA (bs o λk7 d0 o=>HX (hb 183) (K0 d0) rfl (AR AA ?_)));rcases Sh.Aa o with ⟨i,o⟩|⟨i,o⟩
   ·refine Am i AA ?_;iterate 3 refine Am i rfl ?_
    refine bs o λg4 d1 o=>DQ (UU g4) i (JT DZ AA d1) ?_;iterate 4 refine Am i rfl ?_
    refine zt i AA (AR AA ?_);rcases Sh.Aa o with ⟨j,o⟩|⟨j,o⟩
    ·exact Am j AA (Am j AA (Am j AA (bs o λd2 d3 o=>OU (v':=(.bool d2)) (GF AA AA j) (hb 289) (LH d3) rfl (.agg (.val AA (.own AA AA Cv .nil)) (.val AA (.val AA .nil))) rfl pw AA AA (zt j AA (AB (F d2 (BU o) _ Au))))))
    ·refine zs j AA ?_;iterate 3 refine zs j rfl ?_
     exact zf j AA (AB (F false (BU o) _ Au))
   ·refine zs i AA ?_;iterate 8 refine zs i rfl ?_
    refine zf i AA (AR AA ?_);iterate 4 refine zs rfl rfl ?_
    exact zf AA AA (AB (F false (BU o) _ Au))
  ·exact As (g2 () (BU f) _ Au)
 ·exact AH (M4 h.2 (BU y) _ Au)
theorem X6 {N:Nat}{ug:(List Int)->Int->(List Ar)->(List AI)->(List Int)->Int->Int->Option (AG×Int)}(vK :∀{uT:(List Int)} {uV:Int} {s1:(List Ar)} {uW:(List AI)} {p2:(List Int)} {p3:Int} {p4:Int} {r:AG×Int},ug uT uV s1 uW p2 p3 p4=some r->Bn 269 (Yn uW s1 p2 p3 p4) (D2 uT uV s1 []) (BJ r.1.op r.1.num r.1.kids) (D2 uT r.2 s1 [])){uT:(List Int)}{uV:Int}{s1:(List Ar)}{uW:(List AI)}{p2:(List Int)}{p3 p4:Int}{r:AG×Int}(h0:Nd N ug uT uV s1 uW p2 p3 p4=some r):Bn 269 (Yn uW s1 p2 p3 p4) (D2 uT uV s1 []) (BJ r.1.op r.1.num r.1.kids) (D2 uT r.2 s1 []):=by
 unfold Nd at h0;refine BS.wk (r0:=(BJ r.1.op r.1.num r.1.kids)) (st0:=(D2 uT r.2 s1 [KN r.1.op r.1.num r.1.kids])) (Cx Tryz.func269 AA (Ai λK1 c8=>Et 2 AA (Cn 3 GG AA (Ad c8 (AD λK2 c9=>Al AA ?_))))) (Fy (L:=[(0,BJ r.1.op r.1.num r.1.kids)]) (st':=(D2 uT r.2 s1 [])) [0,1] AA (by decide) rfl AA (.raw AA (.pure Bf pw)) (.same AA));refine Az h0 ?_ ?_<;>intro b4 h0
 ·refine Ai λK5 d0=>Ae 4 AA (bs h0 λk d1 h0=>QT (Hb uT k.2 s1 uW []) (BJ k.1.op k.1.num k.1.kids) [0,1] AT (hb 271) (J3 d1) rfl AA (λ_=>AA) (λ_=>AA) (Bp BY AA (Ad d0 ?_)));cases h0;exact Ap ⟨_,(BH (L:=[(10,Ca)]) (st':=(D2 uT k.2 s1 [KN k.1.op k.1.num k.1.kids])) [0,1,3] (.w (.p (.w .nil))) ⟨.rfl,pw⟩).trans (Dh [(10,Ca)] ⟨.rfl,pw⟩),Gw (.tmp 10) (Hx k.1.op k.1.num k.1.kids) BY AA _ ⟨AA,AA⟩⟩
 ·refine AH (c9 _ (AD λK7 d2=>?_));obtain⟨o9,a,h0⟩:=Sh.BZ h0;have M9:∀(f8:Int),o9=Sum.inr f8->∀s,Wk 2 s ⟨114,AL (Ef p2 (S9 p3 p4 [])),Hb uT f8 s1 uW []⟩->K7 s:=by
   intro f8 hq s B;subst o9;refine d2 _ (AF B (Ai λg1 G=>Ae 5 AA (bs h0 λc H h0=>QT (Hb uT c.2 s1 uW []) (BJ c.1.op c.1.num c.1.kids) [0,1] AT (hb 286) (UF vK H) rfl AA (λ_=>AA) (λ_=>AA) (Bp BY AA (Ad G ?_)))));cases h0;exact Ap ⟨_,(BH (L:=[(10,Ca)]) (st':=(D2 uT c.2 s1 [KN c.1.op c.1.num c.1.kids])) [0,1,3] (.w (.p (.w .nil))) ⟨.rfl,pw⟩).trans (Dh [(10,Ca)] ⟨.rfl,pw⟩),Gw (.tmp 10) (Hx c.1.op c.1.num c.1.kids) BY AA _ ⟨AA,AA⟩⟩
  refine Ai λg2 I=>AR AA (bs a λb J a=>IE (Hb uT b.2 s1 uW []) (i64 b.1) [0] AT (hb 160) (Aw J) rfl AA (Ad I (AJ (Al AA ?_))));refine Az a ?_ ?_<;>intro g3 a
  ·refine Ai λg4 K=>Ae 4 AA (bs a λd M a=>QT (Hb uT d.2 s1 uW []) (BJ d.1.op d.1.num d.1.kids) [0,1] AT (hb 271) (J3 M) rfl AA (λ_=>AA) (λ_=>AA) (Bp BY AA (Ad K ?_)));cases a;cases h0;exact Ap ⟨_,(BH (L:=[(10,Ca)]) (st':=(D2 uT d.2 s1 [KN d.1.op d.1.num d.1.kids])) [0,1,3] (.w (.p (.w .nil))) ⟨.rfl,pw⟩).trans (Dh [(10,Ca)] ⟨.rfl,pw⟩),Gw (.tmp 10) (Hx d.1.op d.1.num d.1.kids) BY AA _ ⟨AA,AA⟩⟩
  ·refine AD λd3 O=>bs a λP i a=>?_;have Q:∀C,P=C->∀s,Wk 2 s ⟨114,AL (Ef p2 (S9 p3 p4 [(22,i64 b.1),(30,.bool C)])),Hb uT b.2 s1 uW []⟩->d3 s:=by
    intro C hq s B;subst P;refine O _ (AF B ?_);refine Az a ?_ ?_<;>intro g5 a
    ·refine Ai λg6 R=>Ae 3 AA (bs a λn S a=>QT (Hb uT n.2 s1 uW []) (i64 n.1) [0,1] AT (hb 282) (Vb S) rfl AA (λ_=>AA) (λ_=>AA) (AR AA (Ad R (AD λg7 T=>Bh (Lk s1 uW [KM]) 19 (by kernel_rfl) (by kernel_rfl) (by kernel_rfl) (by rfl) (BL Aq AT AA (λ_ _=>BO AA) (BL (Il uW s1) AT AA (λ_ _=>DD IL AA AA AA tv rfl) (BL (ls eI p2) AT AA (λ_ _=>BO AA) (BL (i64 n.1) AT AA (λ_ _=>BO AA) (BL (i64 p4) AT AA (λ_ _=>BO AA) (BL (i64 (Sh.w (Int.tdiv p4 2))) AT AA (λ_ _=>XA AA AA (by decide)) (bs a λo U a=>Q0 (BJ o.1.op o.1.num o.1.kids) (E1 uT o.2) [0,1] AT (hb 269) (vK U) rfl (λ_=>AA) (λ_=>AA) (λ_=>AA) (BL Aq AT AA (λ_ _=>BO AA) (BL (Il uW s1) AT AA (λ_ _=>DD IL AA AA AA tv rfl) (BL (ls eI p2) AT AA (λ_ _=>BO AA) (BL (i64 n.1) AT AA (λ_ _=>BO AA) (GA AT (λx0 zz=>Gv (l:=[n.1]) (enc:=eI) AT BE (by decide) rfl AA AA AA AA Bf (Ao AA)) (bs a λV W a=>?_)))))))))))))))));refine GA AT (λx0 zz=>Fa (BS.wk (Eg W) (by refine Wk.trans (Wk.Bg (L:=[(0,ls eI V)]) (st':=S6) (id:=0) rfl tw Bf ⟨.Bg AA,pw⟩ AA) ?_;exact BH [] .nil (.same AA))) (Ao AA)) ?_;refine BL (i64 p3) AT AA (λ_ _=>BO AA) (BL (i64 p4) AT AA (λ_ _=>BO AA) (BL (i64 (Sh.w (Int.tdiv p4 2))) AT AA (λ_ _=>XA AA AA (by decide)) (bs a λp X a=>Q0 (BJ p.1.op p.1.num p.1.kids) (E1 uT p.2) [0,1] AT (hb 269) (vK X) rfl (λ_=>AA) (λ_=>AA) Cv ?_)));refine GA AT (λx0 zz=>Gv (l:=[o.1,p.1]) (enc:=BI) AT Bq (by decide) rfl AA AA (by simp only[List.map,Aj];rfl) rfl (AM Ag) (Ao AA)) ?_;refine bs a λf Y a=>GA AT (λx0 zz=>Fa (BT Y) (Ao AA)) (FV AA (Bp BY AA (Ad T ?_)));cases a;cases h0;exact Ap ⟨_,(BH (L:=[(10,Ca)]) (st':=(D2 uT p.2 s1 [KN f.op f.num f.kids])) [0,1,3] (.w (.p (.w .nil))) ⟨.rfl,pw⟩).trans (Dh [(10,Ca)] ⟨.rfl,pw⟩),Gw (.tmp 10) (Hx f.op f.num f.kids) BY AA _ ⟨AA,AA⟩⟩
    ·refine Al AA ?_;refine Az a ?_ ?_<;>intro g8 a
     ·refine Ai λg9 Z=>Ae 5 AA (CF 4 [0,p3,p3] eI BE AA (Ae 2 AA (D8 [(10,G1),(58,Aq),(59,Il uW s1),(60,ls eI p2),(63,ls eI [0,p3,p3]),(65,i64 (Sh.w (p4-1)))] (Hb uT b.2 s1 uW [⟨1,3,1,[]⟩]) 4 AA ⟨.rfl,.rfl,.agg ⟨.rfl,.rfl,pw⟩,.rfl,.Bg AA,.rfl,pw⟩ Cv AA (bs a λj b0 a=>DX (rowsP:=(D2 uT b.2 s1 [])) (rows0:=(D2 uT b.2 s1 [])) (rows1:=(D2 uT j.2 s1 [])) (rows2:=[Ic j.1]) (rows1':=(D2 uT j.2 s1 [])) (rows2':=[Ic j.1]) (st':=(Hb uT j.2 s1 uW [⟨1,3,1,[]⟩,Ic j.1])) (v':=(ow 5 0 j.1)) [0,1] AT (hb 283) (Ju vK b0) rfl (by decide) rfl AA (.raw AA AA (.pure Bf .nil)) rfl AA (.raw AA AA (.pure Bf .nil)) (.pure (AM Ag) .nil) rfl AA (BD (Wk.Bg (L:=[(10,G1),(66,JU j.1)]) (st':=(Hb uT j.2 s1 uW [⟨1,3,1,[]⟩,Gx])) (id:=5) rfl uG (AM Ag) ⟨.rfl,.Bg AA,pw⟩ AA) (bs a λg b1 a=>Dj (BJ g.op g.num g.kids) (hb 220) (BT b1) rfl (Bp BY AA (Ad Z ?_))))))));cases a;cases h0;exact Ap ⟨_,(BH (L:=[(10,Ca)]) (st':=(D2 uT j.2 s1 [KN g.op g.num g.kids])) [0,1,3] (.w (.p (.w .nil))) ⟨.rfl,pw⟩).trans (Dh [(10,Ca)] ⟨.rfl,pw⟩),Gw (.tmp 10) (Hx g.op g.num g.kids) BY AA _ ⟨AA,AA⟩⟩
     ·refine AD λd4 b2=>bs a λb3 i a=>?_;have D:∀E,b3=E->∀s,Wk 2 s ⟨114,AL (Ef p2 (S9 p3 p4 [(22,i64 b.1),(68,.bool E)])),Hb uT b.2 s1 uW []⟩->d4 s:=by
       intro E hq s B;subst b3;refine b2 _ (AF B ?_);refine Az a ?_ ?_<;>intro h3 a
       ·refine Ai λh4 b5=>Ae 5 AA (bs a λe b6 a=>QT (Hb uT e.2 s1 uW []) (BJ e.1.op e.1.num e.1.kids) [0,1] AT (hb 284) (Ux vK b6) rfl AA (λ_=>AA) (λ_=>AA) (Bp BY AA (Ad b5 ?_)));cases a;cases h0;exact Ap ⟨_,(BH (L:=[(10,Ca)]) (st':=(D2 uT e.2 s1 [KN e.1.op e.1.num e.1.kids])) [0,1,3] (.w (.p (.w .nil))) ⟨.rfl,pw⟩).trans (Dh [(10,Ca)] ⟨.rfl,pw⟩),Gw (.tmp 10) (Hx e.1.op e.1.num e.1.kids) BY AA _ ⟨AA,AA⟩⟩
       ·refine AD λd5 b7=>bs a λb8 i a=>?_;have b9:∀F,b8=F->∀s,Wk 2 s ⟨114,AL (Ef p2 (S9 p3 p4 [(78,.bool F)])),Hb uT b.2 s1 uW []⟩->d5 s:=by
         intro F hq s B;subst b8;refine b7 _ (AF B ?_);refine Az a ?_ ?_<;>intro h5 a
         ·refine Ai λh6 c0=>Ae 2 AA (bs a λt c1 a=>OU (v':=(ow 4 0 t)) AT (hb 285) (UY c1) rfl (.agg (.val AA (.own AA AA Cv .nil)) (.val AA .nil)) rfl (nA Cv pw) rfl AA (AR AA (Ad c0 (Ai λh7 c2=>AR AA (zz (Cb t) (C9 FY AA AA AA) rfl (AR AA (Ad c2 ?_)))))));refine Az a ?_ ?_<;>intro h8 a
          ·refine Ai λh9 c3=>Ae 3 AA (zz (Cb t) (C9 FY AA AA AA) rfl (bs a λu c4 a=>IE (Hb uT u.2 s1 uW [BP t]) (i64 u.1) [0] AT (hb 160) (Aw c4) rfl AA (bs a λy z a=>zz (jS u.1) (HC BE AA z) rfl (zz (i64 y) (CL HP AA AA (CM z) rfl) rfl (AR AA (Ad c3 (AD λk0 c5=>Bh (Lk s1 uW [KM,BP t]) 14 (by kernel_rfl) (by kernel_rfl) (by kernel_rfl) (by rfl) (BL (i64 y) AT AA (λ_ _=>BO AA) (BL Aq AT AA (λ_ _=>BO AA) (BL (Il uW s1) AT AA (λ_ _=>DD IL AA AA AA tv rfl) (BL (ls eI p2) AT AA (λ_ _=>BO AA) (BL eY AT AA (λ_ _=>FR Qi AA AA uB rfl) (BL (ow 1 0 s1) AT AA (λ_ _=>CL TN AA AA AA AA) (BL (i64 y) AT AA (λ_ _=>BO AA) (bs a λd6 A a=>BL (Mc y) AT AA (λ_ _=>HC Ee AA A) (BL (Mc y) AT AA (λ_ _=>FR W3 AA AA (show 0+0<=5 by decide) rfl) (BL (J8 d6.params) AT AA (λ_ _=>CL Mi AA AA (CM A) rfl) (BL (i64 p4) AT AA (λ_ _=>BO AA) (BL (i64 (Sh.w (p4-1))) AT AA (λ_ _=>Qk AA AA) (bs a λq c6 a=>?_))))))))))))))))))));refine Q0 (JU q.1) (E1 uT q.2) [0,1] AT (hb 283) (BS.wk (Ju vK c6) (by refine Wk.trans (Wk.Bg (L:=[(0,JU q.1)]) (st':=(D2 uT q.2 s1 [Gx])) (id:=2) rfl uI (AM Ag) ⟨.Bg AA,pw⟩ AA) ?_;exact BH [0,1] (.w (.p .nil)) (.same AA))) rfl (λ_=>AA) (λ_=>AA) Cv ?_;refine bs a λh c7 a=>GA AT (λx0 zz=>Fa (BT c7) (Ao AA)) (FV AA (Bp BY AA (Ad c5 ?_)));cases a;cases h0;exact Ap ⟨_,(BH (L:=[(10,Ca)]) (st':=(D2 uT q.2 s1 [KN h.op h.num h.kids])) [0,1,3] (.w (.p (.w .nil))) ⟨.rfl,pw⟩).trans (Dh [(10,Ca)] ⟨.rfl,pw⟩),Gw (.tmp 10) (Hx h.op h.num h.kids) BY AA _ ⟨AA,AA⟩⟩
          ·exact AH (M9 b.2 (BU a) _ (BH [0,1,2,3] (.w (.p (.w (.w .nil)))) (.same AA)))
         ·exact AH (M9 b.2 (BU a) _ Au)
        refine Al AA ?_;refine Az i ?_ ?_<;>intro d7 i
        ·exact AH (b9 true (BU i) _ (Dh (Ef p2 (S9 p3 p4 [(78,.bool true)])) ⟨.rfl,.rfl,.rfl,.rfl,.rfl,.rfl,.of (rC AV.bool d7),pw⟩))
        ·exact AE AA (Ae 2 AA (AB (b9 (decide (b.1=8)) (BU i) _ Au)))
      refine Al AA ?_;refine Az i ?_ ?_<;>intro d8 i
      ·exact AH (D true (BU i) _ (Dh (Ef p2 (S9 p3 p4 [(22,i64 b.1),(68,.bool true)])) ⟨.rfl,.rfl,.rfl,.rfl,.rfl,.rfl,.rfl,.of (rC AV.bool d8),pw⟩))
      ·refine Al AA ?_;refine Az i ?_ ?_<;>intro d9 i
       ·exact AH (D true (BU i) _ (Dh (Ef p2 (S9 p3 p4 [(22,i64 b.1),(68,.bool true)])) ⟨.rfl,.rfl,.rfl,.rfl,.rfl,.rfl,.rfl,.of (rC AV.bool d9),pw⟩))
       ·exact AE AA (Ae 2 AA (AB (D (decide (b.1=6)) (BU i) _ Au)))
   refine Al AA ?_;refine Az i ?_ ?_<;>intro g0 i
   ·exact AH (Q true (BU i) _ (Dh (Ef p2 (S9 p3 p4 [(22,i64 b.1),(30,.bool true)])) ⟨.rfl,.rfl,.rfl,.rfl,.rfl,.rfl,.rfl,.of (rC AV.bool g0),pw⟩))
   ·exact AE AA (Ae 2 AA (AB (Q (decide (b.1=2)) (BU i) _ Au)))
theorem Xw {N:Nat}:∀(n:Nat),∀{uT:(List Int)} {uV:Int} {s1:(List Ar)} {uW:(List AI)} {p2:(List Int)} {p3:Int} {p4:Int} {r:AG×Int},Kb N n uT uV s1 uW p2 p3 p4=some r->Bn 269 (Yn uW s1 p2 p3 p4) (D2 uT uV s1 []) (BJ r.1.op r.1.num r.1.kids) (D2 uT r.2 s1 []):=by
 intro n
 induction n with
 | zero=>intro uT uV s1 uW p2 p3 p4 r a;cases a
 | succ n ih=>
  intro uT uV s1 uW p2 p3 p4 r a;rw[Kb]at a;exact X6 (λh=>ih h) a
theorem Gk {N:Nat}:∀{uT:(List Int)} {uV:Int} {s1:(List Ar)} {uW:(List AI)} {p2:(List Int)} {p3:Int} {p4:Int} {r:AG×Int},Hw N uT uV s1 uW p2 p3 p4=some r->Bn 269 (Yn uW s1 p2 p3 p4) (D2 uT uV s1 []) (BJ r.1.op r.1.num r.1.kids) (D2 uT r.2 s1 []):=by
 intro uT uV s1 uW p2 p3 p4 r a;exact Xw N a
theorem Vr {N:Nat}{uT:(List Int)}{uV p1:Int}{r:AG×Int}(h0:Li N uT uV p1=some r):Bn 270 [Aq,i64 p1] [E1 uT uV] (BJ r.1.op r.1.num r.1.kids) [E1 uT r.2]:=by
 unfold Li at h0;refine BS.wk (r0:=(BJ r.1.op r.1.num r.1.kids)) (st0:=[E1 uT r.2,KN r.1.op r.1.num r.1.kids]) (Cx Tryz.func270 AA (Ai λK1 Z=>Cn 1 GG AA (Ad Z (Ai λK2 b0=>?_)))) (Fy (L:=[(0,BJ r.1.op r.1.num r.1.kids)]) (st':=[E1 uT r.2]) [0] AA (by decide) rfl AA (.raw AA pw) (.same AA));refine CF 2 ([]:List AG) BI Bq (by simp only[List.map,Aj];rfl) ?_;refine BD (Wk.Bg (L:=[(0,Aq),(1,i64 p1),(4,DW),(10,fL)]) (st':=[E1 uT uV,KM,Gx]) (id:=2) rfl uN (AM Ag) ⟨.rfl,.rfl,.rfl,.Bg AA,pw⟩ AA) (bs h0 λq b1 h0=>Dj (BJ q.op q.num q.kids) (hb 220) (BT b1) rfl (Cn 3 GG AA (Bp BY AA (BD (Wk.Bg (L:=[(0,Aq),(1,i64 p1),(4,DW),(5,Cz q.op q.num q.kids)]) (st':=[E1 uT uV,KM,Gx,Gx]) (id:=3) rfl (show 1<=3 by decide) (Di AA) (.same AA) rfl) (Ad b0 (AD λK4 b2=>Al AA ?_))))));refine Az h0 ?_ ?_<;>intro b6 h0
 ·refine Ai λK7 b3=>?_;refine CF 4 ([]:List AG) BI Bq (by simp only[List.map,Aj];rfl) ?_;refine BD (Wk.Bg (L:=[(0,Aq),(4,DW),(14,fL)]) (st':=[E1 uT uV,KM,Gx,Gx,Gx]) (id:=4) rfl uK (AM Ag) ⟨.rfl,.rfl,.Bg AA,pw⟩ AA) (bs h0 λa b4 h0=>Dj (BJ a.op a.num a.kids) (hb 220) (BT b4) rfl (Cn 5 GG AA (Bp BY AA (BD (Wk.Bg (L:=[(0,Aq),(4,DW),(6,Cz a.op a.num a.kids)]) (st':=[E1 uT uV,KM,Gx,Gx,Gx,Gx]) (id:=5) rfl (show 1<=5 by decide) (Di AA) (.same AA) rfl) (Ad b3 (AD λK9 b5=>?_))))));refine AF (CS (L:=[(0,Aq),(4,DW),(6,Cz a.op a.num a.kids)]) (st':=[E1 uT uV,KM,JG,JG,JG,JG]) (.raw AA AA AA (.raw AA AA AA (.pure AA nN (.pure AA nN (.pure AA nN (.pure AA nN .nil)))))) (.same AA)) ?_;refine Bh [KM,JG,JG,JG,JG] 8 (by kernel_rfl) (by kernel_rfl) (by kernel_rfl) (by rfl) (BL (BJ a.op a.num a.kids) AT AA (λ_ _=>Ir BY AA tr rfl) (BL Aq AT AA (λ_ _=>BO AA) (bs h0 λf G h0=>US (i64 f.1) (E1 uT f.2) [0] AT (hb 160) (Aw G) rfl (λ_=>AA) (bs h0 λu H h0=>GA AT (λE zz=>Fa (Dt H) (Ao AA)) (BL (BJ a.op a.num a.kids) AT AA (λ_ _=>Ir BY AA tr rfl) ?_)))));refine GA AT (λE zz=>Gv (l:=[a,u,a]) (enc:=BI) AT Bq (by decide) rfl AA AA (by simp only[List.map,Aj];rfl) rfl (AM Ag) (Ao AA)) ?_;refine bs h0 λb I h0=>GA AT (λE zz=>Fa (BT I) (Ao AA)) (cx GG AA (FV AA (Bp BY AA (BD (Wk.Bg (L:=[(0,Aq),(4,DW),(6,Cz a.op a.num a.kids),(7,Cz b.op b.num b.kids)]) (st':=[E1 uT f.2,KM,JG,JG,JG,JG,Gx]) (id:=6) rfl (show 1<=6 by decide) (Di AA) (.same AA) rfl) (Ad b5 (AD λb9 J=>?_))))));refine AF (CS (L:=[(0,Aq),(4,DW),(6,Cz a.op a.num a.kids),(7,Cz b.op b.num b.kids)]) (st':=[E1 uT f.2,KM,JG,JG,JG,JG,JG]) (.raw AA AA AA (.raw AA AA AA (.pure AA nN (.pure AA nN (.pure AA nN (.pure AA nN (.pure AA nN .nil))))))) (.same AA)) ?_;refine Bh [KM,JG,JG,JG,JG,JG] 7 (by kernel_rfl) (by kernel_rfl) (by kernel_rfl) (by rfl) (BL (BJ b.op b.num b.kids) AT AA (λ_ _=>Ir BY AA tr rfl) (BL Aq AT AA (λ_ _=>BO AA) (bs h0 λy K h0=>US (i64 y.1) (E1 uT y.2) [0] AT (hb 160) (Aw K) rfl (λ_=>AA) (bs h0 λz M h0=>GA AT (λE zz=>Fa (Dt M) (Ao AA)) (BL (BJ a.op a.num a.kids) AT AA (λ_ _=>Ir BY AA tr rfl) ?_)))));refine GA AT (λE zz=>Gv (l:=[b,z,a]) (enc:=BI) AT Bq (by decide) rfl AA AA (by simp only[List.map,Aj];rfl) rfl (AM Ag) (Ao AA)) ?_;refine bs h0 λc O h0=>GA AT (λE zz=>Fa (BT O) (Ao AA)) (FV AA (Bp BY AA (Ad J ?_)));cases h0;exact Ap ⟨_,(BH (L:=[(4,DW)]) (st':=[E1 uT y.2,KN c.op c.num c.kids]) [0,1] (.w (.w .nil)) ⟨.rfl,pw⟩).trans (Dh [(4,DW)] ⟨.rfl,pw⟩),Gw (.tmp 4) (Hx c.op c.num c.kids) BY AA _ ⟨AA,AA⟩⟩
 ·refine AH (b2 _ (Ai λc0 P=>AR AA (Cn 4 GG AA (Bp BY AA (Ad P (AD λb7 Q=>Ai λc1 R=>AR AA (bs h0 λt S h0=>IE [E1 uT t.2,KM,Gx,Gx,KN q.op q.num q.kids] (i64 t.1) [0] AT (hb 160) (Aw S) rfl AA (Ae 2 AA (Ad R (bs h0 λF e h0=>?_))))))))));have b8:∀A g h i,F=(A,g,h,i)->∀s,Wk 1 s ⟨45,AL [(4,DW),(8,Ca)],[E1 uT A,KM,KN g h i]⟩->b7 s:=by
   rintro A g h i rfl s hw;refine Q _ (AF hw (Ai λc2 T=>AR AA (Bp BY AA (Ad T ?_))));cases h0;exact Ap ⟨_,(BH (L:=[(4,DW)]) (st':=[E1 uT A,KN g h i]) [0,1] (.w (.w .nil)) ⟨.rfl,pw⟩).trans (Dh [(4,DW)] ⟨.rfl,pw⟩),Gw (.tmp 4) (Hx g h i) BY AA _ ⟨AA,AA⟩⟩
  refine AJ (Ix (σ:=Int×Int×Int×Int×(List AG)) (λn v=>GW uT n v.1 v.2.1 v.2.2.1 v.2.2.2.1 v.2.2.2.2=some F) (λ(n21,B,j,k,o)=>⟨45,AL [(0,.ptr 0 0 0 0),(4,.ptr 1 0 0 0),(8,.ptr 2 0 0 0),(9,i64 n21)],[E1 uT B,KM,KN j k o]⟩) N (Sh.w (1+t.1),t.2,q.op,q.num,q.kids) e (BH [0,1,4] (.w (.w (.w .nil))) (.same AA)) (λ_ hv=>by rw[GW]at hv;cases hv) ?_);rintro n ⟨n21,B,j,k,o⟩ e;rw[GW]at e;refine AD λc3 U=>Al AA ?_;refine Az e ?_ ?_<;>intro c4 e
  ·refine AH (U _ (AD λc5 V=>AJ (Bh [KM,KN j k o] 6 (by kernel_rfl) (by kernel_rfl) (by kernel_rfl) (by rfl) (BL Aq AT AA (λ_ _=>BO AA) (bs e λC W e=>US (i64 C.1) (E1 uT C.2) [0] AT (hb 287) (QF W) rfl (λ_=>AA) (bs e λD X e=>GA AT (λE zz=>Fa (Dt X) (Ao AA)) (BL (BJ j k o) AT AA (λ_ _=>DD BY AA AA AA tr rfl) ?_)))))));refine GA AT (λE zz=>Gv (l:=[D,AG.mk j k o]) (enc:=BI) AT Bq (by decide) rfl AA AA (by simp only[List.map,Aj];rfl) rfl (AM Ag) (Ao AA)) ?_;exact bs e λp Y e=>GA AT (λE zz=>Fa (BT Y) (Ao AA)) (FV AA (Bp BY AA (Ad V (AE AA (Ae 3 AA (AB (xi (Sh.w (n21-1),C.2,p.op,p.num,p.kids) e Au)))))))
  ·exact As (b8 B j k o (BU e) _ Au)
theorem Uy {N:Nat}{uT:(List Int)}{uV:Int}{s1:(List Ar)}{uW:(List AI)}{r:AG×Int}(h0:Ke N uT uV s1 uW=some r):Bn 225 [Aq,Il uW s1] (D2 uT uV s1 []) (BJ r.1.op r.1.num r.1.kids) (D2 uT r.2 s1 []):=by
 unfold Ke at h0;refine BS.wk (r0:=(BJ r.1.op r.1.num r.1.kids)) (st0:=(D2 uT r.2 s1 [KN r.1.op r.1.num r.1.kids])) (Cx Tryz.func225 AA (Ai λM z=>Et 2 AA (Cn 3 GG AA (Ad z (Ai λO A=>AR AA (CF 4 [(1:Int),1,3] eI BE AA (D8 [(0,Aq),(3,Ca),(4,G1),(7,Aq),(8,ls eI [(1:Int),1,3])] (Hb uT uV s1 uW [⟨1,3,1,[]⟩]) 4 AA ⟨.rfl,.rfl,.rfl,.rfl,.Bg AA,pw⟩ Cv AA (bs h0 λg B h0=>IE (Hb uT g.2 s1 uW [⟨1,3,1,[]⟩]) (i64 g.1) [0] AT (hb 163) (CG B) rfl AA (AR AA (Ad A (Ai λP C=>Ae 3 AA (CF 5 [g.1] eI BE AA (D8 [(0,Aq),(4,G1),(5,i64 g.1),(10,Aq),(11,Il uW s1),(13,ls eI [g.1])] (Hb uT g.2 s1 uW (Cw [])) 5 AA ⟨.rfl,.rfl,.rfl,.rfl,.agg ⟨.rfl,.rfl,pw⟩,.Bg AA,pw⟩ Cv AA (bs h0 λb D h0=>QT (Hb uT b.2 s1 uW (Cw [])) (BJ b.1.op b.1.num b.1.kids) [0,1] AT (hb 269) (Gk D) rfl AA (λ_=>AA) (λ_=>AA) (Cn 6 GG AA (Bp BY AA (Ad C (AD λF E=>bs h0 λk h h0=>?_)))))))))))))))))) (Fy (L:=[(0,BJ r.1.op r.1.num r.1.kids)]) (st':=(D2 uT r.2 s1 [])) [0,1] AA (by decide) rfl AA (.raw AA (.pure Bf pw)) (.same AA));have n:∀y i j d,k=(y,i,j,d)->∀s,Wk 2 s ⟨27,AL [(0,Aq),(4,Ca),(5,i64 g.1),(6,G1)],D2 uT y s1 [KM,KN i j d]⟩->F s:=by
  rintro y i j d rfl s G;refine E _ (AF G (AD λH o=>Bh [PB s1,KM,KN i j d] 6 (by kernel_rfl) (by kernel_rfl) (by kernel_rfl) (by rfl) (BL Aq AT AA (λ_ _=>BO AA) (BL (i64 g.1) AT AA (λ_ _=>BO AA) (bs h0 λc p h0=>US (BJ c.1.op c.1.num c.1.kids) (E1 uT c.2) [0] AT (hb 270) (Vr p) rfl (λ_=>AA) (BL (BJ i j d) AT AA (λ_ _=>DD BY AA AA AA tr rfl) ?_))))));refine GA AT (λI zz=>Gv (l:=[c.1,AG.mk i j d]) (enc:=BI) AT Bq (by decide) rfl AA AA (by simp only[List.map,Aj];rfl) rfl (AM Ag) (Ao AA)) ?_;refine bs h0 λa q h0=>GA AT (λI zz=>Fa (BT q) (Ao AA)) (FV AA (Bp BY AA (Ad o ?_)));cases h0;exact Ap ⟨_,(BH (L:=[(4,Ca)]) (st':=(D2 uT c.2 s1 [KN a.op a.num a.kids])) [0,1,2] (.w (.p (.w .nil))) ⟨.rfl,pw⟩).trans (Dh [(4,Ca)] ⟨.rfl,pw⟩),Gw (.tmp 4) (Hx a.op a.num a.kids) BY AA _ ⟨AA,AA⟩⟩
 refine Ai λJ t=>AR AA (bs h λe u h=>IE (Hb uT e.2 s1 uW (Cw [KN b.1.op b.1.num b.1.kids])) (i64 e.1) [0] AT (hb 160) (Aw u) rfl AA (AR AA (Ad t ?_)));refine Az h ?_ ?_<;>intro K h
 ·refine AE AA (AR AA ?_);refine CF 7 [b.1] BI Bq (by simp only[List.map,Aj];rfl) ?_;exact BD (Wk.Bg (L:=[(0,Aq),(4,G1),(5,i64 g.1),(6,.ptr 6 0 0 0),(19,ls BI [b.1])]) (st':=(Hb uT e.2 s1 uW (Cw [KN b.1.op b.1.num b.1.kids,Gx]))) (id:=7) rfl uO (AM Ag) ⟨.rfl,.rfl,.rfl,.rfl,.Bg AA,pw⟩ AA) (bs h λf w h=>Dj (BJ f.op f.num f.kids) (hb 220) (BT w) rfl (Bp BY AA (AB (n e.2 f.op f.num f.kids (BU h) _ (BH [0,1,3,6] (.w (.p (.w (.w .nil)))) (.same AA))))))
 ·exact AH (n e.2 b.1.op b.1.num b.1.kids (BU h) _ (BH [0,1,3,6] (.w (.p (.w (.w .nil)))) (.same AA)))
end
end Go.Proofs.YtccficmcdkcpnaaGreat
