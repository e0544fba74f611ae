import Derived.Test.YtfkncfjpobjbjaaAbsQ
import Derived.Test.YtfkncfjpobjbjaaGAbsZKToAbsZV
set_option linter.all false
namespace Go.Abs
open Go
section
variable {P : Program}
end
section
variable {P : Program} {ops : Array Oper} {Q : Exit -> Act -> World -> Prop} {md : Region.Mode} {S : World -> Prop}
end
section
variable {P : Program} {s : St} {o : Oper} {v : AV} {n : Nat} {e : Nat -> AV} {st : List Row} {t : Tmp} {ty : TypeId} {ps : String} {ed : Array Edge} {x : Operand}
def hE (T:FN P)(s:St):Op->Option AV
 | .move x=>fo (s.ev x)
 | .assign x=>fo (s.ev x)
 | .fieldAddr t x f=>match s.ev x with
  | .A6 cs off=>(FE T.f t f).bind λj=>some (.A6 cs (off+j))
  | .ptr id g i off=>(FE T.f t f).bind λj=>KL g s.st[id]? λr=>bif Nat.ble (off+j) r.size then some (.ptr id g i (off+j)) else none
  | _=>none
 | .load t x=>Lb T s t (s.ev x)
 | _=>none
end
section
variable {P : Program} {k : Nat} {ops : Array Oper} {Q : Exit -> St -> Prop} {N f : Nat} {T3 : Array Bool} {s : St} {o : Oper} {v : AV} {n : Nat} {e : Nat -> AV} {st : List Row} {t : Tmp} {op : Op} {ty : TypeId} {ps : String} {ed : Array Edge}
end
end Go.Abs
namespace Go.Abs
open Go
end Go.Abs
namespace Go.Abs
open Go
section
variable {P : Program} {k : Nat} {ops : Array Oper} {Q : Exit -> St -> Prop} {ds : List (Option Tmp)} {r : List Oper} {n : Nat} {e : Nat -> AV} {st st' : List Row} {ty : TypeId} {ps : String} {ed : Array Edge} {gd : Option (Nat × Bool)} {T : TypeId} {x y : Operand} {size id g sz : Nat} {el : TypeId} {α : Type} {l : List α} {enc : α -> List AV} {c : α} {i : Int} {v : AV} {cs x0 : List AV} {ag : Bool}
end
end Go.Abs
namespace Go.Abs
open Go
section
variable {P : Program} {k : Nat} {α : Type} {l : List α} {enc : α -> List AV} {ops : Array Oper} {Q : Exit -> St -> Prop} {ds : List (Option Tmp)} {r : List Oper} {n : Nat} {e : Nat -> AV} {st st' : List Row} {ty : TypeId} {ps : String} {ed : Array Edge} {t : Tmp} {gd : Option (Nat × Bool)} {T : TypeId} {bytes size m : Nat} {el : TypeId} {zz : List AV}
end
end Go.Abs
namespace Go.Abs
open Go
end Go.Abs
namespace Go.Abs
open Go
structure MS where
 n:Nat
 e:Nat->AV
 x:Row
 z:List Row
def MS.st (R:List Row)(m:MS):St:=⟨m.n,m.e,m.x::(R++m.z)⟩
def MS.put (m:MS)(d:Option Tmp)(v:AV):MS:=match d with
 | some d=>{ m with e:=CD m.e d v }
 | none=>m
def MS.ev (m:MS)(x:Operand):AV:=St.ev ⟨m.n,m.e,[]⟩ x
inductive Kind where
 | q
 | l (x y:Row)
 | a (row:Row)
def Kind.D:Kind->Row->List Row->Prop
 | .q,_,_=>True
 | .l x0 _,x,_=>x=x0
 | .a _,_,z=>z=[]
def Kind.fz:Kind->List Row->List Row
 | .a row,_=>[row]
 | _,z=>z
section
variable {P : Program} {k : Nat} {ops : Array Oper} {md : Region.Mode} {R : List Row}
end
section
variable {P : Program} {k : Nat} {R : List Row} {ds : List (Option Tmp)} {r : List Oper} {K : MS -> Prop} {n : Nat} {e : Nat -> AV} {x0 : Row} {z0 : List Row} {t : Tmp} {op : Op} {ty : TypeId} {ps : String} {ed : Array Edge} {gd : Option (Nat × Bool)} {v : AV}
end
end Go.Abs
namespace Go.Abs
open Go
section
variable {P : Program} {k : Nat} {R : List Row} {ds : List (Option Tmp)} {r : List Oper} {K : MS -> Prop} {n : Nat} {e : Nat -> AV} {x0 : Row} {z0 : List Row} {t : Tmp} {op : Op} {ty : TypeId} {ps : String} {ed : Array Edge} {gd : Option (Nat × Bool)}
end
section
variable {P : Program} {k : Nat} {s : St} {ops : Array Oper} {Q : Exit -> St -> Prop} {ds : List (Option Tmp)} {r : List Oper} {n : Nat} {e : Nat -> AV} {st st' : List Row} {ty : TypeId} {ps : String} {ed : Array Edge} {d : Option Tmp} {v v' : AV} {gd : Option (Nat × Bool)}
variable {f : FuncId} {VA : Array Operand} {ts : Array TypeId} {args Uq : List AV} {rows0 rows1 : List Row}
end
end Go.Abs
namespace Go.Abs
open Go
section
variable {k : Nat} {α β : Type} {l : List α} {enc : α -> List AV}
end
section
variable {α : Type} {l : List α} {enc : α -> List AV} {P : Program} {s : St} {x y : Operand} {t el : TypeId} {size bytes id g m : Nat} {zz : List AV} {n i j : Int} {kk : IntKind} {u : α} {z z' : List AV}
end
section
variable {P : Program} {k : Nat} {ops : Array Oper} {Q : Exit -> St -> Prop} {ds : List (Option Tmp)} {r : List Oper} {n : Nat} {e : Nat -> AV} {st st' : List Row} {ty : TypeId} {ps : String} {ed : Array Edge} {gd : Option (Nat × Bool)} {T : TypeId} {x y : Operand} {size id g sz off : Nat} {el : TypeId} {α : Type} {l : List α} {enc : α -> List AV} {c : α} {i : Int} {v : AV} {cs x0 x' : List AV} {ag : Bool}
end
section
variable {AP : List Nat} {g size : Nat} {el : TypeId} {a b : Row} {r r' : List Row}
end
end Go.Abs
namespace RC
open Go Go.Abs
structure Al where
 words:List Int
 free:List Int
structure Af where
 cells:List Cell
 index:List (Int×Int)
def AS (m:Al):List AV:=[.sl (m.words.map eI),.sl (m.free.map eI)]
structure HJ (m:Al):Prop where
 words:Fa Bl m.words
 free:Fa Bl m.free
end RC
namespace RC
def DI (p0:(List Int))(p1:Int):Option (Int):=
 if (decide ((Sh.w (p1-(Sh.len p0)))<0))=true then
  some (-1)
 else
  some (Sh.w (p1-(Sh.len p0)))
def Bc (p0:(List Int)):Nat->Int->(List Int)->Option (List Int)
 | 0,_,_=>none
 | n+1,i6,l7=>
  if (decide (i6<(Sh.len p0)))=true then
   (Sh.get p0 i6).bind λYc=>
   (Sh.get l7 i6).bind λaM=>
   Bc p0 n (Sh.w (i6+1)) (Sh.put l7 i6 Yc)
  else
   some l7
def DJ (N:Nat)(p0:(List Int)):Option (List Int):=
 (Sh.mk 0 (Sh.len p0) 8).bind λl3=>
 (Bc p0 N 0 l3).bind λl8=>
 some l8
def CC (p0 p1 p2:Int):Option (Bool):=
 (
  if (decide (p1<=p0))=true then
   some (decide (p0<=p2))
  else
   some false
 ).bind λt3=>
 some t3
def BX (p0:(List Int)):Nat->Int->Option ((Bool) ⊕ (Unit))
 | 0,_=>none
 | n+1,i4=>
  if (decide (i4<(Sh.len p0)))=true then
   (Sh.get p0 i4).bind λW1=>
   if (!decide (W1=0))=true then
    some (Sum.inl false)
   else
    BX p0 n (Sh.w (i4+1))
  else
   some (Sum.inr ())
def DT (N:Nat)(p0:(List Int)):Option (Bool):=
 Sh.cont (BX p0 N 0) (id) λ()=>
 some true
def Bo (p0:Int):Option (Bool):=
 some (decide (1000<=p0))
def DO (p0:(List Cell))(p1:Int):Option (Bool):=
 (
  Option.bind (CC (Sh.w (p1-1000)) 0 (Sh.w ((Sh.len p0)-1))) λq5=>
  if q5=true then
   (Bo p1).bind λq7=>
   if q7=true then
    (Sh.get p0 (Sh.w (p1-1000))).bind λc9=>
    some (decide (0<c9.count))
   else
    some false
  else
   some false
 ).bind λt3=>
 some t3
def Dz (p0:(List Cell))(p1:Int):Option (Bool):=
 (
  Option.bind (CC p1 (-999) 999) λq5=>
  if q5=true then
   some true
  else
   (DO p0 p1).bind λq7=>
   some q7
 ).bind λt3=>
 some t3
def A8 (p0:(List Cell))(p1:Cell):Nat->Int->Option ((Bool) ⊕ (Unit))
 | 0,_=>none
 | n+1,i20=>
  if (decide (i20<(Sh.len p1.fields)))=true then
   (Sh.get p1.fields i20).bind λW2=>
   (Dz p0 W2).bind λWL=>
   if (!WL)=true then
    some (Sum.inl false)
   else
    A8 p0 p1 n (Sh.w (i20+1))
  else
   some (Sum.inr ())
def Cy (N:Nat)(p0:(List Cell))(p1:Cell):Option (Bool):=
 (
  if (decide (3<(Sh.len p1.fields)))=true then
   some true
  else
   (CC p1.count (-1) 999999).bind λaN=>
   some (!aN)
 ).bind λt4=>
 if t4=true then
  some false
 else
 if (decide (p1.count<1))=true then
  (
   if (decide (p1.tag=0))=true then
    (DT N p1.fields).bind λbD=>
    if bD=true then
     if (decide (p1.count<0))=true then
      some true
     else
      some (decide ((Sh.len p1.fields)=0))
    else
     some false
   else
    some false
  ).bind λt12=>
  some t12
 else
  Sh.cont (A8 p0 p1 N 0) (id) λ()=>
  (CC p1.tag 0 99).bind λYq=>
  some Yq
def Ba (i6:Int)(p0:(List Cell)):Nat->Int->(List Int)->Option (List Int)
 | 0,_,_=>none
 | n+1,Yr,l17=>
  (Sh.get p0 i6).bind λZJ=>
  if (decide (Yr<(Sh.len ZJ.fields)))=true then
   (
    Option.bind (Sh.get ZJ.fields Yr) λYE=>
    (DO p0 YE).bind λXa=>
    if Xa=true then
     (Sh.get l17 (Sh.w (YE-1000))).bind λYs=>
     some (Sh.put l17 (Sh.w (YE-1000)) (Sh.w (Ys+1)))
    else
     some l17
   ).bind λUa=>
   Ba i6 p0 n (Sh.w (Yr+1)) Ua
  else
   some l17
def Bb (N:Nat)(p0:(List Cell)):Nat->Int->(List Int)->Option (List Int)
 | 0,_,_=>none
 | n+1,i6,l7=>
  if (decide (i6<(Sh.len p0)))=true then
   (Ba i6 p0 N 0 l7).bind λZm=>
   Bb N p0 n (Sh.w (i6+1)) Zm
  else
   some l7
def Du (N:Nat)(p0:(List Cell)):Option (List Int):=
 (Sh.mk 0 (Sh.len p0) 8).bind λl3=>
 (Bb N p0 N 0 l3).bind λl8=>
 some l8
def BF (p0:(List Bool))(p1:(List Int)):Nat->Int->Option ((Bool) ⊕ (Unit))
 | 0,_=>none
 | n+1,i4=>
  if (decide (i4<(Sh.len p1)))=true then
   (
    Option.bind (Sh.get p1 i4) λaM=>
    (Bo aM).bind λUx=>
    if Ux=true then
     (Sh.get p0 (Sh.w (aM-1000))).bind λYt=>
     some (!Yt)
    else
     some false
   ).bind λt12=>
   if t12=true then
    some (Sum.inl false)
   else
    BF p0 p1 n (Sh.w (i4+1))
  else
   some (Sum.inr ())
def Cw (N:Nat)(p0:(List Bool))(p1:(List Int)):Option (Bool):=
 Sh.cont (BF p0 p1 N 0) (id) λ()=>
 some true
def BH (N:Nat)(p0:(List Cell)):Nat->Int->Bool->Int->(List Bool)->Option (Int×Bool×(List Bool))
 | 0,_,_,_,_=>none
 | n+1,Uj,more19,i20,Vc=>
  if (decide (i20<(Sh.len p0)))=true then
   (
    Option.bind (
     (Sh.get Vc i20).bind λdA=>
     if (!dA)=true then
      (Sh.get p0 i20).bind λdB=>
      (Cw N Vc dB.fields).bind λbp=>
      some bp
     else
      some false
    ) λt35=>
    if t35=true then
     (Sh.get Vc i20).bind λVB=>
     some (Sh.w (Uj+1),true,Sh.put Vc i20 true)
    else
     some (Uj,more19,Vc)
   ).bind λ(Ub,VS,Zn)=>
   BH N p0 n Ub VS (Sh.w (i20+1)) Zn
  else
   some (Uj,more19,Vc)
def A9 (N:Nat)(p0:(List Cell)):Nat->Int->Bool->(List Bool)->Option (Int)
 | 0,_,_,_=>none
 | n+1,VI,more8,l9=>
  if more8=true then
   (BH N p0 N VI false 0 l9).bind λ(U4,U5,Wo)=>
   A9 N p0 n U4 U5 Wo
  else
   some VI
def Cx (N:Nat)(p0:(List Cell)):Option (Bool):=
 (Sh.mk false (Sh.len p0) 1).bind λl3=>
 (A9 N p0 N 0 true l3).bind λVT=>
 some (decide (VT=(Sh.len p0)))
def BE (p0:(List Cell))(V4:(List Int)):Nat->Int->Option ((Bool) ⊕ (Unit))
 | 0,_=>none
 | n+1,i16=>
  if (decide (i16<(Sh.len p0)))=true then
   (
    Option.bind (Sh.get p0 i16) λW2=>
    if (decide (0<W2.count))=true then
     (Sh.get V4 i16).bind λbq=>
     some (decide (W2.count<bq))
    else
     some false
   ).bind λt25=>
   if t25=true then
    some (Sum.inl false)
   else
    BE p0 V4 n (Sh.w (i16+1))
  else
   some (Sum.inr ())
def BB (N:Nat)(p0:(List Cell)):Nat->Int->Option ((Bool) ⊕ (Unit))
 | 0,_=>none
 | n+1,i10=>
  if (decide (i10<(Sh.len p0)))=true then
   (Sh.get p0 i10).bind λUK=>
   (Cy N p0 UK).bind λWd=>
   if (!Wd)=true then
    some (Sum.inl false)
   else
    BB N p0 n (Sh.w (i10+1))
  else
   some (Sum.inr ())
def B6 (N:Nat)(p0:(List Cell)):Option (Bool):=
 (
  if (decide (0<(Sh.len p0)))=true then
   (Sh.get p0 (Sh.w ((Sh.len p0)-1))).bind λbr=>
   some (decide (br.count=0))
  else
   some false
 ).bind λt4=>
 if t4=true then
  some false
 else
  Sh.cont (BB N p0 N 0) (id) λ()=>
  (Du N p0).bind λV4=>
  Sh.cont (BE p0 V4 N 0) (id) λ()=>
  (Cx N p0).bind λdC=>
  some dC
def F4 (N:Nat)(p0:(List Cell)):Option (Bool):=
 (B6 N p0).bind λq3=>
 some q3
def Cp (p0:(List Cell))(p1:Int):Option (Int×Bool):=
 (
  if (decide (1000<=p1))=true then
   if (decide ((Sh.w (p1-1000))<(Sh.len p0)))=true then
    (Sh.get p0 (Sh.w (p1-1000))).bind λc8=>
    some (decide (0<c8.count))
   else
    some false
  else
   some false
 ).bind λt4=>
 some (Sh.w (p1-1000),t4)
def Di (p0:Int):Option (Bool):=
 (
  if (decide ((-999)<=p0))=true then
   some (decide (p0<=999))
  else
   some false
 ).bind λt3=>
 some t3
def Cv (p0:(List Cell))(p1:Int):Option (Bool):=
 (Cp p0 p1).bind λq3=>
 (
  if q3.2=true then
   some true
  else
   (Di p1).bind λq8=>
   some q8
 ).bind λt5=>
 some t5
def BD (p0:(List Cell))(p1:Cell):Nat->Int->Option ((Bool) ⊕ (Unit))
 | 0,_=>none
 | n+1,t16=>
  if (decide (t16<(Sh.len p1.fields)))=true then
   (Sh.get p1.fields t16).bind λbE=>
   (
    Option.bind (Cv p0 bE) λWL=>
    if (!WL)=true then
     some true
    else
    if (decide (p1.count<0))=true then
     some (!decide (bE=0))
    else
     some false
   ).bind λt26=>
   if t26=true then
    some (Sum.inl false)
   else
    BD p0 p1 n (Sh.w (t16+1))
  else
   some (Sum.inr ())
def Cz (N:Nat)(p0:(List Cell))(p1:Cell):Option (Bool):=
 (
  if (decide (p1.count<(-1)))=true then
   some true
  else
  if (decide (p1.tag<0))=true then
   some true
  else
  if (decide (99<p1.tag))=true then
   some true
  else
   some (decide (3<(Sh.len p1.fields)))
 ).bind λt4=>
 if t4=true then
  some false
 else
  (
   if (decide (p1.count<1))=true then
    if (!decide (p1.tag=0))=true then
     some true
    else
    if (decide (p1.count=0))=true then
     some (decide (0<(Sh.len p1.fields)))
    else
     some false
   else
   if (decide (p1.count=0))=true then
    some (decide (0<(Sh.len p1.fields)))
   else
    some false
  ).bind λt10=>
  if t10=true then
   some false
  else
   Sh.cont (BD p0 p1 N 0) (id) λ()=>
   some true
def BO (p0:(List Int)):Option (List Int):=
 (Sh.app ([]:List Int) p0 8).bind λl6=>
 some l6
def Ax (VB:Cell)(p0:(List Cell)):Nat->Int->(List Int)->(List Int)->Option ((List Int)×(List Int))
 | 0,_,_,_=>none
 | n+1,t43,l44,V5=>
  if (decide (t43<(Sh.len VB.fields)))=true then
   (
    Option.bind (Sh.get VB.fields t43) λZo=>
    (Cp p0 Zo).bind λVq=>
    if Vq.2=true then
     (Sh.get l44 Vq.1).bind λXb=>
     (Sh.get (Sh.put l44 Vq.1 (Sh.w (Xb-1))) Vq.1).bind λdD=>
     if (decide (dD=0))=true then
      (Sh.app V5 [Vq.1] 8).bind λYu=>
      some (Sh.put l44 Vq.1 (Sh.w (Xb-1)),Yu)
     else
      some (Sh.put l44 Vq.1 (Sh.w (Xb-1)),V5)
    else
     some (l44,V5)
   ).bind λ(Zp,Zq)=>
   Ax VB p0 n (Sh.w (t43+1)) Zp Zq
  else
   some (l44,V5)
def Ay (N:Nat)(p0:(List Cell)):Nat->Int->(List Int)->(List Int)->Option (Int)
 | 0,_,_,_=>none
 | n+1,UP,WB,l29=>
  if (decide (0<(Sh.len l29)))=true then
   (Sh.get l29 (Sh.w ((Sh.len l29)-1))).bind λdE=>
   (Sh.get p0 dE).bind λVB=>
   (Sh.hi l29 (Sh.w ((Sh.len l29)-1))).bind λWC=>
   (Ax VB p0 N 0 WB WC).bind λ(Wp,Zr)=>
   Ay N p0 n (Sh.w (UP+1)) Wp Zr
  else
   some UP
def Aw (l8:(List Int))(p0:(List Cell)):Nat->Int->(List Int)->Option (((List Int)×Bool) ⊕ (List Int))
 | 0,_,_=>none
 | n+1,t22,U0=>
  if (decide (t22<(Sh.len p0)))=true then
   Sh.cont (
    (Sh.get p0 t22).bind λZs=>
    (
     if (decide (0<Zs.count))=true then
      (Sh.get l8 t22).bind λdF=>
      if (decide (Zs.count<dF))=true then
       some true
      else
       some (decide (999999<Zs.count))
     else
      some false
    ).bind λt78=>
    if t78=true then
     some (Sum.inl (Sum.inl ([],false)))
    else
     (Sh.get l8 t22).bind λdG=>
     if (decide (dG=0))=true then
      (Sh.app U0 [t22] 8).bind λVg=>
      some (Sum.inr Vg)
     else
      some (Sum.inr U0)
   ) (id) λZt=>
   Aw l8 p0 n (Sh.w (t22+1)) Zt
  else
   some (Sum.inr U0)
def Az (Wq:Cell)(p0:(List Cell)):Nat->Int->(List Int)->Option (List Int)
 | 0,_,_=>none
 | n+1,WM,l106=>
  if (decide (WM<(Sh.len Wq.fields)))=true then
   (
    Option.bind (Sh.get Wq.fields WM) λbF=>
    (Cp p0 bF).bind λV6=>
    if V6.2=true then
     (Sh.get l106 V6.1).bind λXc=>
     some (Sh.put l106 V6.1 (Sh.w (Xc+1)))
    else
     some l106
   ).bind λW3=>
   Az Wq p0 n (Sh.w (WM+1)) W3
  else
   some l106
def A0 (N:Nat)(p0:(List Cell)):Nat->Int->(List Int)->Option (((List Int)×Bool) ⊕ (List Int))
 | 0,_,_=>none
 | n+1,t6,l7=>
  if (decide (t6<(Sh.len p0)))=true then
   (Sh.get p0 t6).bind λWq=>
   (Cz N p0 Wq).bind λbt=>
   if (!bt)=true then
    some (Sum.inl ([],false))
   else
    (Az Wq p0 N 0 l7).bind λW4=>
    A0 N p0 n (Sh.w (t6+1)) W4
  else
   some (Sum.inr l7)
def B5 (N:Nat)(p0:(List Cell)):Option ((List Int)×Bool):=
 (Sh.mk 0 (Sh.len p0) 8).bind λl3=>
 Sh.cont (A0 N p0 N 0 l3) (id) λl8=>
 (
  if (decide (0<(Sh.len p0)))=true then
   (Sh.get p0 (Sh.w ((Sh.len p0)-1))).bind λbu=>
   some (decide (bu.count=0))
  else
   some false
 ).bind λt12=>
 if t12=true then
  some ([],false)
 else
  (BO l8).bind λUx=>
  Sh.cont (Aw l8 p0 N 0 []) (id) λWo=>
  (Ay N p0 N 0 Ux Wo).bind λUb=>
  some (l8,decide (Ub=(Sh.len p0)))
def Ct (N:Nat)(p0:(List Cell)):Option (Bool):=
 (B5 N p0).bind λq3=>
 some q3.2
def Bf (p0:(List Int))(p1:(List Int)):Nat->Int->Option ((Bool) ⊕ (Unit))
 | 0,_=>none
 | n+1,i10=>
  if (decide (i10<(Sh.len p0)))=true then
   (Sh.get p0 i10).bind λbw=>
   (Sh.get p1 i10).bind λYt=>
   if (!decide (bw=Yt))=true then
    some (Sum.inl false)
   else
    Bf p0 p1 n (Sh.w (i10+1))
  else
   some (Sum.inr ())
def DL (N:Nat)(p0:(List Int))(p1:(List Int)):Option (Bool):=
 if (!decide ((Sh.len p0)=(Sh.len p1)))=true then
  some false
 else
  Sh.cont (Bf p0 p1 N 0) (id) λ()=>
  some true
end RC
namespace RC
def DF (p0:Al)(p1:Int):Option (Int):=
 (DI p0.words p1).bind λq3=>
 if (decide (q3<0))=true then
  some (-1)
 else
  (DI p0.free q3).bind λq9=>
  if (decide (q9<0))=true then
   some (-1)
  else
   some q9
def CG (N:Nat)(p0:Al):Option (Al):=
 (DJ N p0.words).bind λq4=>
 (DJ N p0.free).bind λq6=>
 some (Al.mk q4 q6)
def CA (p0:(List Int))(p1:Int):Option (Int):=
 (Sh.get p0 (Sh.w (p1+1))).bind λc3=>
 some (Int.tmod c3 4)
def BU (p0:(List Int)):Nat->Int->(List Int)->Option (((List Int)×Bool) ⊕ (List Int))
 | 0,_,_=>none
 | n+1,WD,l6=>
  if (decide (WD<(Sh.len p0)))=true then
   (
    if (decide ((Sh.len p0)<(Sh.w (WD+2))))=true then
     some true
    else
     (Sh.get p0 WD).bind λZK=>
     if (decide (ZK<0))=true then
      some true
     else
      (Sh.get p0 (Sh.w (WD+1))).bind λbG=>
      if (decide (bG<0))=true then
       some true
      else
       (CA p0 WD).bind λbH=>
       some (decide ((Sh.len p0)<(Sh.w ((Sh.w (WD+2))+bH))))
   ).bind λt15=>
   if t15=true then
    some (Sum.inl ([],false))
   else
    (Sh.app l6 [WD] 8).bind λWe=>
    (CA p0 WD).bind λbI=>
    BU p0 n (Sh.w ((Sh.w (WD+2))+bI)) We
  else
   some (Sum.inr l6)
def CO (N:Nat)(p0:(List Int)):Option ((List Int)×Bool):=
 Sh.cont (BU p0 N 0 []) (id) λl7=>
 some (l7,true)
def Bx (p0:(List Int))(p1:Int):Nat->Int->Option ((Int) ⊕ (Unit))
 | 0,_=>none
 | n+1,i4=>
  if (decide (i4<(Sh.len p0)))=true then
   (Sh.get p0 i4).bind λW1=>
   if (decide (W1=p1))=true then
    some (Sum.inl i4)
   else
    Bx p0 p1 n (Sh.w (i4+1))
  else
   some (Sum.inr ())
def DY (N:Nat)(p0:(List Int))(p1:Int):Option (Int):=
 Sh.cont (Bx p0 p1 N 0) (id) λ()=>
 some (-1)
def Dy (N:Nat)(p0:(List Int))(p1:Int):Option (Int×Bool):=
 (Bo p1).bind λq4=>
 if (!q4)=true then
  some (p1,true)
 else
  (DY N p0 (Sh.w (p1-1000))).bind λXL=>
  some (Sh.w (1000+XL),decide (0<=XL))
def By (N:Nat)(Wr:Int)(p0:(List Int))(p1:(List Int)):Nat->Int->(List Int)->Option (((List Cell)×Bool) ⊕ (List Int))
 | 0,_,_=>none
 | n+1,Yd,l22=>
  (CA p0 Wr).bind λfW=>
  if (decide (Yd<fW))=true then
   (Sh.get p0 (Sh.w ((Sh.w (Wr+2))+Yd))).bind λUK=>
   (Dy N p1 UK).bind λWd=>
   (
    if (!Wd.2)=true then
     some true
    else
     (Sh.get p0 Wr).bind λdH=>
     if (decide (dH=0))=true then
      some (!decide (Wd.1=0))
     else
      some false
   ).bind λt41=>
   if t41=true then
    some (Sum.inl ([],false))
   else
    (Sh.app l22 [Wd.1] 8).bind λV5=>
    By N Wr p0 p1 n (Sh.w (Yd+1)) V5
  else
   some (Sum.inr l22)
def Bu (N:Nat)(p0:(List Int))(p1:(List Int)):Nat->Int->(List Cell)->Option (((List Cell)×Bool) ⊕ (List Cell))
 | 0,_,_=>none
 | n+1,i5,l6=>
  if (decide (i5<(Sh.len p1)))=true then
   Sh.cont (
    (Sh.get p1 i5).bind λWr=>
    Sh.cont (By N Wr p0 p1 N 0 []) (λx=>Sum.inl (Sum.inl x)) λU0=>
    (Sh.get p0 Wr).bind λYF=>
    if (decide (YF=0))=true then
     (Sh.app l6 ([Cell.mk 0 0 []]) 40).bind λWB=>
     some (Sum.inr WB)
    else
     (Sh.get p0 (Sh.w (Wr+1))).bind λW2=>
     (Sh.app l6 [Cell.mk YF (Sh.w (Int.tdiv W2 4)) U0] 40).bind λZL=>
     some (Sum.inr ZL)
   ) (id) λVN=>
   Bu N p0 p1 n (Sh.w (i5+1)) VN
  else
   some (Sum.inr l6)
def DW (N:Nat)(p0:(List Int))(p1:(List Int)):Option ((List Cell)×Bool):=
 Sh.cont (Bu N p0 p1 N 0 []) (id) λl7=>
 some (l7,true)
def CB (p0:(List Cell)):Nat->Int->Option (Int)
 | 0,_=>none
 | n+1,n4=>
  (
   if (decide (0<n4))=true then
    (Sh.get p0 (Sh.w (n4-1))).bind λYc=>
    some (decide (Yc.count=0))
   else
    some false
  ).bind λt11=>
  if t11=true then
   CB p0 n (Sh.w (n4-1))
  else
   some n4
def Ev (N:Nat)(p0:(List Cell)):Option (List Cell):=
 (CB p0 N (Sh.len p0)).bind λn5=>
 (Sh.sl p0 0 n5).bind λl8=>
 some l8
def B7 (p0:(List Int))(p1:(List Int))(p2:Int):Nat->Int->(List Int)->Option (List Int)
 | 0,_,_=>none
 | n+1,i5,l6=>
  if (decide (i5<(Sh.len p1)))=true then
   (
    Option.bind (
     (Sh.get p1 i5).bind λZJ=>
     (Sh.get p0 ZJ).bind λZK=>
     if (decide (ZK=0))=true then
      (CA p0 ZJ).bind λdI=>
      some (decide (dI=p2))
     else
      some false
    ) λt17=>
    if t17=true then
     (Sh.get p1 i5).bind λbJ=>
     (Sh.app l6 [bJ] 8).bind λVc=>
     some Vc
    else
     some l6
   ).bind λVN=>
   B7 p0 p1 p2 n (Sh.w (i5+1)) VN
  else
   some l6
def Dq (N:Nat)(p0:(List Int))(p1:(List Int))(p2:Int):Option (List Int):=
 (B7 p0 p1 p2 N 0 []).bind λl7=>
 some l7
def CX (p0:(List Int))(p1:Int):Nat->Int->Option ((Bool) ⊕ (Unit))
 | 0,_=>none
 | n+1,i4=>
  if (decide (i4<(Sh.len p0)))=true then
   (Sh.get p0 i4).bind λW1=>
   if (decide (W1=p1))=true then
    some (Sum.inl true)
   else
    CX p0 p1 n (Sh.w (i4+1))
  else
   some (Sum.inr ())
def D7 (N:Nat)(p0:(List Int))(p1:Int):Option (Bool):=
 Sh.cont (CX p0 p1 N 0) (id) λ()=>
 some false
def Bw (N:Nat)(p0:(List Int))(p2:(List Int)):Nat->Int->(List Int)->Option ((Bool) ⊕ (List Int))
 | 0,_,_=>none
 | n+1,Uo,l5=>
  if (!decide (Uo=0))=true then
   (
    Option.bind (D7 N p2 (Sh.w (Uo-1))) λXt=>
    if (!Xt)=true then
     some true
    else
     (D7 N l5 (Sh.w (Uo-1))).bind λbx=>
     some bx
   ).bind λt15=>
   if t15=true then
    some (Sum.inl false)
   else
    (Sh.app l5 [Sh.w (Uo-1)] 8).bind λWe=>
    (Sh.get p0 Uo).bind λaO=>
    Bw N p0 p2 n (Sh.w (Int.tdiv aO 4)) We
  else
   some (Sum.inr l5)
def DZ (N:Nat)(p0:(List Int))(p1:Int)(p2:(List Int)):Option (Bool):=
 Sh.cont (Bw N p0 p2 N p1 []) (id) λl6=>
 some (decide ((Sh.len l6)=(Sh.len p2)))
def BS (N:Nat)(p0:Al)(q3:(List Int)×Bool):Nat->Int->Option ((Bool) ⊕ (Unit))
 | 0,_=>none
 | n+1,Uz=>
  if (decide (Uz<=3))=true then
   (Sh.get p0.free Uz).bind λYE=>
   (Dq N p0.words q3.1 Uz).bind λXa=>
   (DZ N p0.words YE Xa).bind λWL=>
   if (!WL)=true then
    some (Sum.inl false)
   else
    BS N p0 q3 n (Sh.w (Uz+1))
  else
   some (Sum.inr ())
def CP (N:Nat)(p0:Al):Option (Bool):=
 (CO N p0.words).bind λq3=>
 (
  if (!q3.2)=true then
   some true
  else
   some (!decide ((Sh.len p0.free)=4))
 ).bind λt6=>
 if t6=true then
  some false
 else
  (DW N p0.words q3.1).bind λWf=>
  (
   if (!Wf.2)=true then
    some true
   else
    (Ev N Wf.1).bind λaN=>
    (B6 N aN).bind λbz=>
    some (!bz)
  ).bind λt14=>
  if t14=true then
   some false
  else
   Sh.cont (BS N p0 q3 N 0) (id) λ()=>
   some true
def C7 (N:Nat)(p0:Al):Option (Bool):=
 (CP N p0).bind λq3=>
 some q3
def Dc (p0:Int):Option (Bool):=
 some (!decide (p0=0))
def Am (p0:(List Int)):Nat->Int->Option ((Int) ⊕ (Unit))
 | 0,_=>none
 | n+1,t4=>
  if (decide (t4<(Sh.len p0)))=true then
   (Sh.get p0 t4).bind λZu=>
   (Dc Zu).bind λdJ=>
   if dJ=true then
    some (Sum.inl t4)
   else
    Am p0 n (Sh.w (t4+1))
  else
   some (Sum.inr ())
def Br (N:Nat)(p0:(List Int)):Option (Int):=
 Sh.cont (Am p0 N 0) (id) λ()=>
 some (-1)
def Be (N:Nat)(p0:(List Int)):Option (Bool):=
 (Br N p0).bind λq3=>
 some (decide (0<=q3))
def C0 (N:Nat)(p0:(List Int)):Option (Bool):=
 (Be N p0).bind λq3=>
 some (!q3)
def Av (VN:(List (Int×Bool)))(p0:Al)(p2:(List Int)):Nat->Int->Option ((Bool) ⊕ (Unit))
 | 0,_=>none
 | n+1,t18=>
  if (decide (t18<(Sh.len p2)))=true then
   (Sh.get p2 t18).bind λYF=>
   (
    Option.bind (Sh.get p0.words YF) λYs=>
    if (decide (Ys=0))=true then
     some (!((Sh.BJ VN YF).getD false))
    else
     some false
   ).bind λt28=>
   if t28=true then
    some (Sum.inl false)
   else
    Av VN p0 p2 n (Sh.w (t18+1))
  else
   some (Sum.inr ())
def Ar (p0:Al)(p1:Af)(t12:Int):Nat->Int->(List (Int×Bool))->Option ((Bool) ⊕ (List (Int×Bool)))
 | 0,_,_=>none
 | n+1,UR,WC=>
  if (!decide (UR=0))=true then
   (
    if (!((Sh.BJ p1.index (Sh.w (UR-1))).isSome))=true then
     some true
    else
     (Sh.get p1.cells ((Sh.BJ p1.index (Sh.w (UR-1))).getD 0)).bind λdK=>
     if (!decide (dK.count=0))=true then
      some true
     else
      (Sh.get p0.words (Sh.w ((Sh.w (UR-1))+1))).bind λcA=>
      if (!decide ((Int.tmod cA 4)=t12))=true then
       some true
      else
       some ((Sh.BJ WC (Sh.w (UR-1))).getD false)
   ).bind λt52=>
   if t52=true then
    some (Sum.inl false)
   else
    (Sh.get p0.words (Sh.w ((Sh.w (UR-1))+1))).bind λZo=>
    Ar p0 p1 t12 n (Sh.w (Int.tdiv Zo 4)) (Sh.BW WC (Sh.w (UR-1)) true)
  else
   some (Sum.inr WC)
def Aq (N:Nat)(p0:Al)(p1:Af):Nat->Int->(List (Int×Bool))->Option ((Bool) ⊕ (List (Int×Bool)))
 | 0,_,_=>none
 | n+1,t12,US=>
  if (decide (t12<(Sh.len p0.free)))=true then
   (Sh.get p0.free t12).bind λVB=>
   Sh.cont (Ar p0 p1 t12 N VB US) (λx=>Sum.inl x) λaP=>
   Aq N p0 p1 n (Sh.w (t12+1)) aP
  else
   some (Sum.inr US)
def Bm (N:Nat)(p0:Al)(p1:Af)(p2:(List Int)):Option (Bool):=
 if (!decide ((Sh.len p0.free)=4))=true then
  some false
 else
  Sh.cont (Aq N p0 p1 N 0 []) (id) λVN=>
  Sh.cont (Av VN p0 p2 N 0) (id) λ()=>
  some true
def BI (p0:Af)(p1:Int):Option (Int×Bool):=
 (
  if (!((Sh.BJ p0.index (Sh.w (p1-1000))).isSome))=true then
   some true
  else
  if (decide (p1<1000))=true then
   some true
  else
   (Sh.get p0.cells ((Sh.BJ p0.index (Sh.w (p1-1000))).getD 0)).bind λW1=>
   some (decide (W1.count=0))
 ).bind λt5=>
 if t5=true then
  some (0,false)
 else
  some ((Sh.BJ p0.index (Sh.w (p1-1000))).getD 0,true)
def BT (VJ:(List Cell)):Nat->Int->Option (Int)
 | 0,_=>none
 | n+1,n3=>
  (
   if (decide (0<n3))=true then
    (Sh.get VJ (Sh.w (n3-1))).bind λZu=>
    some (decide (Zu.count=0))
   else
    some false
  ).bind λt9=>
  if t9=true then
   BT VJ n (Sh.w (n3-1))
  else
   some n3
def Db (N:Nat)(VJ:(List Cell)):Option (List Cell):=
 (BT VJ N (Sh.len VJ)).bind λn4=>
 (Sh.sl VJ 0 n4).bind λl6=>
 some l6
def BR (N:Nat)(p0:Af):Option (List Cell):=
 (Db N p0.cells).bind λq4=>
 some q4
def A4 (UK:Cell)(US:(List (Int×Int)))(Ua:(List Cell))(t24:Int):Nat->Int->(List Int)->Option ((Af×Bool) ⊕ (List Int))
 | 0,_,_=>none
 | n+1,t38,l39=>
  if (decide (t38<(Sh.len UK.fields)))=true then
   Sh.cont (
    (Sh.get l39 t38).bind λcB=>
    (Di cB).bind λfX=>
    if fX=true then
     some (Sum.inr l39)
    else
     (BI (Af.mk (Sh.put Ua t24 (Cell.mk UK.count UK.tag l39)) US) cB).bind λXd=>
     if (!Xd.2)=true then
      some (Sum.inl (Sum.inl (Af.mk (Sh.put Ua t24 (Cell.mk UK.count UK.tag l39)) US,false)))
     else
      some (Sum.inr (Sh.put l39 t38 (Sh.w (1000+Xd.1))))
   ) (id) λWp=>
   A4 UK US Ua t24 n (Sh.w (t38+1)) Wp
  else
   some (Sum.inr l39)
def A3 (N:Nat)(Uw:(List Cell))(US:(List (Int×Int))):Nat->Int->(List Cell)->Option ((Af×Bool) ⊕ (List Cell))
 | 0,_,_=>none
 | n+1,t24,Ua=>
  if (decide (t24<(Sh.len Uw)))=true then
   (Sh.get Ua t24).bind λUK=>
   Sh.cont (A4 UK US Ua t24 N 0 UK.fields) (λx=>Sum.inl x) λWN=>
   A3 N Uw US n (Sh.w (t24+1)) (Sh.put Ua t24 (Cell.mk UK.count UK.tag WN))
  else
   some (Sum.inr Ua)
def A2 (N:Nat)(p0:Al):Nat->Int->(List Int)->(List Cell)->(List (Int×Int))->Option ((Af×Bool) ⊕ ((List Int)×(List Cell)×(List (Int×Int))))
 | 0,_,_,_,_=>none
 | n+1,UY,l8,l9,l10=>
  if (decide (UY<(Sh.len p0.words)))=true then
   (
    if (decide ((Sh.w ((Sh.len p0.words)-UY))<2))=true then
     some true
    else
     (Sh.get p0.words UY).bind λYG=>
     if (decide (YG<0))=true then
      some true
     else
      (Sh.get p0.words (Sh.w (UY+1))).bind λXe=>
      some (decide (Xe<0))
   ).bind λt67=>
   if t67=true then
    some (Sum.inl (Af.mk l9 l10,false))
   else
    (Sh.get p0.words UY).bind λV7=>
    (Sh.get p0.words (Sh.w (UY+1))).bind λVv=>
    if (decide ((Sh.len p0.words)<(Sh.w ((Sh.w (UY+2))+(Int.tmod Vv 4)))))=true then
     some (Sum.inl (Af.mk l9 l10,false))
    else
     (Sh.app l8 [UY] 8).bind λVh=>
     Sh.cont (
      if (decide (0<V7))=true then
       (Sh.sl p0.words (Sh.w (UY+2)) (Sh.w ((Sh.w (UY+2))+(Int.tmod Vv 4)))).bind λcC=>
       (BO cC).bind λXu=>
       some (Sum.inr (Sh.w (Int.tdiv Vv 4),Xu))
      else
       (Sh.sl p0.words (Sh.w (UY+2)) (Sh.w ((Sh.w (UY+2))+(Int.tmod Vv 4)))).bind λcD=>
       (C0 N cD).bind λaQ=>
       if (!aQ)=true then
        some (Sum.inl (Sum.inl (Af.mk l9 (Sh.BW l10 UY (Sh.len l9)),false)))
       else
        some (Sum.inr (0,[]))
     ) (id) λ(Xv,Vg)=>
     (Sh.app l9 [Cell.mk V7 Xv Vg] 40).bind λYe=>
     A2 N p0 n (Sh.w ((Sh.w (UY+2))+(Int.tmod Vv 4))) Vh Ye (Sh.BW l10 UY (Sh.len l9))
  else
   some (Sum.inr (l8,l9,l10))
def Cb (N:Nat)(p0:Al):Option (Af×Bool):=
 Sh.cont (A2 N p0 N 0 [] [] []) (id) λ(Yv,Uw,US)=>
 (Bm N p0 (Af.mk Uw US) Yv).bind λUx=>
 if (!Ux)=true then
  some (Af.mk Uw US,false)
 else
  Sh.cont (A3 N Uw US N 0 Uw) (id) λXw=>
  (BR N (Af.mk Xw US)).bind λXa=>
  (Ct N Xa).bind λWL=>
  some (Af.mk Xw US,WL)
def C3 (N:Nat)(p0:Al):Option (Bool):=
 (Cb N p0).bind λq3=>
 some q3.2
def DE (N:Nat)(p0 p1:Al):Option (Bool):=
 (DL N p0.words p1.words).bind λq4=>
 if (!q4)=true then
  some false
 else
  (DL N p0.free p1.free).bind λWf=>
  if (!Wf)=true then
   some false
  else
   some true
def B1 (N:Nat)(p0:Al):Option (Bool):=
 (DF p0 1048576).bind λq4=>
 if (decide (q4<0))=true then
  some true
 else
  (CG N p0).bind λXL=>
  (C7 N XL).bind λWf=>
  (CG N p0).bind λV4=>
  (C3 N V4).bind λbD=>
  if (bD != Wf)=true then
   some false
  else
   (CG N p0).bind λXt=>
   (DE N V4 Xt).bind λYq=>
   if (!Yq)=true then
    some false
   else
    some true
end RC
namespace Go.Abs
open Go
section
variable {P : Program} {F : Nat -> Prop} {os : List Own} {s : St} {a : Act} {w : World} {k : Nat}
def CS (F:Nat->Prop)(os:List Own)(b:Nat):Prop:=F b∨∃o:Own,o∈os/\o.owns b
inductive N3 (st:List Row):AV->AV->Prop
 | val {c:AV} (h:BP c=true):N3 st c (HI c)
 | own {id g n:Nat} {row:Row} (hr:st[id]?=some row) (hg:row.gen=g) (hp:Au row.xs):N3 st (.own id g n) (.sl (DQ (row.xs.drop (row.xs.length-n))))
theorem KG (hr:Rel F os s a w){id g n:Nat}{o:Own}(ho:os[id]?=some o)(hg:o.row.gen=g)(hn:n=o.row.xs.length){ys:List (List AV)}(hlen:ys.length=o.row.xs.length)
  (Ui :∀(i:Nat) x y,o.row.xs[i]?=some x->ys[i]?=some y->y.length=x.length/\∀(j:Nat) c d,x[j]?=some c->y[j]?=some d->N3 s.st c d) {u:Value} (e2:AF F w os (.own id g n) u):AF (CS F os) w os (.sl ys) u:=by
 have T2:=hr.rows id o ho;have Wy:∀b,F b->CS F os b:=λ_ h=>.inl h;have hl:∀(i:Nat) (q:Own),os[i]?=some q->∀b,q.owns b->CS F os b:=λi q hq b hb=>.inr ⟨q,Rk hq,hb⟩;have hm:∀x v,AF F w os x v->AF (CS F os) w os x v:=λx v h=>A5 Wy (λ_ _=>rfl) os os (Bz os) x v h;simp only[AF]at e2⊢;obtain⟨o',UU,_,_,e2⟩:=e2;rw[ho]at UU;cases UU;obtain⟨_,hv⟩:=e2 hg;subst hn;simp only[Sr,Tw,Nat.sub_zero]at hv;rcases hv with ⟨hb,VY,ad,rfl⟩|⟨b,hb,rfl⟩
 ·have h0:ys=[]:=SK (by rw[hlen,VY];rfl);subst h0;exact⟨ad,0,by rw[VY],by simp,by simp⟩
 ·obtain⟨_,cur,T7,UX,hle,_,T6⟩:=T2.some b hb;have T5:∀(i:Nat) y,ys[i]?=some y->∃x,o.row.xs[i]?=some x:=λi y hy=>by
   have hi:=(Rm.1 hy).1;exact⟨o.row.xs[i],Rp (by omega)⟩
  have aq:∀y∈ys,y.length=o.row.size:=λy hy=>by
   obtain⟨i,hi⟩:=Ss hy;obtain⟨x,hx⟩:=T5 i y hi;rw[(Ui i x y hx hi).1];exact (T2.lens x (Rk hx)).1
  refine⟨_,o.cap,by rw[hlen],by rw[hlen];exact hle,λ_=>⟨b,0,o.row.size,rfl,hl id o ho b (.inl hb),aq,?_⟩⟩;refine Dg aq λi y hy=>DH λj d hd=>?_;obtain⟨x,hx⟩:=T5 i y hy;obtain⟨hU,hc⟩:=Ui i x y hx hy;have Vl:j<x.length:=by rw[<- hU];exact (Rm.1 hd).1
  obtain⟨c,YD⟩ :∃c,x[j]?=some c:=⟨x[j],Rp Vl⟩
  have hk:=(T2.lens x (Rk hx)).2 c (Rk YD);obtain⟨u,f1,f2⟩:=T6 i x hx j c YD;have W5:w.cell? ⟨b,0+i*o.row.size+j,none⟩=some u:=by
   rw[TI w b _ cur _ _ T7,TK];exact f1
  generalize jY:d=d' at *;cases hc j c d' YD hd with
  | val hs=>
   by_cases hdv :∃el sz zs,c=.dv el sz zs
   ·obtain⟨el,sz,zs,rfl⟩:=hdv;obtain⟨-,D,d1,_,d3⟩:=T2.deep;obtain⟨u',q1,q2⟩:=d3 b hb cur _ _ T7 i x j el sz zs hx YD;rw[f1]at q1;cases q1;obtain⟨g1,g2⟩:=IM (F:=CS F os) (λc hc=>hl id o ho c (.inr (d1 _ _ _ hc))) _ u q2;exact⟨u,W5,g2,g1⟩
   ·have Vx:simple c=true:=by cases c<;>simp_all [BP]
    rw[EN Vx];exact⟨u,W5,by cases c<;>simp_all [AV.kept],CV Vx [] (hm _ _ f2)⟩
  | @own id2 g2 n2 row hr2 hg2 hp2=>
   obtain⟨o2,W0,rfl⟩:=hr.row hr2;have:=H8 hr Wy W0 (λb hb=>hl id2 o2 W0 b hb) hp2 f2 hg2;exact⟨u,W5,rfl,CV rfl [] this⟩
inductive LX (st:List Row):List AV->List AV->Prop
 | nil:LX st [] []
 | val {c:AV} {r r':List AV} (h:simple c=true) (hl:LX st r r'):LX st (c::r) (c::r')
 | own {β:Type} {l:List β} {enc:β->List AV} {id g size m:Nat} {el:TypeId} {r r':List AV} (hr:st[id]?=some ⟨g,el,size,l.map enc⟩) (hm:m=l.length) (hp :∀x,(enc x).all simple=true) (hl:LX st r r'):LX st (.own id g m::r) (.sl (l.map enc)::r')
theorem LX.spec {st:List Row}{x y:List AV}(h:LX st x y):y.length=x.length/\∀(j:Nat) c d,x[j]?=some c->y[j]?=some d->N3 st c d:=by
 induction h with
 | nil=>exact⟨rfl,by simp⟩
 | @val c r r' h _ ih=>
  refine⟨by simp[ih.1],λj a b ha hb=>?_⟩;cases j with
  | zero=>
   simp only[R2,Rn]at ha hb;subst ha;subst hb;have:=N3.val (st:=st) (EU h);rwa [EN h]at this
  | succ j=>exact ih.2 j a b (by simpa using ha) (by simpa using hb)
 | @own β l enc id g size m el r r' hr hm hp _ ih=>
  refine⟨by simp[ih.1],λj a b ha hb=>?_⟩;cases j with
  | zero=>
   simp only[R2,Rn]at ha hb;subst ha;subst hb;subst hm;have:=N3.own (st:=st) (n:=l.length) hr rfl (AK hp).any;simpa [Mt (AK hp)] using this
  | succ j=>exact ih.2 j a b (by simpa using ha) (by simpa using hb)
inductive LE (st:List Row):AV->AV->Prop
 | val {v:AV} (h:simple v=true):LE st v v
 | own {α:Type} {l:List α} {enc enc':α->List AV} {id g size m:Nat} {el:TypeId} (hr:st[id]?=some ⟨g,el,size,l.map enc⟩) (hm:m=l.length) (hp :∀x,(enc x).all BP=true) (hu :∀x,DU (enc x)=enc' x):LE st (.own id g m) (.sl (l.map enc'))
 | hol {α:Type} {l:List α} {enc enc':α->List AV} {id g size m:Nat} {el:TypeId} {J:Int} {x y:List AV} {c u:α} (hr:st[id]?=some ⟨g,el,size,hole l enc J x⟩) (hm:m=l.length) (hp :∀x,(enc x).all BP=true) (hu :∀x,DU (enc x)=enc' x) (hi:Sh.get l J=some c) (hy:enc' u=y) (hx:LX st x y):LE st (.own id g m) (.sl ((Sh.put l J u).map enc'))
theorem LE.spec {v v':AV}(h:LE s.st v v')(hr:Rel F os s a w){u:Value}(hv:AF F w os v u):AF (CS F os) w os v' u/\simple v'=true:=by
 cases h with
 | val h=>exact⟨A5 (λ_ h=>.inl h) (λ_ _=>rfl) os os (Bz os) _ _ hv,h⟩
 | @own α l enc enc' id g size m el T0 hm hp hu=>
  obtain⟨o,ho,hor⟩:=hr.row T0;refine⟨KG hr ho (by rw[hor]) (by rw[hor,hm];simp) (by rw[hor];simp) (λi x y hx hy=>?_) hv,rfl⟩;rw[hor,Ro,Rr]at hx;obtain⟨q,hq,rfl⟩:=hx;rw[Ro,hq]at hy;simp only[SC,Rn]at hy;subst hy;refine⟨by rw[<- hu,C9,SB],λj c d hc hd=>?_⟩;rw[<- hu,C9,Ro,hc]at hd;simp only[SC,Rn]at hd;subst hd;exact .val (Ru.1 (hp q) c (Rk hc))
 | @hol α l enc enc' id g size m el J x y c u T0 hm hp hu hi hy hx=>
  obtain⟨o,ho,hor⟩:=hr.row T0;refine⟨KG hr ho (by rw[hor]) (by rw[hor,hm];simp[hole]) (by rw[hor];simp[hole,Sh.put]) (λi x1 y1 Xf bK=>?_) hv,rfl⟩;rw[hor]at Xf;simp only[hole,Sh.put,Sb]at Xf bK;by_cases e:J.toNat=i
  ·subst e;have h1:=(Rm.1 Xf).1;simp only[Tg,SB]at h1;rw[Rs (by simpa using h1),Rn]at Xf bK;subst Xf;subst bK;subst hy;exact hx.spec
  ·rw[Rw e,Ro,Rr]at Xf bK;obtain⟨q,hq,rfl⟩:=Xf;obtain⟨q',WX,rfl⟩:=bK;rw[hq]at WX;cases WX;refine⟨by rw[<- hu,C9,SB],λj c d hc hd=>?_⟩;rw[<- hu,C9,Ro,hc]at hd;simp only[SC,Rn]at hd;subst hd;exact .val (Ru.1 (hp q) c (Rk hc))
inductive LC (st:List Row):List AV->List AV->Prop
 | nil:LC st [] []
 | cons {a b:AV} {as bs:List AV} (h:LE st a b) (hl:LC st as bs):LC st (a::as) (b::bs)
theorem LC.spec {xs ys:List AV}(h:LC s.st xs ys)(hr:Rel F os s a w):∀{us:List Value},Ad F w os xs us->Ad (CS F os) w os ys us/\ys.all simple=true:=by
 induction h with
 | nil=>intro us hu;exact⟨by simpa [Ad] using hu,rfl⟩
 | cons h _ ih=>
  intro us hu;simp only[Ad]at hu⊢;obtain⟨u,VK,e,h1,h2⟩:=hu;obtain⟨g1,g2⟩:=h.spec hr h1;obtain⟨g3,g4⟩:=ih h2;exact⟨⟨u,VK,e,g1,g3⟩,by simp[g2,g4]⟩
inductive LA (st:List Row):List AV->List AV->Prop
 | nil:LA st [] []
 | one {a b:AV} {as bs:List AV} (h:LE st a b) (hl:LA st as bs):LA st (a::as) (b::bs)
 | agg {cs ds as bs:List AV} (h:LC st cs ds) (hl:LA st as bs):LA st (.agg cs::as) (.agg ds::bs)
theorem LU {v:AV}(h:simple v=true):flat v=true:=by cases v<;>simp_all [simple,flat]
theorem LA.spec {xs ys:List AV}(h:LA s.st xs ys)(hr:Rel F os s a w):∀{us:List Value},Ad F w os xs us->Ad (CS F os) w os ys us/\ys.all flat=true:=by
 induction h with
 | nil=>intro us hu;exact⟨by simpa [Ad] using hu,rfl⟩
 | one h _ ih=>
  intro us hu;simp only[Ad]at hu⊢;obtain⟨u,VK,e,h1,h2⟩:=hu;obtain⟨g1,g2⟩:=h.spec hr h1;obtain⟨g3,g4⟩:=ih h2;exact⟨⟨u,VK,e,g1,g3⟩,by simp[LU g2,g4]⟩
 | agg h _ ih=>
  intro us hu;simp only[Ad]at hu⊢;obtain⟨u,VK,e,h1,h2⟩:=hu;simp only[AF]at h1;obtain⟨vs,e1,h1⟩:=h1;obtain⟨g1,g2⟩:=h.spec hr h1;obtain⟨g3,g4⟩:=ih h2;exact⟨⟨u,VK,e,by simp only[AF];exact⟨vs,e1,g1⟩,g3⟩,by simp only[To,g4,Bool.and_true];exact g2⟩
theorem Nb {f:FuncId}{args:List AV}{R:AV->List Row->Prop}(h:AY P f args [] R)(hf:args.all flat=true){vs:List Value}(hr:Rel F os s a w)(VZ:Ad (CS F os) w os args vs):
  Calls P f vs.toArray w λe w'=>∃u r st' F' UQ,e=.returned u/\R r st'/\Rel F os s a w'/\B9 F' UQ st' w'/\AF F' w' UQ r u/\(∀b,F b->F' b)/\Ext F os w F os w' k/\
   (∀(i:Nat) (o:Own),os[i]?=some o->∀b,o.owns b->∀o1:Own,o1∈UQ->¬ o1.owns b)/\∀b,b<w.heap.size->¬ F b->(∀o:Own,o∈os->¬ o.owns b)->∀o1:Own,o1∈UQ->¬ o1.owns b:=by
 have Wy:∀b,F b->CS F os b:=λ_ h=>.inl h;have T9:∀(i:Nat) (o:Own) b,os[i]?=some o->o.owns b->b<w.heap.size:=λi o b hi hb=>(hr.rows i o hi).lt hb;have Ut:∀(i:Nat) (o:Own),os[i]?=some o->∀b,o.owns b->CS F os b:=λi o ho b hb=>.inr ⟨o,Rk ho,hb⟩;have X6:∀b,CS F os b->b<w.heap.size:=λb hb=>by
  rcases hb with hb|⟨o,ho,Wt⟩
  ·exact hr.CL b hb
  ·obtain⟨i,hi⟩:=Ss ho;exact T9 i o b hi Wt
 refine (h (CS F os) [] w vs (B9.nil X6) (Fi hf [] VZ)).mono ?_;rintro e w' ⟨u,r,st',F',UQ,rfl,hR,hs,hru,he⟩;have T0:∀(i:Nat) (o:Own),os[i]?=some o->∀b,o.owns b->w'.heap[b]?=w.heap[b]?/\∀o1:Own,o1∈UQ->¬ o1.owns b:=λi o ho b hb=>by
  have h1:=Ut i o ho b hb;refine⟨he.C8 b h1,λo1 ar e=>?_⟩;obtain⟨j,hj⟩:=R0.1 ar;exact (hs.rows j o1 hj).nF e (he.FP b h1)
 have T4:∀x v,AF F w os x v->AF F w' os x v:=λx v h=>A5 (λ_ h=>h) (λb hb=>he.C8 b (Wy b hb)) os os (Bz os) x v h;have VL:Rel F os s a w':=⟨hr.st,λt=>T4 _ _ (hr.env t),hr.size,λi o ho=>by
   have T2:=hr.rows i o ho;refine⟨T2.pos,T2.lens,T2.none,λb hb=>?_,λb hb=>⟨(T2.mo b hb).1,Sd (T2.mo b hb).2.1 he.size,(T2.mo b hb).2.2⟩,T2.deep.keep rfl (λ_ h=>h) rfl (λb hb=>(T0 i o ho b hb).1) (λi x j e s ys hx hc=>⟨x,hx,hc⟩)⟩;obtain⟨e1,cur,e2,e3,e4,e5,e6⟩:=T2.some b hb;exact⟨e1,cur,by rw[(T0 i o ho b (.inl hb)).1];exact e2,e3,e4,e5,λi' x hx j c hc=>by obtain⟨u,f1,f2⟩:=e6 i' x hx j c hc;exact⟨u,f1,T4 _ _ f2⟩⟩,
  hr.inj,λb hb=>Sd (hr.CL b hb) he.size,hr.defers⟩
 have VE:∀b,b<w.heap.size->¬ F b->(∀o:Own,o∈os->¬ o.owns b)->w'.heap[b]?=w.heap[b]?/\∀o1:Own,o1∈UQ->¬ o1.owns b:=λb hb e1 e2=>by
  have Ze:¬ CS F os b:=λh=>h.elim e1 (λ⟨o,ho,Wt⟩=>e2 o ho Wt);obtain⟨f1,_,f3⟩:=he.other b hb Ze (by simp);exact⟨f1,f3⟩
 exact⟨u,r,st',F',UQ,rfl,hR,VL,hs,hru,λb hb=>he.FP b (Wy b hb),
  ⟨he.sys,he.tape,he.output,he.size,λ_ h=>h,λb hb=>he.C8 b (Wy b hb),λb hb e1 e2=>⟨(VE b hb e1 e2).1,e1,e2⟩,λi o _ ho=>⟨o,ho,Rz _,rfl,λ_=>⟨rfl,rfl,rfl⟩⟩⟩,
  λi o ho b hb=>(T0 i o ho b hb).2,λb hb e1 e2=>(VE b hb e1 e2).2⟩
theorem I5 {f:FuncId}{args Uq:List AV}{d:Option Tmp}{K:St->Prop}{R:AV->List Row->Prop}(h:AY P f Uq [] R)(dL:LA s.st args Uq)
  (hK :∀r st',R r st'->(Lz r=true/\∀row∈st',∀x∈row.xs,∀c∈x,Er c=true)/\(∀row∈st',Au row.xs)/\K ({ s with st:=s.st++st' }.put d (shift s.st.length r))):callThen P k s f args d K:=by
 intro F os a w vs hr hl;obtain⟨h1,h2⟩:=dL.spec hr hl;refine (Nb (k:=k) h h2 hr h1).mono ?_;rintro e w' ⟨u,r,st',F',UQ,rfl,hR,VL,hs,hru,aJ,he,Um,VE⟩;obtain⟨⟨cn,Zf⟩,hp,hk⟩:=hK r st' hR;refine⟨u,_,s.st++st',F,os++UQ,rfl,hk,VL.join hs aJ hp (.inr Zf) Um,?_,?_⟩
 ·rw[hr.len];exact G9 (KH cn hru)
 ·refine⟨he.sys,he.tape,he.output,he.size,λ_ h=>h,he.C8,λb hb e1 e2=>?_,λi o hi ho=>Bt.append os UQ i o ho⟩;obtain⟨f1,_,_⟩:=he.other b hb e1 e2;exact⟨f1,e1,λo ho=>by rcases SI.1 ho with h|h;exact e2 o h;exact VE b hb e1 e2 o h⟩
end
section
variable {P : Program} {k : Nat} {ops : Array Oper} {Q : Exit -> St -> Prop} {ds : List (Option Tmp)} {r : List Oper} {n : Nat} {e : Nat -> AV} {st st' rows : List Row} {ty : TypeId} {ps : String} {ed : Array Edge} {d : Option Tmp} {v v' : AV} {gd : Option (Nat × Bool)} {f : FuncId} {VA : Array Operand} {ts : Array TypeId} {args as : List AV}
theorem OG (hg:GO ds gd e)(hb:AZ P f=true)(hc:AY P f args [] λr st=>r=v/\st=rows)(ha:VA.toList.map (St.ev ⟨n,e,st⟩)++[]=as)(dL:LA st as args)(Zf:Lz v=true)(hp:FB rows)(hv:shift st.length v=v')(T8:st++rows=st')
  (hk:AO P k ops Q (ds++[d]) r (St.put ⟨n,e,st'⟩ d v')):AO P k ops Q ds (⟨d,.call ⟨.value (.func f),VA,ts⟩,ty,ps,ed,gd⟩::r) ⟨n,e,st⟩:=by
 subst hv;subst T8;subst ha;refine Ek hg ?_;rw[EB];refine⟨hb,I5 (R:=λr st=>r=v/\st=rows) hc dL ?_⟩;rintro r st' ⟨rfl,rfl⟩;exact⟨⟨Zf,λrow T0=>(hp.get row T0).2⟩,λrow T0=>(hp.get row T0).1,hk⟩
end
section
variable {k : Nat}
theorem Wk.PX {id m g gm size sz n i j nn:Nat}{el Vb:TypeId}{xs ys:List (List AV)}{x:List AV}{e:Nat->AV}{st st':List Row}(T0:st[id]?=some ⟨g,el,size,xs⟩)(hx:xs[i]?=some x)(hc:x[j]?=some (.own m gm n))
  (hm:st[m]?=some ⟨gm,Vb,sz,ys⟩) (hn:n=ys.length) (UW:id≠m) (ay:k<=m) (hp:Au ys) (T8:(st.set id ⟨g,el,size,xs.set i (x.set j (.sl (DQ ys)))⟩).set m ⟨gm+1,Vb,sz,[]⟩=st') :
  Wk k ⟨nn,e,st⟩ ⟨nn,e,st'⟩:=λF os a w hr=>by
 subst T8;subst hn;obtain⟨o,ho,hor⟩:=hr.row T0;obtain⟨p,hpp,Vu⟩:=hr.row hm;have T2:=hr.rows id o ho;have Yp:=hr.rows m p hpp;have T8:os.map Own.row=st:=hr.st;have VG:o.row.xs=xs:=by rw[hor]
 have az:p.row.xs=ys:=by rw[Vu]
 let o':Own:={ o with row:={ o.row with xs:=xs.set i (x.set j (.sl (DQ ys))) } }
 let p':Own:=⟨{ p.row with gen:=p.row.gen+1,xs:=[] },none,0,Cg⟩
 let F':Nat->Prop:=λb=>F b∨p.owns b
 have hF:∀b,F b->F' b:=λ_ h=>.inl h;have Wv:i<xs.length:=(Rm.1 hx).1;have Vl:j<x.length:=(Rm.1 hc).1;have VR:=(Rm.1 ho).1;have bA:=(Rm.1 hpp).1;have T5:∀(q:Nat) (oq:Own),((os.set id o').set m p')[q]?=some oq->(q≠id/\q≠m/\os[q]?=some oq)∨(q=id/\oq=o')∨(q=m/\oq=p'):=λq oq hq=>by
  by_cases e:q=m
  ·subst e;rw[Rs (by simpa using bA),Rn]at hq;exact .inr (.inr ⟨rfl,hq.symm⟩)
  ·rw[Rw (SY e)]at hq;by_cases e2:q=id
   ·subst e2;rw[Rs VR,Rn]at hq;exact .inr (.inl ⟨rfl,hq.symm⟩)
   ·rw[Rw (SY e2)]at hq;exact .inl ⟨e2,e,hq⟩
 have Ud:Bt os ((os.set id o').set m p'):=λq oq hq=>by
  by_cases e:q=m
  ·subst e;rw[hpp]at hq;cases hq;exact⟨p',Rs (by simpa using bA),Nat.le_succ _,rfl,λe=>by simp[p']at e⟩
  ·rw[Rw (SY e)];by_cases e2:q=id
   ·subst e2;rw[ho]at hq;cases hq;exact⟨o',Rs VR,Rz _,rfl,λ_=>⟨rfl,rfl,by simp[o',VG]⟩⟩
   ·rw[Rw (SY e2)];exact⟨oq,hq,Rz _,rfl,λ_=>⟨rfl,rfl,rfl⟩⟩
 have T4:∀y v,AF F w os y v->AF F' w ((os.set id o').set m p') y v:=λy v h=>A5 hF (λ_ _=>rfl) os _ Ud y v h;have Xs:∀b,p'.owns b->p.owns b:=λb hb=>by
  rcases hb with hb|hb
  ·simp[p']at hb
  ·exact hb.elim
 obtain⟨bo,Vy⟩ :∃b,o.BV=some b:=by
  cases hb:o.BV with
  | none=>obtain⟨_,_,h⟩:=T2.La hb (i:=i) (by rw[VG];exact hx) hc;cases h
  | some b=>exact⟨b,rfl⟩
 obtain⟨YY,cur,T7,UX,hle,VO,T6⟩:=T2.some bo Vy;obtain⟨uv,hu1,WA⟩:=T6 i x (by rw[VG];exact hx) j _ hc;have X2:AF F' w ((os.set id o').set m p') (.sl (DQ ys)) uv:=by
  have h1:=H8 hr hF hpp (λb hb=>.inr hb) (by rw[az];exact hp) WA (by rw[Vu]);rw[az,Sr,SH]at h1;exact CV rfl _ h1
 have cE:∀(q:Nat) (oq:Own) b,q≠m->os[q]?=some oq->oq.owns b->¬ F' b:=λq oq b hq ZI hb aE=>
  aE.elim ((hr.rows q oq ZI).nF hb) λh=>hq (hr.inj q m oq p b ZI hpp hb h)
 refine⟨F',(os.set id o').set m p',⟨?_,λt=>T4 _ _ (hr.env t),hr.size,λq oq hq=>?_,λq q' oq XK b hq WX hb UO=>?_,λb hb=>?_,hr.defers⟩,⟨rfl,rfl,rfl,Rz _,hF,λ_ _=>rfl,λb _ h1 h2=>⟨rfl,?_,λoq ZI hb=>?_⟩,λq oq _ hq=>Ud q oq hq⟩⟩
 ·rw[Sb,Sb,T8];simp only[o',p',hor,Vu]
 ·rcases T5 q oq hq with ⟨_,h2,h⟩|⟨_,rfl⟩|⟨_,rfl⟩
  ·have h0:=hr.rows q oq h;refine⟨h0.pos,h0.lens,h0.none,λb hb=>?_,λb hb=>⟨cE q oq b h2 h (.inr hb),(h0.mo b hb).2⟩,h0.deep⟩;obtain⟨e1,cur,e2,e3,e4,e5,e6⟩:=h0.some b hb;exact⟨cE q oq b h2 h (.inl hb),cur,e2,e3,e4,e5,λi' y hy j' c hc=>by obtain⟨u,f1,f2⟩:=e6 i' y hy j' c hc;exact⟨u,f1,T4 _ _ f2⟩⟩
  ·refine⟨T2.pos,λy hy=>?_,(λhn=>by simp only[o']at hn;rw[Vy]at hn;cases hn),λb hb=>?_,λb hb=>⟨cE id o b UW ho (.inr hb),(T2.mo b hb).2⟩,?_⟩
   ·rcases SO hy with hy|rfl
    ·exact T2.lens y (by rw[VG];exact hy)
    ·have h0:=T2.lens x (by rw[VG];exact Rk hx);refine⟨by rw[Tg];exact h0.1,λc U2=>?_⟩;rcases SO U2 with h|rfl
     ·exact h0.2 c h
     ·rfl
   ·simp only[o']at hb;rw[Vy]at hb;cases hb;refine⟨cE id o bo UW ho (.inl Vy),cur,T7,UX,by simpa [o',VG] using hle,VO,λi' y hy j' c Uy=>?_⟩;simp only[o']at hy⊢;by_cases hi:i'=i
    ·subst hi;rw[Rs Wv,Rn]at hy;subst hy;by_cases hj:j'=j
     ·subst hj;rw[Rs Vl,Rn]at Uy;subst Uy;exact⟨uv,hu1,X2⟩
     ·rw[Rw (SY hj)]at Uy;obtain⟨u,f1,f2⟩:=T6 i' x (by rw[VG];exact hx) j' c Uy;exact⟨u,f1,T4 _ _ f2⟩
    ·rw[Rw (SY hi)]at hy;obtain⟨u,f1,f2⟩:=T6 i' y (by rw[VG];exact hy) j' c Uy;exact⟨u,f1,T4 _ _ f2⟩
   ·refine T2.deep.keep rfl (λ_ h=>h) rfl (λ_ _=>rfl) λi' y j' e2 s2 zs hy Uy=>?_;simp only[o']at hy;rw[VG];by_cases hi:i'=i
    ·subst hi;rw[Rs Wv,Rn]at hy;subst hy;by_cases hj:j'=j
     ·subst hj;rw[Rs Vl,Rn]at Uy;cases Uy
     ·rw[Rw (SY hj)]at Uy;exact⟨x,hx,Uy⟩
    ·rw[Rw (SY hi)]at hy;exact⟨y,hy,Uy⟩
  ·exact⟨Yp.pos,by simp[p'],by simp[p'],by simp[p'],λb hb=>hb.elim,B2 (by simp[p'])⟩
 ·have Wc:∀b,o'.owns b->o.owns b:=λb hb=>hb;rcases T5 q oq hq with ⟨q1,q2,h⟩|⟨rfl,rfl⟩|⟨rfl,rfl⟩<;>rcases T5 q' XK WX with ⟨q1',q2',h'⟩|⟨rfl,rfl⟩|⟨rfl,rfl⟩
  ·exact hr.inj q q' oq XK b h h' hb UO
  ·exact hr.inj q _ oq o b h ho hb (Wc b UO)
  ·exact hr.inj q _ oq p b h hpp hb (Xs b UO)
  ·exact hr.inj _ q' o XK b ho h' (Wc b hb) UO
  ·rfl
  ·exact hr.inj _ _ o p b ho hpp (Wc b hb) (Xs b UO)
  ·exact hr.inj _ q' p XK b hpp h' (Xs b hb) UO
  ·exact hr.inj _ _ p o b hpp ho (Xs b hb) (Wc b UO)
  ·rfl
 ·exact hb.elim (hr.CL b) λh=>Yp.lt h
 ·exact λaE=>aE.elim h1 λh=>h2 p (Rk hpp) h
 ·obtain⟨q,hq⟩:=R0.1 ZI;rcases T5 q oq hq with ⟨_,_,h⟩|⟨_,rfl⟩|⟨_,rfl⟩
  ·exact h2 oq (Rk h) hb
  ·exact h2 o (Rk ho) hb
  ·exact h2 p (Rk hpp) (Xs b hb)
theorem DK {α:Type}{l:List α}{enc enc':α->List AV}{id m g gm size sz n j nn:Nat}{el Vb:TypeId}{x:List AV}{e:Nat->AV}{st st':List Row}(T0:st[id]?=some ⟨g,el,size,[x]⟩)(hc:x[j]?=some (.own m gm n))
  (hm:st[m]?=some ⟨gm,Vb,sz,l.map enc⟩) (hn:n=l.length) (UW:id≠m) (ay:k<=m) (hp :∀x,(enc x).all BP=true) (hu :∀x,DU (enc x)=enc' x) (T8:(st.set id ⟨g,el,size,[x.set j (.sl (l.map enc'))]⟩).set m ⟨gm+1,Vb,sz,[]⟩=st') :
  Wk k ⟨nn,e,st⟩ ⟨nn,e,st'⟩:=by
 refine Wk.PX (i:=0) T0 rfl hc hm (by simp[hn]) UW ay (Bg hp) ?_;have h1:DQ (l.map enc)=l.map enc':=by
  rw[CQ,Sq];exact R4 λx _=>hu x
 rw[h1];exact T8
end
end Go.Abs
