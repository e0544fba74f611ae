import Derived.Test.YtfkncfjpobjbjaaAbsQ
import Derived.Test.YtfkncfjpobjbjaaGAbsZKToAbsZV
set_option linter.all false
namespace Go.Abs
open Go
section
variable {P : Program}
end
section
variable {P : Program} {ops : Array Oper} {Q : Exit -> Act -> World -> Prop} {md : Region.Mode} {S : World -> Prop}
end
section
variable {P : Program} {s : St} {o : Oper} {v : AV} {n : Nat} {e : Nat -> AV} {st : List Row} {t : Tmp} {ty : TypeId} {ps : String} {ed : Array Edge} {x : Operand}
def hE (T:FJ P)(s:St):Op->Option AV
 | .move x=>fo (s.ev x)
 | .assign x=>fo (s.ev x)
 | .fieldAddr t x f=>match s.ev x with
  | .A4 cs off=>(FD T.f t f).bind λj=>some (.A4 cs (off+j))
  | .ptr id g i off=>(FD T.f t f).bind λj=>Kk g s.st[id]? λr=>bif Nat.ble (off+j) r.size then some (.ptr id g i (off+j)) else none
  | _=>none
 | .load t x=>Lx T s t (s.ev x)
 | _=>none
end
section
variable {P : Program} {k : Nat} {ops : Array Oper} {Q : Exit -> St -> Prop} {N f : Nat} {T7 : Array Bool} {s : St} {o : Oper} {v : AV} {n : Nat} {e : Nat -> AV} {st : List Row} {t : Tmp} {op : Op} {ty : TypeId} {ps : String} {ed : Array Edge}
end
end Go.Abs
namespace Go.Abs
open Go
end Go.Abs
namespace Go.Abs
open Go
section
variable {P : Program} {k : Nat} {ops : Array Oper} {Q : Exit -> St -> Prop} {ds : List (Option Tmp)} {r : List Oper} {n : Nat} {e : Nat -> AV} {st st' : List Row} {ty : TypeId} {ps : String} {ed : Array Edge} {gd : Option (Nat × Bool)} {T : TypeId} {x y : Operand} {size id g sz : Nat} {el : TypeId} {α : Type} {l : List α} {enc : α -> List AV} {c : α} {i : Int} {v : AV} {cs x0 : List AV} {ag : Bool}
end
end Go.Abs
namespace Go.Abs
open Go
section
variable {P : Program} {k : Nat} {α : Type} {l : List α} {enc : α -> List AV} {ops : Array Oper} {Q : Exit -> St -> Prop} {ds : List (Option Tmp)} {r : List Oper} {n : Nat} {e : Nat -> AV} {st st' : List Row} {ty : TypeId} {ps : String} {ed : Array Edge} {t : Tmp} {gd : Option (Nat × Bool)} {T : TypeId} {bytes size m : Nat} {el : TypeId} {zz : List AV}
end
end Go.Abs
namespace Go.Abs
open Go
end Go.Abs
namespace Go.Abs
open Go
structure MS where
 n:Nat
 e:Nat->AV
 x:Row
 z:List Row
def MS.st (R:List Row)(m:MS):St:=⟨m.n,m.e,m.x::(R++m.z)⟩
def MS.put (m:MS)(d:Option Tmp)(v:AV):MS:=match d with
 | some d=>{ m with e:=CE m.e d v }
 | none=>m
def MS.ev (m:MS)(x:Operand):AV:=St.ev ⟨m.n,m.e,[]⟩ x
inductive Kind where
 | q
 | l (x y:Row)
 | a (row:Row)
def Kind.D:Kind->Row->List Row->Prop
 | .q,_,_=>True
 | .l x0 _,x,_=>x=x0
 | .a _,_,z=>z=[]
def Kind.fz:Kind->List Row->List Row
 | .a row,_=>[row]
 | _,z=>z
section
variable {P : Program} {k : Nat} {ops : Array Oper} {md : Region.Mode} {R : List Row}
end
section
variable {P : Program} {k : Nat} {R : List Row} {ds : List (Option Tmp)} {r : List Oper} {K : MS -> Prop} {n : Nat} {e : Nat -> AV} {x0 : Row} {z0 : List Row} {t : Tmp} {op : Op} {ty : TypeId} {ps : String} {ed : Array Edge} {gd : Option (Nat × Bool)} {v : AV}
end
end Go.Abs
namespace Go.Abs
open Go
section
variable {P : Program} {k : Nat} {R : List Row} {ds : List (Option Tmp)} {r : List Oper} {K : MS -> Prop} {n : Nat} {e : Nat -> AV} {x0 : Row} {z0 : List Row} {t : Tmp} {op : Op} {ty : TypeId} {ps : String} {ed : Array Edge} {gd : Option (Nat × Bool)}
end
section
variable {P : Program} {k : Nat} {s : St} {ops : Array Oper} {Q : Exit -> St -> Prop} {ds : List (Option Tmp)} {r : List Oper} {n : Nat} {e : Nat -> AV} {st st' : List Row} {ty : TypeId} {ps : String} {ed : Array Edge} {d : Option Tmp} {v v' : AV} {gd : Option (Nat × Bool)}
variable {f : FuncId} {VG : Array Operand} {ts : Array TypeId} {args Uu : List AV} {rows0 rows1 : List Row}
end
end Go.Abs
namespace Go.Abs
open Go
section
variable {k : Nat} {α β : Type} {l : List α} {enc : α -> List AV}
end
section
variable {α : Type} {l : List α} {enc : α -> List AV} {P : Program} {s : St} {x y : Operand} {t el : TypeId} {size bytes id g m : Nat} {zz : List AV} {n i j : Int} {kk : IntKind} {u : α} {z z' : List AV}
end
section
variable {P : Program} {k : Nat} {ops : Array Oper} {Q : Exit -> St -> Prop} {ds : List (Option Tmp)} {r : List Oper} {n : Nat} {e : Nat -> AV} {st st' : List Row} {ty : TypeId} {ps : String} {ed : Array Edge} {gd : Option (Nat × Bool)} {T : TypeId} {x y : Operand} {size id g sz off : Nat} {el : TypeId} {α : Type} {l : List α} {enc : α -> List AV} {c : α} {i : Int} {v : AV} {cs x0 x' : List AV} {ag : Bool}
end
section
variable {AP : List Nat} {g size : Nat} {el : TypeId} {a b : Row} {r r' : List Row}
end
end Go.Abs
namespace RC
open Go Go.Abs
structure Aj where
 words:List Int
 free:List Int
structure Af where
 cells:List Cell
 index:List (Int×Int)
def AS (m:Aj):List AV:=[.sl (m.words.map eI),.sl (m.free.map eI)]
structure HW (m:Aj):Prop where
 words:Fv Bh m.words
 free:Fv Bh m.free
end RC
namespace RC
def DR (p0:(List Int))(p1:Int):Option (Int):=
 if (decide ((Sh.w (p1-(Sh.len p0)))<0))=true then
  some (-1)
 else
  some (Sh.w (p1-(Sh.len p0)))
def Bg (p0:(List Int)):Nat->Int->(List Int)->Option (List Int)
 | 0,_,_=>none
 | n+1,i6,l7=>
  if (decide (i6<(Sh.len p0)))=true then
   (Sh.get p0 i6).bind λYi=>
   (Sh.get l7 i6).bind λaU=>
   Bg p0 n (Sh.w (i6+1)) (Sh.put l7 i6 Yi)
  else
   some l7
def DM (N:Nat)(p0:(List Int)):Option (List Int):=
 (Sh.mk 0 (Sh.len p0) 8).bind λl3=>
 (Bg p0 N 0 l3).bind λl8=>
 some l8
def CC (p0 p1 p2:Int):Option (Bool):=
 (
  if (decide (p1<=p0))=true then
   some (decide (p0<=p2))
  else
   some false
 ).bind λt3=>
 some t3
def BY (p0:(List Int)):Nat->Int->Option ((Bool) ⊕ (Unit))
 | 0,_=>none
 | n+1,i4=>
  if (decide (i4<(Sh.len p0)))=true then
   (Sh.get p0 i4).bind λXB=>
   if (!decide (XB=0))=true then
    some (Sum.inl false)
   else
    BY p0 n (Sh.w (i4+1))
  else
   some (Sum.inr ())
def DZ (N:Nat)(p0:(List Int)):Option (Bool):=
 Sh.cont (BY p0 N 0) (id) λ()=>
 some true
def BV (p0:Int):Option (Bool):=
 some (decide (1000<=p0))
def DJ (p0:(List Cell))(p1:Int):Option (Bool):=
 (
  Option.bind (CC (Sh.w (p1-1000)) 0 (Sh.w ((Sh.len p0)-1))) λq5=>
  if q5=true then
   (BV p1).bind λq7=>
   if q7=true then
    (Sh.get p0 (Sh.w (p1-1000))).bind λc9=>
    some (decide (0<c9.count))
   else
    some false
  else
   some false
 ).bind λt3=>
 some t3
def Du (p0:(List Cell))(p1:Int):Option (Bool):=
 (
  Option.bind (CC p1 (-999) 999) λq5=>
  if q5=true then
   some true
  else
   (DJ p0 p1).bind λq7=>
   some q7
 ).bind λt3=>
 some t3
def BI (p0:(List Cell))(p1:Cell):Nat->Int->Option ((Bool) ⊕ (Unit))
 | 0,_=>none
 | n+1,i20=>
  if (decide (i20<(Sh.len p1.fields)))=true then
   (Sh.get p1.fields i20).bind λXC=>
   (Du p0 XC).bind λWQ=>
   if (!WQ)=true then
    some (Sum.inl false)
   else
    BI p0 p1 n (Sh.w (i20+1))
  else
   some (Sum.inr ())
def Cy (N:Nat)(p0:(List Cell))(p1:Cell):Option (Bool):=
 (
  if (decide (3<(Sh.len p1.fields)))=true then
   some true
  else
   (CC p1.count (-1) 999999).bind λaV=>
   some (!aV)
 ).bind λt4=>
 if t4=true then
  some false
 else
 if (decide (p1.count<1))=true then
  (
   if (decide (p1.tag=0))=true then
    (DZ N p1.fields).bind λZp=>
    if Zp=true then
     if (decide (p1.count<0))=true then
      some true
     else
      some (decide ((Sh.len p1.fields)=0))
    else
     some false
   else
    some false
  ).bind λt12=>
  some t12
 else
  Sh.cont (BI p0 p1 N 0) (id) λ()=>
  (CC p1.tag 0 99).bind λdH=>
  some dH
def Bc (i6:Int)(p0:(List Cell)):Nat->Int->(List Int)->Option (List Int)
 | 0,_,_=>none
 | n+1,Yv,l17=>
  (Sh.get p0 i6).bind λZM=>
  if (decide (Yv<(Sh.len ZM.fields)))=true then
   (
    Option.bind (Sh.get ZM.fields Yv) λYK=>
    (DJ p0 YK).bind λXh=>
    if Xh=true then
     (Sh.get l17 (Sh.w (YK-1000))).bind λYw=>
     some (Sh.put l17 (Sh.w (YK-1000)) (Sh.w (Yw+1)))
    else
     some l17
   ).bind λUf=>
   Bc i6 p0 n (Sh.w (Yv+1)) Uf
  else
   some l17
def Bf (N:Nat)(p0:(List Cell)):Nat->Int->(List Int)->Option (List Int)
 | 0,_,_=>none
 | n+1,i6,l7=>
  if (decide (i6<(Sh.len p0)))=true then
   (Bc i6 p0 N 0 l7).bind λZq=>
   Bf N p0 n (Sh.w (i6+1)) Zq
  else
   some l7
def Dw (N:Nat)(p0:(List Cell)):Option (List Int):=
 (Sh.mk 0 (Sh.len p0) 8).bind λl3=>
 (Bf N p0 N 0 l3).bind λl8=>
 some l8
def BE (p0:(List Bool))(p1:(List Int)):Nat->Int->Option ((Bool) ⊕ (Unit))
 | 0,_=>none
 | n+1,i4=>
  if (decide (i4<(Sh.len p1)))=true then
   (
    Option.bind (Sh.get p1 i4) λaU=>
    (BV aU).bind λU1=>
    if U1=true then
     (Sh.get p0 (Sh.w (aU-1000))).bind λYx=>
     some (!Yx)
    else
     some false
   ).bind λt12=>
   if t12=true then
    some (Sum.inl false)
   else
    BE p0 p1 n (Sh.w (i4+1))
  else
   some (Sum.inr ())
def Cw (N:Nat)(p0:(List Bool))(p1:(List Int)):Option (Bool):=
 Sh.cont (BE p0 p1 N 0) (id) λ()=>
 some true
def BH (N:Nat)(p0:(List Cell)):Nat->Int->Bool->Int->(List Bool)->Option (Int×Bool×(List Bool))
 | 0,_,_,_,_=>none
 | n+1,Un,more19,i20,Vj=>
  if (decide (i20<(Sh.len p0)))=true then
   (
    Option.bind (
     (Sh.get Vj i20).bind λdI=>
     if (!dI)=true then
      (Sh.get p0 i20).bind λdJ=>
      (Cw N Vj dJ.fields).bind λbx=>
      some bx
     else
      some false
    ) λt35=>
    if t35=true then
     (Sh.get Vj i20).bind λVI=>
     some (Sh.w (Un+1),true,Sh.put Vj i20 true)
    else
     some (Un,more19,Vj)
   ).bind λ(Ug,VZ,Zr)=>
   BH N p0 n Ug VZ (Sh.w (i20+1)) Zr
  else
   some (Un,more19,Vj)
def BG (N:Nat)(p0:(List Cell)):Nat->Int->Bool->(List Bool)->Option (Int)
 | 0,_,_,_=>none
 | n+1,VO,more8,l9=>
  if more8=true then
   (BH N p0 N VO false 0 l9).bind λ(VB,VC,Wy)=>
   BG N p0 n VB VC Wy
  else
   some VO
def Cz (N:Nat)(p0:(List Cell)):Option (Bool):=
 (Sh.mk false (Sh.len p0) 1).bind λl3=>
 (BG N p0 N 0 true l3).bind λVa=>
 some (decide (Va=(Sh.len p0)))
def BJ (p0:(List Cell))(V8:(List Int)):Nat->Int->Option ((Bool) ⊕ (Unit))
 | 0,_=>none
 | n+1,i16=>
  if (decide (i16<(Sh.len p0)))=true then
   (
    Option.bind (Sh.get p0 i16) λXC=>
    if (decide (0<XC.count))=true then
     (Sh.get V8 i16).bind λbz=>
     some (decide (XC.count<bz))
    else
     some false
   ).bind λt25=>
   if t25=true then
    some (Sum.inl false)
   else
    BJ p0 V8 n (Sh.w (i16+1))
  else
   some (Sum.inr ())
def BF (N:Nat)(p0:(List Cell)):Nat->Int->Option ((Bool) ⊕ (Unit))
 | 0,_=>none
 | n+1,i10=>
  if (decide (i10<(Sh.len p0)))=true then
   (Sh.get p0 i10).bind λUP=>
   (Cy N p0 UP).bind λWo=>
   if (!Wo)=true then
    some (Sum.inl false)
   else
    BF N p0 n (Sh.w (i10+1))
  else
   some (Sum.inr ())
def B7 (N:Nat)(p0:(List Cell)):Option (Bool):=
 (
  if (decide (0<(Sh.len p0)))=true then
   (Sh.get p0 (Sh.w ((Sh.len p0)-1))).bind λcA=>
   some (decide (cA.count=0))
  else
   some false
 ).bind λt4=>
 if t4=true then
  some false
 else
  Sh.cont (BF N p0 N 0) (id) λ()=>
  (Dw N p0).bind λV8=>
  Sh.cont (BJ p0 V8 N 0) (id) λ()=>
  (Cz N p0).bind λdK=>
  some dK
def F3 (N:Nat)(p0:(List Cell)):Option (Bool):=
 (B7 N p0).bind λq3=>
 some q3
def Cs (p0:(List Cell))(p1:Int):Option (Int×Bool):=
 (
  if (decide (1000<=p1))=true then
   if (decide ((Sh.w (p1-1000))<(Sh.len p0)))=true then
    (Sh.get p0 (Sh.w (p1-1000))).bind λc8=>
    some (decide (0<c8.count))
   else
    some false
  else
   some false
 ).bind λt4=>
 some (Sh.w (p1-1000),t4)
def Dj (p0:Int):Option (Bool):=
 (
  if (decide ((-999)<=p0))=true then
   some (decide (p0<=999))
  else
   some false
 ).bind λt3=>
 some t3
def C3 (p0:(List Cell))(p1:Int):Option (Bool):=
 (Cs p0 p1).bind λq3=>
 (
  if q3.2=true then
   some true
  else
   (Dj p1).bind λq8=>
   some q8
 ).bind λt5=>
 some t5
def BD (p0:(List Cell))(p1:Cell):Nat->Int->Option ((Bool) ⊕ (Unit))
 | 0,_=>none
 | n+1,t16=>
  if (decide (t16<(Sh.len p1.fields)))=true then
   (Sh.get p1.fields t16).bind λbI=>
   (
    Option.bind (C3 p0 bI) λWQ=>
    if (!WQ)=true then
     some true
    else
    if (decide (p1.count<0))=true then
     some (!decide (bI=0))
    else
     some false
   ).bind λt26=>
   if t26=true then
    some (Sum.inl false)
   else
    BD p0 p1 n (Sh.w (t16+1))
  else
   some (Sum.inr ())
def Cx (N:Nat)(p0:(List Cell))(p1:Cell):Option (Bool):=
 (
  if (decide (p1.count<(-1)))=true then
   some true
  else
  if (decide (p1.tag<0))=true then
   some true
  else
  if (decide (99<p1.tag))=true then
   some true
  else
   some (decide (3<(Sh.len p1.fields)))
 ).bind λt4=>
 if t4=true then
  some false
 else
  (
   if (decide (p1.count<1))=true then
    if (!decide (p1.tag=0))=true then
     some true
    else
    if (decide (p1.count=0))=true then
     some (decide (0<(Sh.len p1.fields)))
    else
     some false
   else
   if (decide (p1.count=0))=true then
    some (decide (0<(Sh.len p1.fields)))
   else
    some false
  ).bind λt10=>
  if t10=true then
   some false
  else
   Sh.cont (BD p0 p1 N 0) (id) λ()=>
   some true
def BO (p0:(List Int)):Option (List Int):=
 (Sh.app ([]:List Int) p0 8).bind λl6=>
 some l6
def A2 (VI:Cell)(p0:(List Cell)):Nat->Int->(List Int)->(List Int)->Option ((List Int)×(List Int))
 | 0,_,_,_=>none
 | n+1,t43,l44,V9=>
  if (decide (t43<(Sh.len VI.fields)))=true then
   (
    Option.bind (Sh.get VI.fields t43) λZs=>
    (Cs p0 Zs).bind λVw=>
    if Vw.2=true then
     (Sh.get l44 Vw.1).bind λXi=>
     (Sh.get (Sh.put l44 Vw.1 (Sh.w (Xi-1))) Vw.1).bind λdL=>
     if (decide (dL=0))=true then
      (Sh.app V9 [Vw.1] 8).bind λYy=>
      some (Sh.put l44 Vw.1 (Sh.w (Xi-1)),Yy)
     else
      some (Sh.put l44 Vw.1 (Sh.w (Xi-1)),V9)
    else
     some (l44,V9)
   ).bind λ(Zt,Zu)=>
   A2 VI p0 n (Sh.w (t43+1)) Zt Zu
  else
   some (l44,V9)
def Az (N:Nat)(p0:(List Cell)):Nat->Int->(List Int)->(List Int)->Option (Int)
 | 0,_,_,_=>none
 | n+1,UT,WG,l29=>
  if (decide (0<(Sh.len l29)))=true then
   (Sh.get l29 (Sh.w ((Sh.len l29)-1))).bind λdM=>
   (Sh.get p0 dM).bind λVI=>
   (Sh.hi l29 (Sh.w ((Sh.len l29)-1))).bind λWH=>
   (A2 VI p0 N 0 WG WH).bind λ(Wz,Zv)=>
   Az N p0 n (Sh.w (UT+1)) Wz Zv
  else
   some UT
def A1 (l8:(List Int))(p0:(List Cell)):Nat->Int->(List Int)->Option (((List Int)×Bool) ⊕ (List Int))
 | 0,_,_=>none
 | n+1,t22,U4=>
  if (decide (t22<(Sh.len p0)))=true then
   Sh.cont (
    (Sh.get p0 t22).bind λZw=>
    (
     if (decide (0<Zw.count))=true then
      (Sh.get l8 t22).bind λdN=>
      if (decide (Zw.count<dN))=true then
       some true
      else
       some (decide (999999<Zw.count))
     else
      some false
    ).bind λt78=>
    if t78=true then
     some (Sum.inl (Sum.inl ([],false)))
    else
     (Sh.get l8 t22).bind λdO=>
     if (decide (dO=0))=true then
      (Sh.app U4 [t22] 8).bind λVl=>
      some (Sum.inr Vl)
     else
      some (Sum.inr U4)
   ) (id) λZx=>
   A1 l8 p0 n (Sh.w (t22+1)) Zx
  else
   some (Sum.inr U4)
def Ay (W0:Cell)(p0:(List Cell)):Nat->Int->(List Int)->Option (List Int)
 | 0,_,_=>none
 | n+1,WR,l106=>
  if (decide (WR<(Sh.len W0.fields)))=true then
   (
    Option.bind (Sh.get W0.fields WR) λbJ=>
    (Cs p0 bJ).bind λWA=>
    if WA.2=true then
     (Sh.get l106 WA.1).bind λXj=>
     some (Sh.put l106 WA.1 (Sh.w (Xj+1)))
    else
     some l106
   ).bind λXD=>
   Ay W0 p0 n (Sh.w (WR+1)) XD
  else
   some l106
def Ax (N:Nat)(p0:(List Cell)):Nat->Int->(List Int)->Option (((List Int)×Bool) ⊕ (List Int))
 | 0,_,_=>none
 | n+1,t6,l7=>
  if (decide (t6<(Sh.len p0)))=true then
   (Sh.get p0 t6).bind λW0=>
   (Cx N p0 W0).bind λcB=>
   if (!cB)=true then
    some (Sum.inl ([],false))
   else
    (Ay W0 p0 N 0 l7).bind λXE=>
    Ax N p0 n (Sh.w (t6+1)) XE
  else
   some (Sum.inr l7)
def B6 (N:Nat)(p0:(List Cell)):Option ((List Int)×Bool):=
 (Sh.mk 0 (Sh.len p0) 8).bind λl3=>
 Sh.cont (Ax N p0 N 0 l3) (id) λl8=>
 (
  if (decide (0<(Sh.len p0)))=true then
   (Sh.get p0 (Sh.w ((Sh.len p0)-1))).bind λcC=>
   some (decide (cC.count=0))
  else
   some false
 ).bind λt12=>
 if t12=true then
  some ([],false)
 else
  (BO l8).bind λU1=>
  Sh.cont (A1 l8 p0 N 0 []) (id) λWy=>
  (Az N p0 N 0 U1 Wy).bind λUg=>
  some (l8,decide (Ug=(Sh.len p0)))
def Cv (N:Nat)(p0:(List Cell)):Option (Bool):=
 (B6 N p0).bind λq3=>
 some q3.2
def Bb (p0:(List Int))(p1:(List Int)):Nat->Int->Option ((Bool) ⊕ (Unit))
 | 0,_=>none
 | n+1,i10=>
  if (decide (i10<(Sh.len p0)))=true then
   (Sh.get p0 i10).bind λcD=>
   (Sh.get p1 i10).bind λYx=>
   if (!decide (cD=Yx))=true then
    some (Sum.inl false)
   else
    Bb p0 p1 n (Sh.w (i10+1))
  else
   some (Sum.inr ())
def DK (N:Nat)(p0:(List Int))(p1:(List Int)):Option (Bool):=
 if (!decide ((Sh.len p0)=(Sh.len p1)))=true then
  some false
 else
  Sh.cont (Bb p0 p1 N 0) (id) λ()=>
  some true
end RC
namespace RC
def DH (p0:Aj)(p1:Int):Option (Int):=
 (DR p0.words p1).bind λq3=>
 if (decide (q3<0))=true then
  some (-1)
 else
  (DR p0.free q3).bind λq9=>
  if (decide (q9<0))=true then
   some (-1)
  else
   some q9
def CF (N:Nat)(p0:Aj):Option (Aj):=
 (DM N p0.words).bind λq4=>
 (DM N p0.free).bind λq6=>
 some (Aj.mk q4 q6)
def CB (p0:(List Int))(p1:Int):Option (Int):=
 (Sh.get p0 (Sh.w (p1+1))).bind λc3=>
 some (Int.tmod c3 4)
def BU (p0:(List Int)):Nat->Int->(List Int)->Option (((List Int)×Bool) ⊕ (List Int))
 | 0,_,_=>none
 | n+1,WI,l6=>
  if (decide (WI<(Sh.len p0)))=true then
   (
    if (decide ((Sh.len p0)<(Sh.w (WI+2))))=true then
     some true
    else
     (Sh.get p0 WI).bind λZN=>
     if (decide (ZN<0))=true then
      some true
     else
      (Sh.get p0 (Sh.w (WI+1))).bind λbK=>
      if (decide (bK<0))=true then
       some true
      else
       (CB p0 WI).bind λbL=>
       some (decide ((Sh.len p0)<(Sh.w ((Sh.w (WI+2))+bL))))
   ).bind λt15=>
   if t15=true then
    some (Sum.inl ([],false))
   else
    (Sh.app l6 [WI] 8).bind λWp=>
    (CB p0 WI).bind λbM=>
    BU p0 n (Sh.w ((Sh.w (WI+2))+bM)) Wp
  else
   some (Sum.inr l6)
def Bm (N:Nat)(p0:(List Int)):Option ((List Int)×Bool):=
 Sh.cont (BU p0 N 0 []) (id) λl7=>
 some (l7,true)
def Bv (p0:(List Int))(p1:Int):Nat->Int->Option ((Int) ⊕ (Unit))
 | 0,_=>none
 | n+1,i4=>
  if (decide (i4<(Sh.len p0)))=true then
   (Sh.get p0 i4).bind λXB=>
   if (decide (XB=p1))=true then
    some (Sum.inl i4)
   else
    Bv p0 p1 n (Sh.w (i4+1))
  else
   some (Sum.inr ())
def C5 (N:Nat)(p0:(List Int))(p1:Int):Option (Int):=
 Sh.cont (Bv p0 p1 N 0) (id) λ()=>
 some (-1)
def Dq (N:Nat)(p0:(List Int))(p1:Int):Option (Int×Bool):=
 (BV p1).bind λq4=>
 if (!q4)=true then
  some (p1,true)
 else
  (C5 N p0 (Sh.w (p1-1000))).bind λXQ=>
  some (Sh.w (1000+XQ),decide (0<=XQ))
def Bw (N:Nat)(W1:Int)(p0:(List Int))(p1:(List Int)):Nat->Int->(List Int)->Option (((List Cell)×Bool) ⊕ (List Int))
 | 0,_,_=>none
 | n+1,Yj,l22=>
  (CB p0 W1).bind λfc=>
  if (decide (Yj<fc))=true then
   (Sh.get p0 (Sh.w ((Sh.w (W1+2))+Yj))).bind λUP=>
   (Dq N p1 UP).bind λWo=>
   (
    if (!Wo.2)=true then
     some true
    else
     (Sh.get p0 W1).bind λdP=>
     if (decide (dP=0))=true then
      some (!decide (Wo.1=0))
     else
      some false
   ).bind λt41=>
   if t41=true then
    some (Sum.inl ([],false))
   else
    (Sh.app l22 [Wo.1] 8).bind λV9=>
    Bw N W1 p0 p1 n (Sh.w (Yj+1)) V9
  else
   some (Sum.inr l22)
def Bx (N:Nat)(p0:(List Int))(p1:(List Int)):Nat->Int->(List Cell)->Option (((List Cell)×Bool) ⊕ (List Cell))
 | 0,_,_=>none
 | n+1,i5,l6=>
  if (decide (i5<(Sh.len p1)))=true then
   Sh.cont (
    (Sh.get p1 i5).bind λW1=>
    Sh.cont (Bw N W1 p0 p1 N 0 []) (λx=>Sum.inl (Sum.inl x)) λU4=>
    (Sh.get p0 W1).bind λYL=>
    if (decide (YL=0))=true then
     (Sh.app l6 ([Cell.mk 0 0 []]) 40).bind λWG=>
     some (Sum.inr WG)
    else
     (Sh.get p0 (Sh.w (W1+1))).bind λXC=>
     (Sh.app l6 [Cell.mk YL (Sh.w (Int.tdiv XC 4)) U4] 40).bind λZO=>
     some (Sum.inr ZO)
   ) (id) λVU=>
   Bx N p0 p1 n (Sh.w (i5+1)) VU
  else
   some (Sum.inr l6)
def DX (N:Nat)(p0:(List Int))(p1:(List Int)):Option ((List Cell)×Bool):=
 Sh.cont (Bx N p0 p1 N 0 []) (id) λl7=>
 some (l7,true)
def CD (p0:(List Cell)):Nat->Int->Option (Int)
 | 0,_=>none
 | n+1,n4=>
  (
   if (decide (0<n4))=true then
    (Sh.get p0 (Sh.w (n4-1))).bind λYi=>
    some (decide (Yi.count=0))
   else
    some false
  ).bind λt11=>
  if t11=true then
   CD p0 n (Sh.w (n4-1))
  else
   some n4
def Ew (N:Nat)(p0:(List Cell)):Option (List Cell):=
 (CD p0 N (Sh.len p0)).bind λn5=>
 (Sh.sl p0 0 n5).bind λl8=>
 some l8
def B9 (p0:(List Int))(p1:(List Int))(p2:Int):Nat->Int->(List Int)->Option (List Int)
 | 0,_,_=>none
 | n+1,i5,l6=>
  if (decide (i5<(Sh.len p1)))=true then
   (
    Option.bind (
     (Sh.get p1 i5).bind λZM=>
     (Sh.get p0 ZM).bind λZN=>
     if (decide (ZN=0))=true then
      (CB p0 ZM).bind λYz=>
      some (decide (Yz=p2))
     else
      some false
    ) λt17=>
    if t17=true then
     (Sh.get p1 i5).bind λbN=>
     (Sh.app l6 [bN] 8).bind λVj=>
     some Vj
    else
     some l6
   ).bind λVU=>
   B9 p0 p1 p2 n (Sh.w (i5+1)) VU
  else
   some l6
def Dv (N:Nat)(p0:(List Int))(p1:(List Int))(p2:Int):Option (List Int):=
 (B9 p0 p1 p2 N 0 []).bind λl7=>
 some l7
def CV (p0:(List Int))(p1:Int):Nat->Int->Option ((Bool) ⊕ (Unit))
 | 0,_=>none
 | n+1,i4=>
  if (decide (i4<(Sh.len p0)))=true then
   (Sh.get p0 i4).bind λXB=>
   if (decide (XB=p1))=true then
    some (Sum.inl true)
   else
    CV p0 p1 n (Sh.w (i4+1))
  else
   some (Sum.inr ())
def Dh (N:Nat)(p0:(List Int))(p1:Int):Option (Bool):=
 Sh.cont (CV p0 p1 N 0) (id) λ()=>
 some false
def B1 (N:Nat)(p0:(List Int))(p2:(List Int)):Nat->Int->(List Int)->Option ((Bool) ⊕ (List Int))
 | 0,_,_=>none
 | n+1,Us,l5=>
  if (!decide (Us=0))=true then
   (
    Option.bind (Dh N p2 (Sh.w (Us-1))) λfe=>
    if (!fe)=true then
     some true
    else
     (Dh N l5 (Sh.w (Us-1))).bind λXR=>
     some XR
   ).bind λt15=>
   if t15=true then
    some (Sum.inl false)
   else
    (Sh.app l5 [Sh.w (Us-1)] 8).bind λWp=>
    (Sh.get p0 Us).bind λaW=>
    B1 N p0 p2 n (Sh.w (Int.tdiv aW 4)) Wp
  else
   some (Sum.inr l5)
def DW (N:Nat)(p0:(List Int))(p1:Int)(p2:(List Int)):Option (Bool):=
 Sh.cont (B1 N p0 p2 N p1 []) (id) λl6=>
 some (decide ((Sh.len l6)=(Sh.len p2)))
def BS (N:Nat)(p0:Aj)(q3:(List Int)×Bool):Nat->Int->Option ((Bool) ⊕ (Unit))
 | 0,_=>none
 | n+1,U3=>
  if (decide (U3<=3))=true then
   (Sh.get p0.free U3).bind λYK=>
   (Dv N p0.words q3.1 U3).bind λXh=>
   (DW N p0.words YK Xh).bind λWQ=>
   if (!WQ)=true then
    some (Sum.inl false)
   else
    BS N p0 q3 n (Sh.w (U3+1))
  else
   some (Sum.inr ())
def CQ (N:Nat)(p0:Aj):Option (Bool):=
 (Bm N p0.words).bind λq3=>
 (
  if (!q3.2)=true then
   some true
  else
   some (!decide ((Sh.len p0.free)=4))
 ).bind λt6=>
 if t6=true then
  some false
 else
  (DX N p0.words q3.1).bind λU9=>
  (
   if (!U9.2)=true then
    some true
   else
    (Ew N U9.1).bind λaV=>
    (B7 N aV).bind λcE=>
    some (!cE)
  ).bind λt14=>
  if t14=true then
   some false
  else
   Sh.cont (BS N p0 q3 N 0) (id) λ()=>
   some true
def Dg (p0:Int):Option (Bool):=
 some (!decide (p0=0))
def Am (p0:(List Int)):Nat->Int->Option ((Int) ⊕ (Unit))
 | 0,_=>none
 | n+1,t4=>
  if (decide (t4<(Sh.len p0)))=true then
   (Sh.get p0 t4).bind λZy=>
   (Dg Zy).bind λZz=>
   if Zz=true then
    some (Sum.inl t4)
   else
    Am p0 n (Sh.w (t4+1))
  else
   some (Sum.inr ())
def Bs (N:Nat)(p0:(List Int)):Option (Int):=
 Sh.cont (Am p0 N 0) (id) λ()=>
 some (-1)
def Be (N:Nat)(p0:(List Int)):Option (Bool):=
 (Bs N p0).bind λq3=>
 some (decide (0<=q3))
def C4 (N:Nat)(p0:(List Int)):Option (Bool):=
 (Be N p0).bind λq3=>
 some (!q3)
def Av (VU:(List (Int×Bool)))(p0:Aj)(p2:(List Int)):Nat->Int->Option ((Bool) ⊕ (Unit))
 | 0,_=>none
 | n+1,t18=>
  if (decide (t18<(Sh.len p2)))=true then
   (Sh.get p2 t18).bind λYL=>
   (
    Option.bind (Sh.get p0.words YL) λYw=>
    if (decide (Yw=0))=true then
     some (!((Sh.BK VU YL).getD false))
    else
     some false
   ).bind λt28=>
   if t28=true then
    some (Sum.inl false)
   else
    Av VU p0 p2 n (Sh.w (t18+1))
  else
   some (Sum.inr ())
def Aq (p0:Aj)(p1:Af)(t12:Int):Nat->Int->(List (Int×Bool))->Option ((Bool) ⊕ (List (Int×Bool)))
 | 0,_,_=>none
 | n+1,UW,WH=>
  if (!decide (UW=0))=true then
   (
    if (!((Sh.BK p1.index (Sh.w (UW-1))).isSome))=true then
     some true
    else
     (Sh.get p1.cells ((Sh.BK p1.index (Sh.w (UW-1))).getD 0)).bind λdQ=>
     if (!decide (dQ.count=0))=true then
      some true
     else
      (Sh.get p0.words (Sh.w ((Sh.w (UW-1))+1))).bind λcF=>
      if (!decide ((Int.tmod cF 4)=t12))=true then
       some true
      else
       some ((Sh.BK WH (Sh.w (UW-1))).getD false)
   ).bind λt52=>
   if t52=true then
    some (Sum.inl false)
   else
    (Sh.get p0.words (Sh.w ((Sh.w (UW-1))+1))).bind λZs=>
    Aq p0 p1 t12 n (Sh.w (Int.tdiv Zs 4)) (Sh.BX WH (Sh.w (UW-1)) true)
  else
   some (Sum.inr WH)
def Ar (N:Nat)(p0:Aj)(p1:Af):Nat->Int->(List (Int×Bool))->Option ((Bool) ⊕ (List (Int×Bool)))
 | 0,_,_=>none
 | n+1,t12,UX=>
  if (decide (t12<(Sh.len p0.free)))=true then
   (Sh.get p0.free t12).bind λVI=>
   Sh.cont (Aq p0 p1 t12 N VI UX) (λx=>Sum.inl x) λaX=>
   Ar N p0 p1 n (Sh.w (t12+1)) aX
  else
   some (Sum.inr UX)
def Bn (N:Nat)(p0:Aj)(p1:Af)(p2:(List Int)):Option (Bool):=
 if (!decide ((Sh.len p0.free)=4))=true then
  some false
 else
  Sh.cont (Ar N p0 p1 N 0 []) (id) λVU=>
  Sh.cont (Av VU p0 p2 N 0) (id) λ()=>
  some true
def Aw (p0:Af)(p1:Int):Option (Int×Bool):=
 (
  if (!((Sh.BK p0.index (Sh.w (p1-1000))).isSome))=true then
   some true
  else
  if (decide (p1<1000))=true then
   some true
  else
   (Sh.get p0.cells ((Sh.BK p0.index (Sh.w (p1-1000))).getD 0)).bind λXB=>
   some (decide (XB.count=0))
 ).bind λt5=>
 if t5=true then
  some (0,false)
 else
  some ((Sh.BK p0.index (Sh.w (p1-1000))).getD 0,true)
def BT (VP:(List Cell)):Nat->Int->Option (Int)
 | 0,_=>none
 | n+1,n3=>
  (
   if (decide (0<n3))=true then
    (Sh.get VP (Sh.w (n3-1))).bind λZy=>
    some (decide (Zy.count=0))
   else
    some false
  ).bind λt9=>
  if t9=true then
   BT VP n (Sh.w (n3-1))
  else
   some n3
def De (N:Nat)(VP:(List Cell)):Option (List Cell):=
 (BT VP N (Sh.len VP)).bind λn4=>
 (Sh.sl VP 0 n4).bind λl6=>
 some l6
def BR (N:Nat)(p0:Af):Option (List Cell):=
 (De N p0.cells).bind λq4=>
 some q4
def A6 (UP:Cell)(UX:(List (Int×Int)))(Uf:(List Cell))(t24:Int):Nat->Int->(List Int)->Option ((Af×Bool) ⊕ (List Int))
 | 0,_,_=>none
 | n+1,t38,l39=>
  if (decide (t38<(Sh.len UP.fields)))=true then
   Sh.cont (
    (Sh.get l39 t38).bind λcG=>
    (Dj cG).bind λff=>
    if ff=true then
     some (Sum.inr l39)
    else
     (Aw (Af.mk (Sh.put Uf t24 (Cell.mk UP.count UP.tag l39)) UX) cG).bind λXk=>
     if (!Xk.2)=true then
      some (Sum.inl (Sum.inl (Af.mk (Sh.put Uf t24 (Cell.mk UP.count UP.tag l39)) UX,false)))
     else
      some (Sum.inr (Sh.put l39 t38 (Sh.w (1000+Xk.1))))
   ) (id) λWz=>
   A6 UP UX Uf t24 n (Sh.w (t38+1)) Wz
  else
   some (Sum.inr l39)
def A5 (N:Nat)(U0:(List Cell))(UX:(List (Int×Int))):Nat->Int->(List Cell)->Option ((Af×Bool) ⊕ (List Cell))
 | 0,_,_=>none
 | n+1,t24,Uf=>
  if (decide (t24<(Sh.len U0)))=true then
   (Sh.get Uf t24).bind λUP=>
   Sh.cont (A6 UP UX Uf t24 N 0 UP.fields) (λx=>Sum.inl x) λWS=>
   A5 N U0 UX n (Sh.w (t24+1)) (Sh.put Uf t24 (Cell.mk UP.count UP.tag WS))
  else
   some (Sum.inr Uf)
def A7 (N:Nat)(p0:Aj):Nat->Int->(List Int)->(List Cell)->(List (Int×Int))->Option ((Af×Bool) ⊕ ((List Int)×(List Cell)×(List (Int×Int))))
 | 0,_,_,_,_=>none
 | n+1,Ud,l8,l9,l10=>
  if (decide (Ud<(Sh.len p0.words)))=true then
   (
    if (decide ((Sh.w ((Sh.len p0.words)-Ud))<2))=true then
     some true
    else
     (Sh.get p0.words Ud).bind λYM=>
     if (decide (YM<0))=true then
      some true
     else
      (Sh.get p0.words (Sh.w (Ud+1))).bind λXl=>
      some (decide (Xl<0))
   ).bind λt67=>
   if t67=true then
    some (Sum.inl (Af.mk l9 l10,false))
   else
    (Sh.get p0.words Ud).bind λWB=>
    (Sh.get p0.words (Sh.w (Ud+1))).bind λVz=>
    if (decide ((Sh.len p0.words)<(Sh.w ((Sh.w (Ud+2))+(Int.tmod Vz 4)))))=true then
     some (Sum.inl (Af.mk l9 l10,false))
    else
     (Sh.app l8 [Ud] 8).bind λVm=>
     Sh.cont (
      if (decide (0<WB))=true then
       (Sh.sl p0.words (Sh.w (Ud+2)) (Sh.w ((Sh.w (Ud+2))+(Int.tmod Vz 4)))).bind λcH=>
       (BO cH).bind λXy=>
       some (Sum.inr (Sh.w (Int.tdiv Vz 4),Xy))
      else
       (Sh.sl p0.words (Sh.w (Ud+2)) (Sh.w ((Sh.w (Ud+2))+(Int.tmod Vz 4)))).bind λcI=>
       (C4 N cI).bind λaY=>
       if (!aY)=true then
        some (Sum.inl (Sum.inl (Af.mk l9 (Sh.BX l10 Ud (Sh.len l9)),false)))
       else
        some (Sum.inr (0,[]))
     ) (id) λ(Xz,Vl)=>
     (Sh.app l9 [Cell.mk WB Xz Vl] 40).bind λYk=>
     A7 N p0 n (Sh.w ((Sh.w (Ud+2))+(Int.tmod Vz 4))) Vm Yk (Sh.BX l10 Ud (Sh.len l9))
  else
   some (Sum.inr (l8,l9,l10))
def Cj (N:Nat)(p0:Aj):Option (Af×Bool):=
 Sh.cont (A7 N p0 N 0 [] [] []) (id) λ(Y0,U0,UX)=>
 (Bn N p0 (Af.mk U0 UX) Y0).bind λU1=>
 if (!U1)=true then
  some (Af.mk U0 UX,false)
 else
  Sh.cont (A5 N U0 UX N 0 U0) (id) λX0=>
  (BR N (Af.mk X0 UX)).bind λXh=>
  (Cv N Xh).bind λWQ=>
  some (Af.mk X0 UX,WQ)
def DF (N:Nat)(p0 p1:Aj):Option (Bool):=
 (DK N p0.words p1.words).bind λq4=>
 if (!q4)=true then
  some false
 else
  (DK N p0.free p1.free).bind λU9=>
  if (!U9)=true then
   some false
  else
   some true
end RC
namespace RC
def EC (N:Nat)(p0:Aj)(p1:Int):Option (Bool):=
 (Bm N p0.words).bind λq3=>
 (
  Option.bind (BV p1) λq7=>
  if q7=true then
   (Dh N q3.1 (Sh.w (p1-1000))).bind λq9=>
   if q9=true then
    (Sh.get p0.words (Sh.w (p1-1000))).bind λcJ=>
    some (decide (0<cJ))
   else
    some false
  else
   some false
 ).bind λt5=>
 some t5
def Dy (N:Nat)(p0:Aj)(p1:Int):Option (Int):=
 (
  Option.bind (CQ N p0) λfg=>
  if (!fg)=true then
   some true
  else
   (EC N p0 p1).bind λZz=>
   some (!Zz)
 ).bind λt4=>
 if t4=true then
  some (-1)
 else
  (Bm N p0.words).bind λq9=>
  (C5 N q9.1 (Sh.w (p1-1000))).bind λU9=>
  some U9
def Dx (N:Nat)(p0:Aj)(p1:Int):Option (Int):=
 (Cj N p0).bind λq3=>
 if (!q3.2)=true then
  some (-1)
 else
  (Aw q3.1 p1).bind λU9=>
  if (!U9.2)=true then
   some (-1)
  else
   some U9.1
def Cb (N:Nat)(p0:Aj)(p1:Int):Option (Bool):=
 (DH p0 1048576).bind λq4=>
 if (decide (q4<0))=true then
  some true
 else
  (CF N p0).bind λXQ=>
  (Dy N XQ p1).bind λU9=>
  (CF N p0).bind λV8=>
  (Dx N V8 p1).bind λZp=>
  if (!decide (Zp=U9))=true then
   some false
  else
   (CF N p0).bind λXR=>
   (DF N V8 XR).bind λYz=>
   if (!Yz)=true then
    some false
   else
    some true
end RC
namespace Go.Abs
open Go
section
variable {P : Program} {F : Nat -> Prop} {os : List Own} {s : St} {a : Act} {w : World} {k : Nat}
def CR (F:Nat->Prop)(os:List Own)(b:Nat):Prop:=F b∨∃o:Own,o∈os/\o.owns b
inductive N3 (st:List Row):AV->AV->Prop
 | val {c:AV} (h:BQ c=true):N3 st c (Hd c)
 | own {id g n:Nat} {row:Row} (hr:st[id]?=some row) (hg:row.gen=g) (hp:Au row.xs):N3 st (.own id g n) (.sl (DS (row.xs.drop (row.xs.length-n))))
theorem Kw (hr:Rel F os s a w){id g n:Nat}{o:Own}(ho:os[id]?=some o)(hg:o.row.gen=g)(hn:n=o.row.xs.length){ys:List (List AV)}(hlen:ys.length=o.row.xs.length)
  (Um :∀(i:Nat) x y,o.row.xs[i]?=some x->ys[i]?=some y->y.length=x.length/\∀(j:Nat) c d,x[j]?=some c->y[j]?=some d->N3 s.st c d) {u:Value} (e2:AF F w os (.own id g n) u):AF (CR F os) w os (.sl ys) u:=by
 have T6:=hr.rows id o ho;have W8:∀b,F b->CR F os b:=λ_ h=>.inl h;have hl:∀(i:Nat) (q:Own),os[i]?=some q->∀b,q.owns b->CR F os b:=λi q hq b hb=>.inr ⟨q,Ro hq,hb⟩;have hm:∀x v,AF F w os x v->AF (CR F os) w os x v:=λx v h=>A8 W8 (λ_ _=>rfl) os os (B2 os) x v h;simp only[AF]at e2⊢;obtain⟨o',UZ,_,_,e2⟩:=e2;rw[ho]at UZ;cases UZ;obtain⟨_,hv⟩:=e2 hg;subst hn;simp only[Sy,T0,Nat.sub_zero]at hv;rcases hv with ⟨hb,Vf,ad,rfl⟩|⟨b,hb,rfl⟩
 ·have h0:ys=[]:=SO (by rw[hlen,Vf];rfl);subst h0;exact⟨ad,0,by rw[Vf],by simp,by simp⟩
 ·obtain⟨_,cur,UK,Uc,hle,_,UJ⟩:=T6.some b hb;have T9:∀(i:Nat) y,ys[i]?=some y->∃x,o.row.xs[i]?=some x:=λi y hy=>by
   have hi:=(Rq.1 hy).1;exact⟨o.row.xs[i],Rt (by omega)⟩
  have ax:∀y∈ys,y.length=o.row.size:=λy hy=>by
   obtain⟨i,hi⟩:=Sz hy;obtain⟨x,hx⟩:=T9 i y hi;rw[(Um i x y hx hi).1];exact (T6.lens x (Ro hx)).1
  refine⟨_,o.cap,by rw[hlen],by rw[hlen];exact hle,λ_=>⟨b,0,o.row.size,rfl,hl id o ho b (.inl hb),ax,?_⟩⟩;refine Di ax λi y hy=>DQ λj d hd=>?_;obtain⟨x,hx⟩:=T9 i y hy;obtain⟨iF,hc⟩:=Um i x y hx hy;have Vr:j<x.length:=by rw[<- iF];exact (Rq.1 hd).1
  obtain⟨c,YJ⟩ :∃c,x[j]?=some c:=⟨x[j],Rt Vr⟩
  have hk:=(T6.lens x (Ro hx)).2 c (Ro YJ);obtain⟨u,f1,f2⟩:=UJ i x hx j c YJ;have XF:w.cell? ⟨b,0+i*o.row.size+j,none⟩=some u:=by
   rw[TM w b _ cur _ _ UK,TO];exact f1
  generalize ji:d=d' at *;cases hc j c d' YJ hd with
  | val hs=>
   by_cases hdv :∃el sz zs,c=.dv el sz zs
   ·obtain⟨el,sz,zs,rfl⟩:=hdv;obtain⟨-,D,d1,_,d3⟩:=T6.deep;obtain⟨u',q1,q2⟩:=d3 b hb cur _ _ UK i x j el sz zs hx YJ;rw[f1]at q1;cases q1;obtain⟨g1,g2⟩:=IC (F:=CR F os) (λc hc=>hl id o ho c (.inr (d1 _ _ _ hc))) _ u q2;exact⟨u,XF,g2,g1⟩
   ·have V1:simple c=true:=by cases c<;>simp_all [BQ]
    rw[EM V1];exact⟨u,XF,by cases c<;>simp_all [AV.kept],CP V1 [] (hm _ _ f2)⟩
  | @own id2 g2 n2 row hr2 hg2 hp2=>
   obtain⟨o2,XA,rfl⟩:=hr.row hr2;have:=IH hr W8 XA (λb hb=>hl id2 o2 XA b hb) hp2 f2 hg2;exact⟨u,XF,rfl,CP rfl [] this⟩
inductive LX (st:List Row):List AV->List AV->Prop
 | nil:LX st [] []
 | val {c:AV} {r r':List AV} (h:simple c=true) (hl:LX st r r'):LX st (c::r) (c::r')
 | own {β:Type} {l:List β} {enc:β->List AV} {id g size m:Nat} {el:TypeId} {r r':List AV} (hr:st[id]?=some ⟨g,el,size,l.map enc⟩) (hm:m=l.length) (hp :∀x,(enc x).all simple=true) (hl:LX st r r'):LX st (.own id g m::r) (.sl (l.map enc)::r')
theorem LX.spec {st:List Row}{x y:List AV}(h:LX st x y):y.length=x.length/\∀(j:Nat) c d,x[j]?=some c->y[j]?=some d->N3 st c d:=by
 induction h with
 | nil=>exact⟨rfl,by simp⟩
 | @val c r r' h _ ih=>
  refine⟨by simp[ih.1],λj a b ha hb=>?_⟩;cases j with
  | zero=>
   simp only[R6,Rr]at ha hb;subst ha;subst hb;have:=N3.val (st:=st) (EY h);rwa [EM h]at this
  | succ j=>exact ih.2 j a b (by simpa using ha) (by simpa using hb)
 | @own β l enc id g size m el r r' hr hm hp _ ih=>
  refine⟨by simp[ih.1],λj a b ha hb=>?_⟩;cases j with
  | zero=>
   simp only[R6,Rr]at ha hb;subst ha;subst hb;subst hm;have:=N3.own (st:=st) (n:=l.length) hr rfl (AK hp).any;simpa [Mm (AK hp)] using this
  | succ j=>exact ih.2 j a b (by simpa using ha) (by simpa using hb)
inductive LE (st:List Row):AV->AV->Prop
 | val {v:AV} (h:simple v=true):LE st v v
 | own {α:Type} {l:List α} {enc enc':α->List AV} {id g size m:Nat} {el:TypeId} (hr:st[id]?=some ⟨g,el,size,l.map enc⟩) (hm:m=l.length) (hp :∀x,(enc x).all BQ=true) (hu :∀x,Da (enc x)=enc' x):LE st (.own id g m) (.sl (l.map enc'))
 | hol {α:Type} {l:List α} {enc enc':α->List AV} {id g size m:Nat} {el:TypeId} {J:Int} {x y:List AV} {c u:α} (hr:st[id]?=some ⟨g,el,size,hole l enc J x⟩) (hm:m=l.length) (hp :∀x,(enc x).all BQ=true) (hu :∀x,Da (enc x)=enc' x) (hi:Sh.get l J=some c) (hy:enc' u=y) (hx:LX st x y):LE st (.own id g m) (.sl ((Sh.put l J u).map enc'))
theorem LE.spec {v v':AV}(h:LE s.st v v')(hr:Rel F os s a w){u:Value}(hv:AF F w os v u):AF (CR F os) w os v' u/\simple v'=true:=by
 cases h with
 | val h=>exact⟨A8 (λ_ h=>.inl h) (λ_ _=>rfl) os os (B2 os) _ _ hv,h⟩
 | @own α l enc enc' id g size m el T4 hm hp hu=>
  obtain⟨o,ho,hor⟩:=hr.row T4;refine⟨Kw hr ho (by rw[hor]) (by rw[hor,hm];simp) (by rw[hor];simp) (λi x y hx hy=>?_) hv,rfl⟩;rw[hor,Rs,Rv]at hx;obtain⟨q,hq,rfl⟩:=hx;rw[Rs,hq]at hy;simp only[SG,Rr]at hy;subst hy;refine⟨by rw[<- hu,DD,SF],λj c d hc hd=>?_⟩;rw[<- hu,DD,Rs,hc]at hd;simp only[SG,Rr]at hd;subst hd;exact .val (Ry.1 (hp q) c (Ro hc))
 | @hol α l enc enc' id g size m el J x y c u T4 hm hp hu hi hy hx=>
  obtain⟨o,ho,hor⟩:=hr.row T4;refine⟨Kw hr ho (by rw[hor]) (by rw[hor,hm];simp[hole]) (by rw[hor];simp[hole,Sh.put]) (λi x1 y1 Xm bO=>?_) hv,rfl⟩;rw[hor]at Xm;simp only[hole,Sh.put,Sf]at Xm bO;by_cases e:J.toNat=i
  ·subst e;have h1:=(Rq.1 Xm).1;simp only[Tk,SF]at h1;rw[Rw (by simpa using h1),Rr]at Xm bO;subst Xm;subst bO;subst hy;exact hx.spec
  ·rw[R2 e,Rs,Rv]at Xm bO;obtain⟨q,hq,rfl⟩:=Xm;obtain⟨q',Wh,rfl⟩:=bO;rw[hq]at Wh;cases Wh;refine⟨by rw[<- hu,DD,SF],λj c d hc hd=>?_⟩;rw[<- hu,DD,Rs,hc]at hd;simp only[SG,Rr]at hd;subst hd;exact .val (Ry.1 (hp q) c (Ro hc))
inductive LC (st:List Row):List AV->List AV->Prop
 | nil:LC st [] []
 | cons {a b:AV} {as bs:List AV} (h:LE st a b) (hl:LC st as bs):LC st (a::as) (b::bs)
theorem LC.spec {xs ys:List AV}(h:LC s.st xs ys)(hr:Rel F os s a w):∀{us:List Value},Ad F w os xs us->Ad (CR F os) w os ys us/\ys.all simple=true:=by
 induction h with
 | nil=>intro us hu;exact⟨by simpa [Ad] using hu,rfl⟩
 | cons h _ ih=>
  intro us hu;simp only[Ad]at hu⊢;obtain⟨u,VR,e,h1,h2⟩:=hu;obtain⟨g1,g2⟩:=h.spec hr h1;obtain⟨g3,g4⟩:=ih h2;exact⟨⟨u,VR,e,g1,g3⟩,by simp[g2,g4]⟩
inductive LA (st:List Row):List AV->List AV->Prop
 | nil:LA st [] []
 | one {a b:AV} {as bs:List AV} (h:LE st a b) (hl:LA st as bs):LA st (a::as) (b::bs)
 | agg {cs ds as bs:List AV} (h:LC st cs ds) (hl:LA st as bs):LA st (.agg cs::as) (.agg ds::bs)
theorem Ll {v:AV}(h:simple v=true):flat v=true:=by cases v<;>simp_all [simple,flat]
theorem LA.spec {xs ys:List AV}(h:LA s.st xs ys)(hr:Rel F os s a w):∀{us:List Value},Ad F w os xs us->Ad (CR F os) w os ys us/\ys.all flat=true:=by
 induction h with
 | nil=>intro us hu;exact⟨by simpa [Ad] using hu,rfl⟩
 | one h _ ih=>
  intro us hu;simp only[Ad]at hu⊢;obtain⟨u,VR,e,h1,h2⟩:=hu;obtain⟨g1,g2⟩:=h.spec hr h1;obtain⟨g3,g4⟩:=ih h2;exact⟨⟨u,VR,e,g1,g3⟩,by simp[Ll g2,g4]⟩
 | agg h _ ih=>
  intro us hu;simp only[Ad]at hu⊢;obtain⟨u,VR,e,h1,h2⟩:=hu;simp only[AF]at h1;obtain⟨vs,e1,h1⟩:=h1;obtain⟨g1,g2⟩:=h.spec hr h1;obtain⟨g3,g4⟩:=ih h2;exact⟨⟨u,VR,e,by simp only[AF];exact⟨vs,e1,g1⟩,g3⟩,by simp only[Ts,g4,Bool.and_true];exact g2⟩
theorem NZ {f:FuncId}{args:List AV}{R:AV->List Row->Prop}(h:AY P f args [] R)(hf:args.all flat=true){vs:List Value}(hr:Rel F os s a w)(Vg:Ad (CR F os) w os args vs):
  Calls P f vs.toArray w λe w'=>∃u r st' F' UU,e=.returned u/\R r st'/\Rel F os s a w'/\CA F' UU st' w'/\AF F' w' UU r u/\(∀b,F b->F' b)/\Ext F os w F os w' k/\
   (∀(i:Nat) (o:Own),os[i]?=some o->∀b,o.owns b->∀o1:Own,o1∈UU->¬ o1.owns b)/\∀b,b<w.heap.size->¬ F b->(∀o:Own,o∈os->¬ o.owns b)->∀o1:Own,o1∈UU->¬ o1.owns b:=by
 have W8:∀b,F b->CR F os b:=λ_ h=>.inl h;have UM:∀(i:Nat) (o:Own) b,os[i]?=some o->o.owns b->b<w.heap.size:=λi o b hi hb=>(hr.rows i o hi).lt hb;have Uy:∀(i:Nat) (o:Own),os[i]?=some o->∀b,o.owns b->CR F os b:=λi o ho b hb=>.inr ⟨o,Ro ho,hb⟩;have YD:∀b,CR F os b->b<w.heap.size:=λb hb=>by
  rcases hb with hb|⟨o,ho,W3⟩
  ·exact hr.CL b hb
  ·obtain⟨i,hi⟩:=Sz ho;exact UM i o b hi W3
 refine (h (CR F os) [] w vs (CA.nil YD) (Fk hf [] Vg)).mono ?_;rintro e w' ⟨u,r,st',F',UU,rfl,hR,hs,hru,he⟩;have T4:∀(i:Nat) (o:Own),os[i]?=some o->∀b,o.owns b->w'.heap[b]?=w.heap[b]?/\∀o1:Own,o1∈UU->¬ o1.owns b:=λi o ho b hb=>by
  have h1:=Uy i o ho b hb;refine⟨he.DC b h1,λo1 ay e=>?_⟩;obtain⟨j,hj⟩:=R5.1 ay;exact (hs.rows j o1 hj).nF e (he.FT b h1)
 have T8:∀x v,AF F w os x v->AF F w' os x v:=λx v h=>A8 (λ_ h=>h) (λb hb=>he.DC b (W8 b hb)) os os (B2 os) x v h;have VS:Rel F os s a w':=⟨hr.st,λt=>T8 _ _ (hr.env t),hr.size,λi o ho=>by
   have T6:=hr.rows i o ho;refine⟨T6.pos,T6.lens,T6.none,λb hb=>?_,λb hb=>⟨(T6.mo b hb).1,Si (T6.mo b hb).2.1 he.size,(T6.mo b hb).2.2⟩,T6.deep.keep rfl (λ_ h=>h) rfl (λb hb=>(T4 i o ho b hb).1) (λi x j e s ys hx hc=>⟨x,hx,hc⟩)⟩;obtain⟨e1,cur,e2,e3,e4,e5,e6⟩:=T6.some b hb;exact⟨e1,cur,by rw[(T4 i o ho b (.inl hb)).1];exact e2,e3,e4,e5,λi' x hx j c hc=>by obtain⟨u,f1,f2⟩:=e6 i' x hx j c hc;exact⟨u,f1,T8 _ _ f2⟩⟩,
  hr.inj,λb hb=>Si (hr.CL b hb) he.size,hr.defers⟩
 have VL:∀b,b<w.heap.size->¬ F b->(∀o:Own,o∈os->¬ o.owns b)->w'.heap[b]?=w.heap[b]?/\∀o1:Own,o1∈UU->¬ o1.owns b:=λb hb e1 e2=>by
  have Zh:¬ CR F os b:=λh=>h.elim e1 (λ⟨o,ho,W3⟩=>e2 o ho W3);obtain⟨f1,_,f3⟩:=he.other b hb Zh (by simp);exact⟨f1,f3⟩
 exact⟨u,r,st',F',UU,rfl,hR,VS,hs,hru,λb hb=>he.FT b (W8 b hb),
  ⟨he.sys,he.tape,he.output,he.size,λ_ h=>h,λb hb=>he.DC b (W8 b hb),λb hb e1 e2=>⟨(VL b hb e1 e2).1,e1,e2⟩,λi o _ ho=>⟨o,ho,R3 _,rfl,λ_=>⟨rfl,rfl,rfl⟩⟩⟩,
  λi o ho b hb=>(T4 i o ho b hb).2,λb hb e1 e2=>(VL b hb e1 e2).2⟩
theorem Js {f:FuncId}{args Uu:List AV}{d:Option Tmp}{K:St->Prop}{R:AV->List Row->Prop}(h:AY P f Uu [] R)(dR:LA s.st args Uu)
  (hK :∀r st',R r st'->(MH r=true/\∀row∈st',∀x∈row.xs,∀c∈x,Ez c=true)/\(∀row∈st',Au row.xs)/\K ({ s with st:=s.st++st' }.put d (shift s.st.length r))):callThen P k s f args d K:=by
 intro F os a w vs hr hl;obtain⟨h1,h2⟩:=dR.spec hr hl;refine (NZ (k:=k) h h2 hr h1).mono ?_;rintro e w' ⟨u,r,st',F',UU,rfl,hR,VS,hs,hru,aR,he,Uq,VL⟩;obtain⟨⟨cz,Zi⟩,hp,hk⟩:=hK r st' hR;refine⟨u,_,s.st++st',F,os++UU,rfl,hk,VS.join hs aR hp (.inr Zi) Uq,?_,?_⟩
 ·rw[hr.len];exact HO (Ky cz hru)
 ·refine⟨he.sys,he.tape,he.output,he.size,λ_ h=>h,he.DC,λb hb e1 e2=>?_,λi o hi ho=>Bz.append os UU i o ho⟩;obtain⟨f1,_,_⟩:=he.other b hb e1 e2;exact⟨f1,e1,λo ho=>by rcases SM.1 ho with h|h;exact e2 o h;exact VL b hb e1 e2 o h⟩
end
section
variable {P : Program} {k : Nat} {ops : Array Oper} {Q : Exit -> St -> Prop} {ds : List (Option Tmp)} {r : List Oper} {n : Nat} {e : Nat -> AV} {st st' rows : List Row} {ty : TypeId} {ps : String} {ed : Array Edge} {d : Option Tmp} {v v' : AV} {gd : Option (Nat × Bool)} {f : FuncId} {VG : Array Operand} {ts : Array TypeId} {args as : List AV}
theorem OO (hg:GO ds gd e)(hb:AZ P f=true)(hc:AY P f args [] λr st=>r=v/\st=rows)(ha:VG.toList.map (St.ev ⟨n,e,st⟩)++[]=as)(dR:LA st as args)(Zi:MH v=true)(hp:FF rows)(hv:shift st.length v=v')(UL:st++rows=st')
  (hk:AO P k ops Q (ds++[d]) r (St.put ⟨n,e,st'⟩ d v')):AO P k ops Q ds (⟨d,.call ⟨.value (.func f),VG,ts⟩,ty,ps,ed,gd⟩::r) ⟨n,e,st⟩:=by
 subst hv;subst UL;subst ha;refine Ei hg ?_;rw[EE];refine⟨hb,Js (R:=λr st=>r=v/\st=rows) hc dR ?_⟩;rintro r st' ⟨rfl,rfl⟩;exact⟨⟨Zi,λrow T4=>(hp.get row T4).2⟩,λrow T4=>(hp.get row T4).1,hk⟩
end
section
variable {k : Nat}
theorem Wk.Ps {id m g gm size sz n i j nn:Nat}{el Vi:TypeId}{xs ys:List (List AV)}{x:List AV}{e:Nat->AV}{st st':List Row}(T4:st[id]?=some ⟨g,el,size,xs⟩)(hx:xs[i]?=some x)(hc:x[j]?=some (.own m gm n))
  (hm:st[m]?=some ⟨gm,Vi,sz,ys⟩) (hn:n=ys.length) (Ua:id≠m) (bD:k<=m) (hp:Au ys) (UL:(st.set id ⟨g,el,size,xs.set i (x.set j (.sl (DS ys)))⟩).set m ⟨gm+1,Vi,sz,[]⟩=st') :
  Wk k ⟨nn,e,st⟩ ⟨nn,e,st'⟩:=λF os a w hr=>by
 subst UL;subst hn;obtain⟨o,ho,hor⟩:=hr.row T4;obtain⟨p,hpp,Vy⟩:=hr.row hm;have T6:=hr.rows id o ho;have Yu:=hr.rows m p hpp;have UL:os.map Own.row=st:=hr.st;have VN:o.row.xs=xs:=by rw[hor]
 have bE:p.row.xs=ys:=by rw[Vy]
 let o':Own:={ o with row:={ o.row with xs:=xs.set i (x.set j (.sl (DS ys))) } }
 let p':Own:=⟨{ p.row with gen:=p.row.gen+1,xs:=[] },none,0,Cl⟩
 let F':Nat->Prop:=λb=>F b∨p.owns b
 have hF:∀b,F b->F' b:=λ_ h=>.inl h;have W5:i<xs.length:=(Rq.1 hx).1;have Vr:j<x.length:=(Rq.1 hc).1;have VY:=(Rq.1 ho).1;have bF:=(Rq.1 hpp).1;have T9:∀(q:Nat) (oq:Own),((os.set id o').set m p')[q]?=some oq->(q≠id/\q≠m/\os[q]?=some oq)∨(q=id/\oq=o')∨(q=m/\oq=p'):=λq oq hq=>by
  by_cases e:q=m
  ·subst e;rw[Rw (by simpa using bF),Rr]at hq;exact .inr (.inr ⟨rfl,hq.symm⟩)
  ·rw[R2 (Sc e)]at hq;by_cases e2:q=id
   ·subst e2;rw[Rw VY,Rr]at hq;exact .inr (.inl ⟨rfl,hq.symm⟩)
   ·rw[R2 (Sc e2)]at hq;exact .inl ⟨e2,e,hq⟩
 have Uh:Bz os ((os.set id o').set m p'):=λq oq hq=>by
  by_cases e:q=m
  ·subst e;rw[hpp]at hq;cases hq;exact⟨p',Rw (by simpa using bF),Nat.le_succ _,rfl,λe=>by simp[p']at e⟩
  ·rw[R2 (Sc e)];by_cases e2:q=id
   ·subst e2;rw[ho]at hq;cases hq;exact⟨o',Rw VY,R3 _,rfl,λ_=>⟨rfl,rfl,by simp[o',VN]⟩⟩
   ·rw[R2 (Sc e2)];exact⟨oq,hq,R3 _,rfl,λ_=>⟨rfl,rfl,rfl⟩⟩
 have T8:∀y v,AF F w os y v->AF F' w ((os.set id o').set m p') y v:=λy v h=>A8 hF (λ_ _=>rfl) os _ Uh y v h;have Xx:∀b,p'.owns b->p.owns b:=λb hb=>by
  rcases hb with hb|hb
  ·simp[p']at hb
  ·exact hb.elim
 obtain⟨bo,V2⟩ :∃b,o.BW=some b:=by
  cases hb:o.BW with
  | none=>obtain⟨_,_,h⟩:=T6.LZ hb (i:=i) (by rw[VN];exact hx) hc;cases h
  | some b=>exact⟨b,rfl⟩
 obtain⟨Yd,cur,UK,Uc,hle,VV,UJ⟩:=T6.some bo V2;obtain⟨uv,hu1,WE⟩:=UJ i x (by rw[VN];exact hx) j _ hc;have X8:AF F' w ((os.set id o').set m p') (.sl (DS ys)) uv:=by
  have h1:=IH hr hF hpp (λb hb=>.inr hb) (by rw[bE];exact hp) WE (by rw[Vy]);rw[bE,Sy,SL]at h1;exact CP rfl _ h1
 have cK:∀(q:Nat) (oq:Own) b,q≠m->os[q]?=some oq->oq.owns b->¬ F' b:=λq oq b hq ZL hb aN=>
  aN.elim ((hr.rows q oq ZL).nF hb) λh=>hq (hr.inj q m oq p b ZL hpp hb h)
 refine⟨F',(os.set id o').set m p',⟨?_,λt=>T8 _ _ (hr.env t),hr.size,λq oq hq=>?_,λq q' oq XP b hq Wh hb US=>?_,λb hb=>?_,hr.defers⟩,⟨rfl,rfl,rfl,R3 _,hF,λ_ _=>rfl,λb _ h1 h2=>⟨rfl,?_,λoq ZL hb=>?_⟩,λq oq _ hq=>Uh q oq hq⟩⟩
 ·rw[Sf,Sf,UL];simp only[o',p',hor,Vy]
 ·rcases T9 q oq hq with ⟨_,h2,h⟩|⟨_,rfl⟩|⟨_,rfl⟩
  ·have h0:=hr.rows q oq h;refine⟨h0.pos,h0.lens,h0.none,λb hb=>?_,λb hb=>⟨cK q oq b h2 h (.inr hb),(h0.mo b hb).2⟩,h0.deep⟩;obtain⟨e1,cur,e2,e3,e4,e5,e6⟩:=h0.some b hb;exact⟨cK q oq b h2 h (.inl hb),cur,e2,e3,e4,e5,λi' y hy j' c hc=>by obtain⟨u,f1,f2⟩:=e6 i' y hy j' c hc;exact⟨u,f1,T8 _ _ f2⟩⟩
  ·refine⟨T6.pos,λy hy=>?_,(λhn=>by simp only[o']at hn;rw[V2]at hn;cases hn),λb hb=>?_,λb hb=>⟨cK id o b Ua ho (.inr hb),(T6.mo b hb).2⟩,?_⟩
   ·rcases SU hy with hy|rfl
    ·exact T6.lens y (by rw[VN];exact hy)
    ·have h0:=T6.lens x (by rw[VN];exact Ro hx);refine⟨by rw[Tk];exact h0.1,λc U7=>?_⟩;rcases SU U7 with h|rfl
     ·exact h0.2 c h
     ·rfl
   ·simp only[o']at hb;rw[V2]at hb;cases hb;refine⟨cK id o bo Ua ho (.inl V2),cur,UK,Uc,by simpa [o',VN] using hle,VV,λi' y hy j' c U2=>?_⟩;simp only[o']at hy⊢;by_cases hi:i'=i
    ·subst hi;rw[Rw W5,Rr]at hy;subst hy;by_cases hj:j'=j
     ·subst hj;rw[Rw Vr,Rr]at U2;subst U2;exact⟨uv,hu1,X8⟩
     ·rw[R2 (Sc hj)]at U2;obtain⟨u,f1,f2⟩:=UJ i' x (by rw[VN];exact hx) j' c U2;exact⟨u,f1,T8 _ _ f2⟩
    ·rw[R2 (Sc hi)]at hy;obtain⟨u,f1,f2⟩:=UJ i' y (by rw[VN];exact hy) j' c U2;exact⟨u,f1,T8 _ _ f2⟩
   ·refine T6.deep.keep rfl (λ_ h=>h) rfl (λ_ _=>rfl) λi' y j' e2 s2 zs hy U2=>?_;simp only[o']at hy;rw[VN];by_cases hi:i'=i
    ·subst hi;rw[Rw W5,Rr]at hy;subst hy;by_cases hj:j'=j
     ·subst hj;rw[Rw Vr,Rr]at U2;cases U2
     ·rw[R2 (Sc hj)]at U2;exact⟨x,hx,U2⟩
    ·rw[R2 (Sc hi)]at hy;exact⟨y,hy,U2⟩
  ·exact⟨Yu.pos,by simp[p'],by simp[p'],by simp[p'],λb hb=>hb.elim,B3 (by simp[p'])⟩
 ·have Wn:∀b,o'.owns b->o.owns b:=λb hb=>hb;rcases T9 q oq hq with ⟨q1,q2,h⟩|⟨rfl,rfl⟩|⟨rfl,rfl⟩<;>rcases T9 q' XP Wh with ⟨q1',q2',h'⟩|⟨rfl,rfl⟩|⟨rfl,rfl⟩
  ·exact hr.inj q q' oq XP b h h' hb US
  ·exact hr.inj q _ oq o b h ho hb (Wn b US)
  ·exact hr.inj q _ oq p b h hpp hb (Xx b US)
  ·exact hr.inj _ q' o XP b ho h' (Wn b hb) US
  ·rfl
  ·exact hr.inj _ _ o p b ho hpp (Wn b hb) (Xx b US)
  ·exact hr.inj _ q' p XP b hpp h' (Xx b hb) US
  ·exact hr.inj _ _ p o b hpp ho (Xx b hb) (Wn b US)
  ·rfl
 ·exact hb.elim (hr.CL b) λh=>Yu.lt h
 ·exact λaN=>aN.elim h1 λh=>h2 p (Ro hpp) h
 ·obtain⟨q,hq⟩:=R5.1 ZL;rcases T9 q oq hq with ⟨_,_,h⟩|⟨_,rfl⟩|⟨_,rfl⟩
  ·exact h2 oq (Ro h) hb
  ·exact h2 o (Ro ho) hb
  ·exact h2 p (Ro hpp) (Xx b hb)
theorem DL {α:Type}{l:List α}{enc enc':α->List AV}{id m g gm size sz n j nn:Nat}{el Vi:TypeId}{x:List AV}{e:Nat->AV}{st st':List Row}(T4:st[id]?=some ⟨g,el,size,[x]⟩)(hc:x[j]?=some (.own m gm n))
  (hm:st[m]?=some ⟨gm,Vi,sz,l.map enc⟩) (hn:n=l.length) (Ua:id≠m) (bD:k<=m) (hp :∀x,(enc x).all BQ=true) (hu :∀x,Da (enc x)=enc' x) (UL:(st.set id ⟨g,el,size,[x.set j (.sl (l.map enc'))]⟩).set m ⟨gm+1,Vi,sz,[]⟩=st') :
  Wk k ⟨nn,e,st⟩ ⟨nn,e,st'⟩:=by
 refine Wk.Ps (i:=0) T4 rfl hc hm (by simp[hn]) Ua bD (Bi hp) ?_;have h1:DS (l.map enc)=l.map enc':=by
  rw[CO,Sx];exact R8 λx _=>hu x
 rw[h1];exact UL
end
end Go.Abs
