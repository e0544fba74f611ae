import Derived.Test.YtgiajkaabnbieaaGreatSufF
set_option linter.all false
namespace RC
def Hg (p0:(List Int))(p1:Int):Option (Int):=
 if (decide ((Sh.w (p1-(Sh.len p0)))<0))=true then
  some (-1)
 else
  some (Sh.w (p1-(Sh.len p0)))
def FR (p0:(List Int)):Nat->Int->(List Int)->Option (List Int)
 | 0,_,_=>none
 | n+1,i6,l7=>
  if (decide (i6<(Sh.len p0)))=true then
   (Sh.get p0 i6).bind λsY=>
   (Sh.get l7 i6).bind λrQ=>
   FR p0 n (Sh.w (i6+1)) (Sh.put l7 i6 sY)
  else
   some l7
def HV (N:Nat)(p0:(List Int)):Option (List Int):=
 (Sh.mk 0 (Sh.len p0) 8).bind λl3=>
 (FR p0 N 0 l3).bind λl8=>
 some l8
def Bd (p0 p1 p2:Int):Option (Bool):=
 (
  if (decide (p1<=p0))=true then
   some (decide (p0<=p2))
  else
   some false
 ).bind λt3=>
 some t3
def Tl (p0:(List Int)):Nat->Int->Option ((Bool) ⊕ (Unit))
 | 0,_=>none
 | n+1,i4=>
  if (decide (i4<(Sh.len p0)))=true then
   (Sh.get p0 i4).bind λuY=>
   if (!decide (uY=0))=true then
    some (Sum.inl false)
   else
    Tl p0 n (Sh.w (i4+1))
  else
   some (Sum.inr ())
def Bz (p0:(List Int)):Option (List Int):=
 (Sh.app ([]:List Int) p0 8).bind λl6=>
 some l6
def FQ (p0:(List Int))(p1:(List Int)):Nat->Int->Option ((Bool) ⊕ (Unit))
 | 0,_=>none
 | n+1,i10=>
  if (decide (i10<(Sh.len p0)))=true then
   (Sh.get p0 i10).bind λsZ=>
   (Sh.get p1 i10).bind λrl=>
   if (!decide (sZ=rl))=true then
    some (Sum.inl false)
   else
    FQ p0 p1 n (Sh.w (i10+1))
  else
   some (Sum.inr ())
def HY (N:Nat)(p0:(List Int))(p1:(List Int)):Option (Bool):=
 if (!decide ((Sh.len p0)=(Sh.len p1)))=true then
  some false
 else
  Sh.cont (FQ p0 p1 N 0) (id) λ()=>
  some true
end RC
namespace RC
def MB (p0:Bh)(p1:Int):Option (Int):=
 (Hg p0.fields p1).bind λq3=>
 if (decide (q3<0))=true then
  some (-1)
 else
  some q3
def F3 (p0:(List Bh)):Nat->Int->Int->Option ((Int) ⊕ (Int))
 | 0,_,_=>none
 | n+1,left9,i10=>
  if (decide (i10<(Sh.len p0)))=true then
   (Sh.get p0 i10).bind λrl=>
   (MB rl left9).bind λsT=>
   if (decide (sT<0))=true then
    some (Sum.inl (-1))
   else
    F3 p0 n sT (Sh.w (i10+1))
  else
   some (Sum.inr left9)
def LJ (N:Nat)(p0:(List Bh))(p1:Int):Option (Int):=
 if (decide ((Sh.w (p1-(Sh.len p0)))<0))=true then
  some (-1)
 else
  Sh.cont (F3 p0 N (Sh.w (p1-(Sh.len p0))) 0) (id) λsL=>
  some sL
def LB (N:Nat)(p0:Ac)(p1:Int):Option (Int):=
 (LJ N p0.cons p1).bind λq3=>
 if (decide (q3<0))=true then
  some (-1)
 else
  some q3
def Fb (N:Nat)(p0:(List Ac)):Nat->Int->Int->Option ((Int) ⊕ (Int))
 | 0,_,_=>none
 | n+1,left9,i10=>
  if (decide (i10<(Sh.len p0)))=true then
   (Sh.get p0 i10).bind λrl=>
   (LB N rl left9).bind λsT=>
   if (decide (sT<0))=true then
    some (Sum.inl (-1))
   else
    Fb N p0 n sT (Sh.w (i10+1))
  else
   some (Sum.inr left9)
def Jy (N:Nat)(p0:(List Ac))(p1:Int):Option (Int):=
 if (decide ((Sh.w (p1-(Sh.len p0)))<0))=true then
  some (-1)
 else
  Sh.cont (Fb N p0 N (Sh.w (p1-(Sh.len p0))) 0) (id) λsL=>
  some sL
def L9 (N:Nat)(p0:Bh):Option (Bh):=
 (HV N p0.fields).bind λq4=>
 some (Bh.mk q4)
def F5 (N:Nat)(p0:(List Bh)):Nat->Int->(List Bh)->Option (List Bh)
 | 0,_,_=>none
 | n+1,i6,l7=>
  if (decide (i6<(Sh.len p0)))=true then
   (Sh.get p0 i6).bind λsY=>
   (L9 N sY).bind λvO=>
   (Sh.get l7 i6).bind λvl=>
   F5 N p0 n (Sh.w (i6+1)) (Sh.put l7 i6 vO)
  else
   some l7
def Kh (N:Nat)(p0:(List Bh)):Option (List Bh):=
 (Sh.mk (Bh.mk []) (Sh.len p0) 24).bind λl3=>
 (F5 N p0 N 0 l3).bind λl8=>
 some l8
def LK (N:Nat)(p0:Ac):Option (Ac):=
 (Kh N p0.cons).bind λq6=>
 some (Ac.mk p0.from_ p0.to q6)
def Fh (N:Nat)(p0:(List Ac)):Nat->Int->(List Ac)->Option (List Ac)
 | 0,_,_=>none
 | n+1,i6,l7=>
  if (decide (i6<(Sh.len p0)))=true then
   (Sh.get p0 i6).bind λsY=>
   (LK N sY).bind λvO=>
   (Sh.get l7 i6).bind λvl=>
   Fh N p0 n (Sh.w (i6+1)) (Sh.put l7 i6 vO)
  else
   some l7
def J1 (N:Nat)(p0:(List Ac)):Option (List Ac):=
 (Sh.mk (Ac.mk 0 0 []) (Sh.len p0) 40).bind λl3=>
 (Fh N p0 N 0 l3).bind λl8=>
 some l8
def E9 (p0:(List Ac))(p1:(List Int)):Nat->Int->Option ((Bool) ⊕ (Unit))
 | 0,_=>none
 | n+1,i4=>
  if (decide (i4<(Sh.len p1)))=true then
   (Sh.get p1 i4).bind λuY=>
   (Bd uY 0 (Sh.len p0)).bind λxR=>
   if (!xR)=true then
    some (Sum.inl false)
   else
    E9 p0 p1 n (Sh.w (i4+1))
  else
   some (Sum.inr ())
def H7 (N:Nat)(p0:(List Ac))(p1:(List Int)):Option (Bool):=
 Sh.cont (E9 p0 p1 N 0) (id) λ()=>
 some true
def En (N:Nat)(c3:Ac)(p0:(List Ac)):Nat->Int->Option ((Bool) ⊕ (Unit))
 | 0,_=>none
 | n+1,i15=>
  if (decide (i15<(Sh.len c3.cons)))=true then
   (
    Option.bind (Sh.get c3.cons i15) λwL=>
    if (decide (3<(Sh.len wL.fields)))=true then
     some true
    else
     (H7 N p0 wL.fields).bind λvV=>
     some (!vV)
   ).bind λt23=>
   if t23=true then
    some (Sum.inl false)
   else
    En N c3 p0 n (Sh.w (i15+1))
  else
   some (Sum.inr ())
def Es (c3:Ac)(p0:(List Ac))(p1:Int):Nat->Int->Option ((Bool) ⊕ (Unit))
 | 0,_=>none
 | n+1,i34=>
  if (decide (i34<p1))=true then
   (
    Option.bind (Sh.get p0 i34) λuZ=>
    if (decide ((Sh.len uZ.cons)=0))=true then
     if (decide (uZ.from_=c3.from_))=true then
      some (decide (uZ.to=c3.to))
     else
      some false
    else
     some false
   ).bind λt47=>
   if t47=true then
    some (Sum.inl false)
   else
    Es c3 p0 p1 n (Sh.w (i34+1))
  else
   some (Sum.inr ())
def Iy (N:Nat)(p0:(List Ac))(p1:Int):Option (Bool):=
 (Sh.get p0 p1).bind λc3=>
 if (decide (0<(Sh.len c3.cons)))=true then
  (
   if (decide (3<(Sh.len c3.cons)))=true then
    some true
   else
   if (!decide (c3.from_=0))=true then
    some true
   else
    some (!decide (c3.to=0))
  ).bind λt9=>
  if t9=true then
   some false
  else
   Sh.cont (En N c3 p0 N 0) (id) λ()=>
   some true
 else
  Sh.cont (Es c3 p0 p1 N 0) (id) λ()=>
  (
   Option.bind (Bd c3.from_ 0 (Sh.len p0)) λq39=>
   if q39=true then
    (Bd c3.to 0 (Sh.len p0)).bind λq41=>
    some q41
   else
    some false
  ).bind λt37=>
  some t37
def EW (N:Nat)(p0:(List Ac)):Nat->Int->Option ((Bool) ⊕ (Unit))
 | 0,_=>none
 | n+1,i8=>
  if (decide (i8<(Sh.len p0)))=true then
   (Iy N p0 i8).bind λvO=>
   if (!vO)=true then
    some (Sum.inl false)
   else
    EW N p0 n (Sh.w (i8+1))
  else
   some (Sum.inr ())
def IB (N:Nat)(p0:(List Ac)):Option (Bool):=
 if (decide (4<(Sh.len p0)))=true then
  some false
 else
  Sh.cont (EW N p0 N 0) (id) λ()=>
  some true
def EB (N:Nat)(p0:EM):Nat->Int->Option ((Bool) ⊕ (Unit))
 | 0,_=>none
 | n+1,i10=>
  if (decide (i10<(Sh.len p0.funcs)))=true then
   (Sh.get p0.funcs i10).bind λtZ=>
   (
    if (decide (3<(Sh.len tZ.params)))=true then
     some true
    else
     (H7 N p0.decls tZ.params).bind λvV=>
     if (!vV)=true then
      some true
     else
      (Bd tZ.result 0 (Sh.len p0.decls)).bind λxn=>
      some (!xn)
   ).bind λt24=>
   if t24=true then
    some (Sum.inl false)
   else
    EB N p0 n (Sh.w (i10+1))
  else
   some (Sum.inr ())
def Io (N:Nat)(p0:EM):Option (Bool):=
 (
  Option.bind (IB N p0.decls) λuD=>
  if (!uD)=true then
   some true
  else
   (Bd (Sh.len p0.funcs) 1 4).bind λzo=>
   some (!zo)
 ).bind λt4=>
 if t4=true then
  some false
 else
  Sh.cont (EB N p0 N 0) (id) λ()=>
  (
   Option.bind (Sh.get p0.funcs 0) λsY=>
   if (decide ((Sh.len sY.params)=0))=true then
    some (decide (sY.result=0))
   else
    some false
  ).bind λt13=>
  some t13
def Ep (p0:(List Int))(p1:(List Int)):Nat->Int->Option ((Bool) ⊕ (Unit))
 | 0,_=>none
 | n+1,i4=>
  if (decide (i4<(Sh.len p1)))=true then
   (
    Option.bind (Sh.get p1 i4) λrQ=>
    (Bd rQ 0 (Sh.w ((Sh.len p0)-1))).bind λtQ=>
    if (!tQ)=true then
     some true
    else
     (Sh.get p0 rQ).bind λrl=>
     if (decide (rl=0))=true then
      some true
     else
     if (decide (0<i4))=true then
      (Sh.get p1 (Sh.w (i4-1))).bind λtZ=>
      some (decide (rQ<=tZ))
     else
      some false
   ).bind λt12=>
   if t12=true then
    some (Sum.inl false)
   else
    Ep p0 p1 n (Sh.w (i4+1))
  else
   some (Sum.inr ())
def Iq (N:Nat)(p0:(List Int))(p1:(List Int)):Option (Bool):=
 Sh.cont (Ep p0 p1 N 0) (id) λ()=>
 some true
def Hl (p0:Int):Option (Bool):=
 (Bd p0 0 11).bind λq3=>
 some q3
def Ee (p0:(List Ac))(p1:Int):Nat->Int->Int->Option (Int)
 | 0,_,_=>none
 | n+1,n5,i6=>
  if (decide (i6<p1))=true then
   (Sh.get p0 i6).bind λtC=>
   Ee p0 p1 n (Sh.w (n5+(Sh.len tC.cons))) (Sh.w (i6+1))
  else
   some n5
def HA (N:Nat)(p0:(List Ac))(p1:Int):Option (Int):=
 (Ee p0 p1 N 0 0).bind λn7=>
 some n7
def Dt (N:Nat)(p0:(List Ac))(p1:Int):Nat->Int->Option ((Int) ⊕ (Unit))
 | 0,_=>none
 | n+1,i4=>
  if (decide (i4<(Sh.len p0)))=true then
   (HA N p0 i4).bind λxp=>
   (Sh.get p0 i4).bind λtC=>
   (Bd p1 xp (Sh.w ((Sh.w (xp+(Sh.len tC.cons)))-1))).bind λtG=>
   if tG=true then
    some (Sum.inl (Sh.w (i4+1)))
   else
    Dt N p0 p1 n (Sh.w (i4+1))
  else
   some (Sum.inr ())
def Cq (N:Nat)(p0:(List Ac))(p1:Int):Option (Int):=
 Sh.cont (Dt N p0 p1 N 0) (id) λ()=>
 some (-1)
def CH (N:Nat)(p0:(List Ac))(p1:Int):Option (List Int):=
 (Cq N p0 p1).bind λq3=>
 if (decide (q3<1))=true then
  some []
 else
  (Sh.get p0 (Sh.w (q3-1))).bind λc9=>
  (HA N p0 (Sh.w (q3-1))).bind λtD=>
  (Sh.get c9.cons (Sh.w (p1-tD))).bind λc11=>
  some c11.fields
def FP (N:Nat)(p0:(List Ac))(p1:Int):Nat->Int->(List Int)->Option (List Int)
 | 0,_,_=>none
 | n+1,i12,uF=>
  (Sh.get p0 (Sh.w (p1-1))).bind λrl=>
  if (decide (i12<(Sh.len rl.cons)))=true then
   (HA N p0 (Sh.w (p1-1))).bind λwc=>
   (Sh.app uF [Sh.w (wc+i12)] 8).bind λvy=>
   FP N p0 p1 n (Sh.w (i12+1)) vy
  else
   some uF
def Ik (N:Nat)(p0:(List Ac))(p1:Int):Option (List Int):=
 (Bd p1 1 (Sh.len p0)).bind λq5=>
 if (!q5)=true then
  some []
 else
  (FP N p0 p1 N 0 []).bind λuM=>
  some uM
def HS (p0:(List Ac))(p1:Int):Option (Bool):=
 (
  if (decide (0<=p1))=true then
   some (decide (p1<=(Sh.len p0)))
  else
   some false
 ).bind λt3=>
 some t3
def FH (p0:(List Ac))(p1:(List Int)):Nat->Int->Option ((Bool) ⊕ (Unit))
 | 0,_=>none
 | n+1,t4=>
  if (decide (t4<(Sh.len p1)))=true then
   (Sh.get p1 t4).bind λuY=>
   (HS p0 uY).bind λyh=>
   if (!yh)=true then
    some (Sum.inl false)
   else
    FH p0 p1 n (Sh.w (t4+1))
  else
   some (Sum.inr ())
def IG (N:Nat)(p0:(List Ac))(p1:(List Int)):Option (Bool):=
 Sh.cont (FH p0 p1 N 0) (id) λ()=>
 some true
def Dq (rQ:Ac)(l28:(List Ac)):Nat->Int->Option ((Bool) ⊕ (Unit))
 | 0,_=>none
 | n+1,t29=>
  if (decide (t29<(Sh.len l28)))=true then
   (Sh.get l28 t29).bind λc36=>
   (
    if (decide ((Sh.len rQ.cons)=0))=true then
     if (decide ((Sh.len c36.cons)=0))=true then
      if (decide (c36.from_=rQ.from_))=true then
       some (decide (c36.to=rQ.to))
      else
       some false
     else
      some false
    else
     some false
   ).bind λt38=>
   if t38=true then
    some (Sum.inl false)
   else
    Dq rQ l28 n (Sh.w (t29+1))
  else
   some (Sum.inr ())
def Dn (N:Nat)(rQ:Ac)(p0:(List Ac)):Nat->Int->Option ((Bool) ⊕ (Unit))
 | 0,_=>none
 | n+1,t25=>
  if (decide (t25<(Sh.len rQ.cons)))=true then
   (Sh.get rQ.cons t25).bind λc50=>
   (
    if (decide (3<(Sh.len c50.fields)))=true then
     some true
    else
     (IG N p0 c50.fields).bind λzp=>
     some (!zp)
   ).bind λt52=>
   if t52=true then
    some (Sum.inl false)
   else
    Dn N rQ p0 n (Sh.w (t25+1))
  else
   some (Sum.inr ())
def EP (N:Nat)(p0:(List Ac)):Nat->Int->Option ((Bool) ⊕ (Unit))
 | 0,_=>none
 | n+1,t8=>
  if (decide (t8<(Sh.len p0)))=true then
   (Sh.get p0 t8).bind λrQ=>
   (
    Option.bind (HS p0 rQ.from_) λq58=>
    if (!q58)=true then
     some true
    else
     (HS p0 rQ.to).bind λxu=>
     if (!xu)=true then
      some true
     else
     if (decide (3<(Sh.len rQ.cons)))=true then
      some true
     else
     if (decide (0<(Sh.len rQ.cons)))=true then
      if (!decide (rQ.from_=0))=true then
       some true
      else
       some (!decide (rQ.to=0))
     else
      some false
   ).bind λt19=>
   if t19=true then
    some (Sum.inl false)
   else
    Sh.cont (Dn N rQ p0 N 0) (λx=>Sum.inl x) λ()=>
    (Sh.sl p0 0 t8).bind λl28=>
    Sh.cont (Dq rQ l28 N 0) (λx=>Sum.inl x) λ()=>
    EP N p0 n (Sh.w (t8+1))
  else
   some (Sum.inr ())
def H3 (N:Nat)(p0:(List Ac)):Option (Bool):=
 if (decide (4<(Sh.len p0)))=true then
  some false
 else
  Sh.cont (EP N p0 N 0) (id) λ()=>
  some true
def D9 (sZ:Bg):Nat->Int->Option ((Bool) ⊕ (Unit))
 | 0,_=>none
 | n+1,t26=>
  if (decide (t26<(Sh.len sZ.Ar)))=true then
   (Sh.get sZ.Ar t26).bind λxS=>
   (
    if (decide (xS<0))=true then
     some true
    else
    if (decide ((Sh.len sZ.params)<=xS))=true then
     some true
    else
     (Sh.get sZ.params xS).bind λc41=>
     if (decide (c41=0))=true then
      some true
     else
     if (decide (0<t26))=true then
      (Sh.get sZ.Ar (Sh.w (t26-1))).bind λc44=>
      some (decide (xS<=c44))
     else
      some false
   ).bind λt35=>
   if t35=true then
    some (Sum.inl false)
   else
    D9 sZ n (Sh.w (t26+1))
  else
   some (Sum.inr ())
def D5 (N:Nat)(p0:(List Ac))(p1:(List Bg)):Nat->Int->Option ((Bool) ⊕ (Unit))
 | 0,_=>none
 | n+1,t10=>
  if (decide (t10<(Sh.len p1)))=true then
   (Sh.get p1 t10).bind λsZ=>
   (
    if (decide (3<(Sh.len sZ.params)))=true then
     some true
    else
     (IG N p0 sZ.params).bind λxT=>
     if (!xT)=true then
      some true
     else
      (HS p0 sZ.result).bind λq48=>
      some (!q48)
   ).bind λt21=>
   if t21=true then
    some (Sum.inl false)
   else
    Sh.cont (D9 sZ N 0) (λx=>Sum.inl x) λ()=>
    D5 N p0 p1 n (Sh.w (t10+1))
  else
   some (Sum.inr ())
def I0 (N:Nat)(p0:(List Ac))(p1:(List Bg)):Option (Bool):=
 (
  Option.bind (H3 N p0) λq49=>
  if (!q49)=true then
   some true
  else
  if (decide ((Sh.len p1)<1))=true then
   some true
  else
  if (decide (4<(Sh.len p1)))=true then
   some true
  else
   (Sh.get p1 0).bind λyi=>
   if (decide (0<(Sh.len yi.params)))=true then
    some true
   else
    some (!decide (yi.result=0))
 ).bind λt4=>
 if t4=true then
  some false
 else
  Sh.cont (D5 N p0 p1 N 0) (id) λ()=>
  some true
def Ec (p0:(List Ac)):Nat->Int->Int->Option (Int)
 | 0,_,_=>none
 | n+1,n5,t6=>
  if (decide (t6<(Sh.len p0)))=true then
   (Sh.get p0 t6).bind λsY=>
   Ec p0 n (Sh.w (n5+(Sh.len sY.cons))) (Sh.w (t6+1))
  else
   some n5
def Jd (N:Nat)(p0:(List Ac)):Option (Int):=
 (Ec p0 N 0 0).bind λn7=>
 some n7
def FU (tC:Ac)(tD:Int):Nat->Int->(List Int)->Option (List Int)
 | 0,_,_=>none
 | n+1,t15,l16=>
  if (decide (t15<(Sh.len tC.cons)))=true then
   (Sh.app l16 [Sh.w (tD+t15)] 8).bind λl25=>
   FU tC tD n (Sh.w (t15+1)) l25
  else
   some l16
def Kx (N:Nat)(p0:(List Ac))(p1:Int):Option (List Int):=
 (
  if (decide (p1<1))=true then
   some true
  else
   some (decide ((Sh.len p0)<p1))
 ).bind λt4=>
 if t4=true then
  some []
 else
  (Sh.sl p0 0 (Sh.w (p1-1))).bind λl9=>
  (Jd N l9).bind λtD=>
  (Sh.get p0 (Sh.w (p1-1))).bind λtC=>
  (FU tC tD N 0 []).bind λl17=>
  some l17
def FL (p0:(List Ac)):Nat->Int->Int->Option ((Int×Bh) ⊕ (Unit))
 | 0,_,_=>none
 | n+1,c4,t5=>
  if (decide (t5<(Sh.len p0)))=true then
   (Sh.get p0 t5).bind λvW=>
   (
    if (decide (0<=c4))=true then
     some (decide (c4<(Sh.len vW.cons)))
    else
     some false
   ).bind λt16=>
   if t16=true then
    (Sh.get vW.cons c4).bind λtL=>
    some (Sum.inl (Sh.w (t5+1),tL))
   else
    FL p0 n (Sh.w (c4-(Sh.len vW.cons))) (Sh.w (t5+1))
  else
   some (Sum.inr ())
def IS (N:Nat)(p0:(List Ac))(p1:Int):Option (Int×Bh):=
 Sh.cont (FL p0 N p1 0) (id) λ()=>
 some (-1,Bh.mk [])
def HF (N:Nat)(p0:(List Ac))(p1:Int):Option (List Int):=
 (IS N p0 p1).bind λq3=>
 some q3.2.fields
def MJ (N:Nat)(p0 p1:Bh):Option (Bool):=
 (HY N p0.fields p1.fields).bind λq4=>
 if (!q4)=true then
  some false
 else
  some true
def F4 (N:Nat)(p0:(List Bh))(p1:(List Bh)):Nat->Int->Option ((Bool) ⊕ (Unit))
 | 0,_=>none
 | n+1,i10=>
  if (decide (i10<(Sh.len p0)))=true then
   (Sh.get p0 i10).bind λsZ=>
   (Sh.get p1 i10).bind λrl=>
   (MJ N sZ rl).bind λsT=>
   if (!sT)=true then
    some (Sum.inl false)
   else
    F4 N p0 p1 n (Sh.w (i10+1))
  else
   some (Sum.inr ())
def Kq (N:Nat)(p0:(List Bh))(p1:(List Bh)):Option (Bool):=
 if (!decide ((Sh.len p0)=(Sh.len p1)))=true then
  some false
 else
  Sh.cont (F4 N p0 p1 N 0) (id) λ()=>
  some true
def Kl (N:Nat)(p0 p1:Ac):Option (Bool):=
 if (!decide (p0.from_=p1.from_))=true then
  some false
 else
 if (!decide (p0.to=p1.to))=true then
  some false
 else
  (Kq N p0.cons p1.cons).bind λvO=>
  if (!vO)=true then
   some false
  else
   some true
def Fa (N:Nat)(p0:(List Ac))(p1:(List Ac)):Nat->Int->Option ((Bool) ⊕ (Unit))
 | 0,_=>none
 | n+1,i10=>
  if (decide (i10<(Sh.len p0)))=true then
   (Sh.get p0 i10).bind λsZ=>
   (Sh.get p1 i10).bind λrl=>
   (Kl N sZ rl).bind λsT=>
   if (!sT)=true then
    some (Sum.inl false)
   else
    Fa N p0 p1 n (Sh.w (i10+1))
  else
   some (Sum.inr ())
def J4 (N:Nat)(p0:(List Ac))(p1:(List Ac)):Option (Bool):=
 if (!decide ((Sh.len p0)=(Sh.len p1)))=true then
  some false
 else
  Sh.cont (Fa N p0 p1 N 0) (id) λ()=>
  some true
end RC
namespace RC
end RC
namespace RC
def EZ (p0:(List Block))(ql:Block->Int->Option (Int)):Nat->Int->Int->Option ((Int) ⊕ (Int))
 | 0,_,_=>none
 | n+1,left9,i10=>
  if (decide (i10<(Sh.len p0)))=true then
   (Sh.get p0 i10).bind λrl=>
   (ql rl left9).bind λsT=>
   if (decide (sT<0))=true then
    some (Sum.inl (-1))
   else
    EZ p0 ql n sT (Sh.w (i10+1))
  else
   some (Sum.inr left9)
def JY (N:Nat)(ql:Block->Int->Option (Int))(p0:(List Block))(p1:Int):Option (Int):=
 if (decide ((Sh.w (p1-(Sh.len p0)))<0))=true then
  some (-1)
 else
  Sh.cont (EZ p0 ql N (Sh.w (p1-(Sh.len p0))) 0) (id) λsL=>
  some sL
def Km (N:Nat)(ql:Block->Int->Option (Int))(p0:Step)(p1:Int):Option (Int):=
 (Hg p0.args p1).bind λq3=>
 if (decide (q3<0))=true then
  some (-1)
 else
  (JY N ql p0.kids q3).bind λq9=>
  if (decide (q9<0))=true then
   some (-1)
  else
   some q9
def Ey (N:Nat)(p0:(List Step))(ql:Block->Int->Option (Int)):Nat->Int->Int->Option ((Int) ⊕ (Int))
 | 0,_,_=>none
 | n+1,left9,i10=>
  if (decide (i10<(Sh.len p0)))=true then
   (Sh.get p0 i10).bind λrl=>
   (Km N ql rl left9).bind λsT=>
   if (decide (sT<0))=true then
    some (Sum.inl (-1))
   else
    Ey N p0 ql n sT (Sh.w (i10+1))
  else
   some (Sum.inr left9)
def Lv (N:Nat)(ql:Block->Int->Option (Int))(p0:(List Step))(p1:Int):Option (Int):=
 if (decide ((Sh.w (p1-(Sh.len p0)))<0))=true then
  some (-1)
 else
  Sh.cont (Ey N p0 ql N (Sh.w (p1-(Sh.len p0))) 0) (id) λsL=>
  some sL
def KH (N:Nat)(ql:Block->Int->Option (Int))(p0:Block)(p1:Int):Option (Int):=
 (Lv N ql p0.steps p1).bind λq3=>
 if (decide (q3<0))=true then
  some (-1)
 else
  some q3
def Gb (N:Nat):Nat->Block->Int->Option (Int)
 | 0,_,_=>none
 | n+1,p0,p1=>KH N (Gb N n) p0 p1
def Lx (N:Nat)(p0:Block)(p1:Int):Option (Int):=Gb N N p0 p1
def Eg (p0:(List Block))(qm:Block->Option (Block)):Nat->Int->(List Block)->Option (List Block)
 | 0,_,_=>none
 | n+1,i6,l7=>
  if (decide (i6<(Sh.len p0)))=true then
   (Sh.get p0 i6).bind λsY=>
   (qm sY).bind λvO=>
   (Sh.get l7 i6).bind λvl=>
   Eg p0 qm n (Sh.w (i6+1)) (Sh.put l7 i6 vO)
  else
   some l7
def Kg (N:Nat)(qm:Block->Option (Block))(p0:(List Block)):Option (List Block):=
 (Sh.mk (Block.mk [] 0) (Sh.len p0) 32).bind λl3=>
 (Eg p0 qm N 0 l3).bind λl8=>
 some l8
def Kw (N:Nat)(qm:Block->Option (Block))(p0:Step):Option (Step):=
 (HV N p0.args).bind λq7=>
 (Kg N qm p0.kids).bind λq9=>
 some (Step.mk p0.op p0.num p0.BB q7 q9)
def E0 (N:Nat)(p0:(List Step))(qm:Block->Option (Block)):Nat->Int->(List Step)->Option (List Step)
 | 0,_,_=>none
 | n+1,i6,l7=>
  if (decide (i6<(Sh.len p0)))=true then
   (Sh.get p0 i6).bind λsY=>
   (Kw N qm sY).bind λvO=>
   (Sh.get l7 i6).bind λvl=>
   E0 N p0 qm n (Sh.w (i6+1)) (Sh.put l7 i6 vO)
  else
   some l7
def Ls (N:Nat)(qm:Block->Option (Block))(p0:(List Step)):Option (List Step):=
 (Sh.mk (Step.mk 0 0 0 [] []) (Sh.len p0) 72).bind λl3=>
 (E0 N p0 qm N 0 l3).bind λl8=>
 some l8
def KI (N:Nat)(qm:Block->Option (Block))(p0:Block):Option (Block):=
 (Ls N qm p0.steps).bind λq4=>
 some (Block.mk q4 p0.result)
def Gf (N:Nat):Nat->Block->Option (Block)
 | 0,_=>none
 | n+1,p0=>KI N (Gf N n) p0
def L3 (N:Nat)(p0:Block):Option (Block):=Gf N N p0
def DZ (i5:Int)(p0:Block)(qy:Block->Int->Option (Int)):Nat->Int->Int->Option ((Int) ⊕ (Int))
 | 0,_,_=>none
 | n+1,left19,k20=>
  (Sh.get p0.steps i5).bind λue=>
  if (decide (k20<(Sh.len ue.kids)))=true then
   (Sh.get ue.kids k20).bind λc29=>
   (qy c29 left19).bind λq30=>
   if (decide (q30<0))=true then
    some (Sum.inl (-1))
   else
    DZ i5 p0 qy n q30 (Sh.w (k20+1))
  else
   some (Sum.inr left19)
def Da (N:Nat)(p0:Block)(qy:Block->Int->Option (Int)):Nat->Int->Int->Option ((Int) ⊕ (Int))
 | 0,_,_=>none
 | n+1,left4,i5=>
  if (decide (i5<(Sh.len p0.steps)))=true then
   if (decide (left4<1))=true then
    some (Sum.inl (-1))
   else
    Sh.cont (DZ i5 p0 qy N (Sh.w (left4-1)) 0) (λx=>Sum.inl x) λzu=>
    Da N p0 qy n zu (Sh.w (i5+1))
  else
   some (Sum.inr left4)
def JC (N:Nat)(qy:Block->Int->Option (Int))(p0:Block)(p1:Int):Option (Int):=
 Sh.cont (Da N p0 qy N p1 0) (id) λleft6=>
 some left6
def Fq (N:Nat):Nat->Block->Int->Option (Int)
 | 0,_,_=>none
 | n+1,p0,p1=>JC N (Fq N n) p0 p1
def MX (N:Nat)(p0:Block)(p1:Int):Option (Int):=Fq N N p0 p1
def I2 (N:Nat)(p0:Block):Option (Int):=
 (MX N p0 600).bind λq3=>
 if (decide (q3<0))=true then
  some (-1)
 else
  some (Sh.w (600-q3))
def IA (p0:Int):Option (Bool):=
 (Bd p0 14 17).bind λq3=>
 some q3
def Cx (tC:Step)(qv:Int->Block->Option (Bool×Int)):Nat->Int->Int->Option ((Bool×Int) ⊕ (Int))
 | 0,_,_=>none
 | n+1,t21,f22=>
  if (decide (t21<(Sh.len tC.kids)))=true then
   (Sh.get tC.kids t21).bind λvH=>
   (qv f22 vH).bind λuD=>
   if (!uD.1)=true then
    some (Sum.inl (false,uD.2))
   else
    Cx tC qv n (Sh.w (t21+1)) uD.2
  else
   some (Sum.inr f22)
def DC (N:Nat)(p0:Block)(qv:Int->Block->Option (Bool×Int)):Nat->Int->Int->Option ((Bool×Int) ⊕ (Int))
 | 0,_,_=>none
 | n+1,t4,f5=>
  if (decide (t4<(Sh.len p0.steps)))=true then
   (Sh.get p0.steps t4).bind λtC=>
   if (decide (600<(Sh.w (f5+1))))=true then
    some (Sum.inl (false,Sh.w (f5+1)))
   else
    Sh.cont (Cx tC qv N 0 (Sh.w (f5+1))) (λx=>Sum.inl x) λf23=>
    DC N p0 qv n (Sh.w (t4+1)) f23
  else
   some (Sum.inr f5)
def Ig (N:Nat)(qv:Int->Block->Option (Bool×Int))(qt:Int)(p0:Block):Option (Bool×Int):=
 Sh.cont (DC N p0 qv N 0 qt) (id) λf6=>
 some (true,f6)
def FW (N:Nat):Nat->Int->Block->Option (Bool×Int)
 | 0,_,_=>none
 | n+1,qt,p0=>Ig N (FW N n) qt p0
def LZ (N:Nat)(qt:Int)(p0:Block):Option (Bool×Int):=FW N N qt p0
def I5 (N:Nat)(p0:Block):Option (Int):=
 (LZ N 0 p0).bind λq5=>
 if (!q5.1)=true then
  some (-1)
 else
  some q5.2
def DP (p0:Int):Option (Bool):=
 (
  if (decide (14<=p0))=true then
   some (decide (p0<=17))
  else
   some false
 ).bind λt3=>
 some t3
def Ef (p0:(List Block))(p1:(List Block))(qn:Block->Block->Option (Bool)):Nat->Int->Option ((Bool) ⊕ (Unit))
 | 0,_=>none
 | n+1,i10=>
  if (decide (i10<(Sh.len p0)))=true then
   (Sh.get p0 i10).bind λsZ=>
   (Sh.get p1 i10).bind λrl=>
   (qn sZ rl).bind λsT=>
   if (!sT)=true then
    some (Sum.inl false)
   else
    Ef p0 p1 qn n (Sh.w (i10+1))
  else
   some (Sum.inr ())
def LH (N:Nat)(qn:Block->Block->Option (Bool))(p0:(List Block))(p1:(List Block)):Option (Bool):=
 if (!decide ((Sh.len p0)=(Sh.len p1)))=true then
  some false
 else
  Sh.cont (Ef p0 p1 qn N 0) (id) λ()=>
  some true
def Kv (N:Nat)(qn:Block->Block->Option (Bool))(p0 p1:Step):Option (Bool):=
 if (!decide (p0.op=p1.op))=true then
  some false
 else
 if (!decide (p0.num=p1.num))=true then
  some false
 else
 if (!decide (p0.BB=p1.BB))=true then
  some false
 else
  (HY N p0.args p1.args).bind λwc=>
  if (!wc)=true then
   some false
  else
   (LH N qn p0.kids p1.kids).bind λvV=>
   if (!vV)=true then
    some false
   else
    some true
def E1 (N:Nat)(p0:(List Step))(p1:(List Step))(qn:Block->Block->Option (Bool)):Nat->Int->Option ((Bool) ⊕ (Unit))
 | 0,_=>none
 | n+1,i10=>
  if (decide (i10<(Sh.len p0)))=true then
   (Sh.get p0 i10).bind λsZ=>
   (Sh.get p1 i10).bind λrl=>
   (Kv N qn sZ rl).bind λsT=>
   if (!sT)=true then
    some (Sum.inl false)
   else
    E1 N p0 p1 qn n (Sh.w (i10+1))
  else
   some (Sum.inr ())
def Lw (N:Nat)(qn:Block->Block->Option (Bool))(p0:(List Step))(p1:(List Step)):Option (Bool):=
 if (!decide ((Sh.len p0)=(Sh.len p1)))=true then
  some false
 else
  Sh.cont (E1 N p0 p1 qn N 0) (id) λ()=>
  some true
def KE (N:Nat)(qn:Block->Block->Option (Bool))(p0 p1:Block):Option (Bool):=
 (Lw N qn p0.steps p1.steps).bind λq4=>
 if (!q4)=true then
  some false
 else
 if (!decide (p0.result=p1.result))=true then
  some false
 else
  some true
def Ga (N:Nat):Nat->Block->Block->Option (Bool)
 | 0,_,_=>none
 | n+1,p0,p1=>KE N (Ga N n) p0 p1
def Ly (N:Nat)(p0 p1:Block):Option (Bool):=Ga N N p0 p1
end RC
namespace RC
def TL (p0:(List Dy))(sN:Dy->Int->Option (Int)):Nat->Int->Int->Option ((Int) ⊕ (Int))
 | 0,_,_=>none
 | n+1,left9,i10=>
  if (decide (i10<(Sh.len p0)))=true then
   (Sh.get p0 i10).bind λrl=>
   (sN rl left9).bind λsT=>
   if (decide (sT<0))=true then
    some (Sum.inl (-1))
   else
    TL p0 sN n sT (Sh.w (i10+1))
  else
   some (Sum.inr left9)
def TM (p0:EM)(p1:(List Int))(p2:(List Dy))(p3:Int)(sO:EM->(List Int)->Dy->Option (Int)):Nat->Int->Option ((Bool) ⊕ (Unit))
 | 0,_=>none
 | n+1,i10=>
  if (decide (i10<p3))=true then
   (Sh.get p2 i10).bind λsZ=>
   (sO p0 p1 sZ).bind λvI=>
   if (!decide (vI=0))=true then
    some (Sum.inl false)
   else
    TM p0 p1 p2 p3 sO n (Sh.w (i10+1))
  else
   some (Sum.inr ())
def DW (p0:(List Int)):Option (List Int):=
 (Sh.app ([]:List Int) p0 8).bind λl3=>
 some l3
def Gm (p0:(List Int))(p1:(List Int)):Option (List Int):=
 (DW p0).bind λq3=>
 (Sh.app q3 p1 8).bind λl4=>
 some l4
def E2 (p0:(List Ac))(p1 p2:Int):Nat->Int->Option ((Int) ⊕ (Unit))
 | 0,_=>none
 | n+1,i4=>
  if (decide (i4<(Sh.len p0)))=true then
   (
    Option.bind (Sh.get p0 i4) λrQ=>
    if (decide ((Sh.len rQ.cons)=0))=true then
     if (decide (rQ.from_=p1))=true then
      some (decide (rQ.to=p2))
     else
      some false
    else
     some false
   ).bind λt12=>
   if t12=true then
    some (Sum.inl (Sh.w (i4+1)))
   else
    E2 p0 p1 p2 n (Sh.w (i4+1))
  else
   some (Sum.inr ())
def I4 (N:Nat)(p0:(List Ac))(p1 p2:Int):Option (Int):=
 Sh.cont (E2 p0 p1 p2 N 0) (id) λ()=>
 some (-1)
def Gq (p0:(List Ac))(p1:Int):Option (Bool):=
 (
  Option.bind (Bd p1 1 (Sh.len p0)) λq5=>
  if q5=true then
   (Sh.get p0 (Sh.w (p1-1))).bind λc7=>
   some (decide ((Sh.len c7.cons)=0))
  else
   some false
 ).bind λt3=>
 some t3
def GR (p1:Int):Option (List Int):=
 if (decide (p1<0))=true then
  none
 else
  (
   if (decide (0<(Sh.w (p1-(Sh.w (0-0))))))=true then
    (Sh.mk 0 (Sh.w (p1-(Sh.w (0-0)))) 8).bind λwe=>
    (Sh.hi we 0).bind λuF=>
    some uF
   else
    some []
  ).bind λl6=>
  some l6
def CL (p0:(List (List Int))):Nat->Int->(List Int)->Option (List Int)
 | 0,_,_=>none
 | n+1,t13,uM=>
  if (decide (t13<(Sh.len p0)))=true then
   (Sh.get p0 t13).bind λzw=>
   (Sh.app uM zw 8).bind λxx=>
   CL p0 n (Sh.w (t13+1)) xx
  else
   some uM
def CM (p0:(List (List Int))):Nat->Int->Int->Option (Int)
 | 0,_,_=>none
 | n+1,sP,t6=>
  if (decide (t6<(Sh.len p0)))=true then
   (Sh.get p0 t6).bind λvH=>
   if (decide ((Sh.w (sP+(Sh.len vH)))<0))=true then
    none
   else
    CM p0 n (Sh.w (sP+(Sh.len vH))) (Sh.w (t6+1))
  else
   some sP
def Dc (N:Nat)(p0:(List (List Int))):Option (List Int):=
 (CM p0 N 0 0).bind λtl=>
 (GR tl).bind λtD=>
 (CL p0 N 0 tD).bind λvX=>
 some vX
def Gs (p0:(List Ac))(p1:Int):Option (Ac×Bool):=
 (
  if (decide (p1<1))=true then
   some true
  else
  if (decide ((Sh.len p0)<p1))=true then
   some true
  else
   (Sh.get p0 (Sh.w (p1-1))).bind λuY=>
   some (decide (0<(Sh.len uY.cons)))
 ).bind λt4=>
 if t4=true then
  some (Ac.mk 0 0 [],false)
 else
  (Sh.get p0 (Sh.w (p1-1))).bind λc9=>
  some (c9,true)
def Ck (p0:(List Int))(p1:(List Int)):Nat->Int->Option ((Bool) ⊕ (Unit))
 | 0,_=>none
 | n+1,t10=>
  if (decide (t10<(Sh.len p0)))=true then
   (Sh.get p0 t10).bind λrl=>
   (Sh.get p1 t10).bind λtL=>
   if (!decide (rl=tL))=true then
    some (Sum.inl false)
   else
    Ck p0 p1 n (Sh.w (t10+1))
  else
   some (Sum.inr ())
def Cw (N:Nat)(p0:(List Int))(p1:(List Int)):Option (Bool):=
 if (!decide ((Sh.len p0)=(Sh.len p1)))=true then
  some false
 else
  Sh.cont (Ck p0 p1 N 0) (id) λ()=>
  some true
def Ez (p0:(List Ac))(p1 p2:Int):Nat->Int->Option ((Int) ⊕ (Unit))
 | 0,_=>none
 | n+1,t4=>
  if (decide (t4<(Sh.len p0)))=true then
   (Sh.get p0 t4).bind λuY=>
   (
    if (decide ((Sh.len uY.cons)=0))=true then
     if (decide (uY.from_=p1))=true then
      some (decide (uY.to=p2))
     else
      some false
    else
     some false
   ).bind λt14=>
   if t14=true then
    some (Sum.inl (Sh.w (t4+1)))
   else
    Ez p0 p1 p2 n (Sh.w (t4+1))
  else
   some (Sum.inr ())
def J0 (N:Nat)(p0:(List Ac))(p1 p2:Int):Option (Int):=
 Sh.cont (Ez p0 p1 p2 N 0) (id) λ()=>
 some (-1)
def Ai (N:Nat)(p0:Ag)(p1 p2:Int)(p3:(List Int)):Option (Int×Bool):=
 Sh.cont (
  if (decide (p1=0))=true then
   (
    if (decide ((-999)<=p2))=true then
     if (decide (p2<=999))=true then
      some (decide ((Sh.len p3)=0))
     else
      some false
    else
     some false
   ).bind λt15=>
   some (Sum.inl (0,t15))
  else
   (
    if (decide (p1=1))=true then
     some true
    else
    if (decide (p1=2))=true then
     some true
    else
    if (decide (p1=3))=true then
     some true
    else
     some (decide (p1=4))
   ).bind λt20=>
   if t20=true then
    some (Sum.inr [(0:Int),0])
   else
   if (decide (p1=5))=true then
    some (Sum.inr [(0:Int)])
   else
   if (decide (p1=11))=true then
    if (!decide ((Sh.len p3)=2))=true then
     some (Sum.inl (-1,false))
    else
     (Sh.get p3 0).bind λc34=>
     (Gs p0.decls c34).bind λq35=>
     (
      if q35.2=true then
       (Sh.get p3 1).bind λc41=>
       if (decide (c41=q35.1.from_))=true then
        some (decide (p2=0))
       else
        some false
      else
       some false
     ).bind λt38=>
     some (Sum.inl (q35.1.to,t38))
   else
   if (decide (p1=6))=true then
    (IS N p0.decls p2).bind λq40=>
    (
     if (decide (0<=q40.1))=true then
      (Cw N p3 q40.2.fields).bind λvz=>
      some vz
     else
      some false
    ).bind λt42=>
    some (Sum.inl (q40.1,t42))
   else
    (
     if (decide (p1=9))=true then
      some true
     else
      some (decide (p1=10))
    ).bind λt47=>
    if t47=true then
     (
      if (decide (p2<0))=true then
       some true
      else
       some (decide ((Sh.len p0.funcs)<=p2))
     ).bind λt52=>
     if t52=true then
      some (Sum.inl (-1,false))
     else
      (Sh.get p0.funcs p2).bind λyj=>
      if (decide (p1=9))=true then
       (Cw N p3 yj.params).bind λq62=>
       some (Sum.inl (yj.result,q62))
      else
      if (decide ((Sh.w ((Sh.len yj.params)-1))<0))=true then
       some (Sum.inl (-1,false))
      else
       (Sh.get yj.params (Sh.w ((Sh.len yj.params)-1))).bind λzy=>
       (J0 N p0.decls zy yj.result).bind λq70=>
       (
        if (decide (0<=q70))=true then
         (Sh.sl yj.params 0 (Sh.w ((Sh.len yj.params)-1))).bind λl75=>
         (Cw N p3 l75).bind λq76=>
         some q76
        else
         some false
       ).bind λt72=>
       some (Sum.inl (q70,t72))
    else
     some (Sum.inl (-1,false))
 ) (id) λl4=>
 (
  if (decide (p2=0))=true then
   (Cw N p3 l4).bind λtD=>
   some tD
  else
   some false
 ).bind λt7=>
 some (0,t7)
end RC
namespace RC
def Iw (N:Nat)(p0:Ad)(p1:Int):Option (Int):=
 (Hg p0.params p1).bind λq3=>
 if (decide (q3<0))=true then
  some (-1)
 else
  (Hg p0.Ar q3).bind λq9=>
  if (decide (q9<0))=true then
   some (-1)
  else
   (Lx N p0.body q9).bind λtG=>
   if (decide (tG<0))=true then
    some (-1)
   else
    some tG
def EU (N:Nat)(p0:(List Ad)):Nat->Int->Int->Option ((Int) ⊕ (Int))
 | 0,_,_=>none
 | n+1,left9,i10=>
  if (decide (i10<(Sh.len p0)))=true then
   (Sh.get p0 i10).bind λrl=>
   (Iw N rl left9).bind λsT=>
   if (decide (sT<0))=true then
    some (Sum.inl (-1))
   else
    EU N p0 n sT (Sh.w (i10+1))
  else
   some (Sum.inr left9)
def ID (N:Nat)(p0:(List Ad))(p1:Int):Option (Int):=
 if (decide ((Sh.w (p1-(Sh.len p0)))<0))=true then
  some (-1)
 else
  Sh.cont (EU N p0 N (Sh.w (p1-(Sh.len p0))) 0) (id) λsL=>
  some sL
def Jj (N:Nat)(p0:AT)(p1:Int):Option (Int):=
 (Jy N p0.decls p1).bind λq3=>
 if (decide (q3<0))=true then
  some (-1)
 else
  (ID N p0.AH q3).bind λq9=>
  if (decide (q9<0))=true then
   some (-1)
  else
   some q9
def Ix (N:Nat)(p0:Ad):Option (Ad):=
 (HV N p0.params).bind λq4=>
 (HV N p0.Ar).bind λq6=>
 (L3 N p0.body).bind λq9=>
 some (Ad.mk q4 q6 p0.result q9)
def ET (N:Nat)(p0:(List Ad)):Nat->Int->(List Ad)->Option (List Ad)
 | 0,_,_=>none
 | n+1,i6,l7=>
  if (decide (i6<(Sh.len p0)))=true then
   (Sh.get p0 i6).bind λsY=>
   (Ix N sY).bind λvO=>
   (Sh.get l7 i6).bind λvl=>
   ET N p0 n (Sh.w (i6+1)) (Sh.put l7 i6 vO)
  else
   some l7
def IF (N:Nat)(p0:(List Ad)):Option (List Ad):=
 (Sh.mk (Ad.mk [] [] 0 (Block.mk [] 0)) (Sh.len p0) 88).bind λl3=>
 (ET N p0 N 0 l3).bind λl8=>
 some l8
def GM (N:Nat)(p0:AT):Option (AT):=
 (J1 N p0.decls).bind λq4=>
 (IF N p0.AH).bind λq6=>
 some (AT.mk q4 q6)
def FT (p0:AT):Nat->Int->(List IK)->Option (List IK)
 | 0,_,_=>none
 | n+1,i5,l6=>
  if (decide (i5<(Sh.len p0.AH)))=true then
   (Sh.get p0.AH i5).bind λtC=>
   (Sh.app l6 ([IK.mk tC.params tC.result (Dy.mk 0 0 [])]) 72).bind λvX=>
   FT p0 n (Sh.w (i5+1)) vX
  else
   some l6
def LA (N:Nat)(p0:AT):Option (EM):=
 (FT p0 N 0 []).bind λl7=>
 some (EM.mk p0.decls l7)
def Cn (N:Nat)(p0:AT):Nat->Int->Option ((Bool) ⊕ (Unit))
 | 0,_=>none
 | n+1,i10=>
  if (decide (i10<(Sh.len p0.AH)))=true then
   (Sh.get p0.AH i10).bind λsZ=>
   (Iq N sZ.params sZ.Ar).bind λvI=>
   if (!vI)=true then
    some (Sum.inl false)
   else
    Cn N p0 n (Sh.w (i10+1))
  else
   some (Sum.inr ())
def F9 (N:Nat)(p0:AT):Option (Bool):=
 (
  if (decide (4<(Sh.len p0.AH)))=true then
   some true
  else
   (LA N p0).bind λq25=>
   (Io N q25).bind λvP=>
   some (!vP)
 ).bind λt4=>
 if t4=true then
  some false
 else
  Sh.cont (Cn N p0 N 0) (id) λ()=>
  some true
def IZ (p0:Int):Option (Bool):=
 (
  if (decide (p0=0))=true then
   some true
  else
  if (decide (p0=6))=true then
   some true
  else
  if (decide (p0=8))=true then
   some true
  else
  if (decide (p0=9))=true then
   some true
  else
   some (decide (p0=10))
 ).bind λt3=>
 some t3
def Bb (p0:(List Int))(p1:Step):Option (Bool):=
 if (decide (p1.BB=0))=true then
  some true
 else
  (
   if (decide (p1.op=6))=true then
    (Bd p1.BB 1 (Sh.len p0)).bind λtD=>
    if tD=true then
     (Sh.get p0 (Sh.w (p1.BB-1))).bind λuY=>
     some (decide (0<uY))
    else
     some false
   else
    some false
  ).bind λt7=>
  some t7
def GN (p0:(List Int))(p1:(List Int))(p2:(List Int)):Nat->Int->Option ((Bool) ⊕ (Unit))
 | 0,_=>none
 | n+1,i10=>
  if (decide (i10<(Sh.len p1)))=true then
   (
    Option.bind (Sh.get p1 i10) λtZ=>
    (Bd tZ 0 (Sh.w ((Sh.len p0)-1))).bind λq23=>
    if (!q23)=true then
     some true
    else
     (Sh.get p0 tZ).bind λue=>
     (Sh.get p2 i10).bind λvm=>
     some (!decide (ue=vm))
   ).bind λt18=>
   if t18=true then
    some (Sum.inl false)
   else
    GN p0 p1 p2 n (Sh.w (i10+1))
  else
   some (Sum.inr ())
def Be (N:Nat)(p0:(List Int))(p1:(List Int))(p2:(List Int)):Option (Bool):=
 if (!decide ((Sh.len p1)=(Sh.len p2)))=true then
  some false
 else
  Sh.cont (GN p0 p1 p2 N 0) (id) λ()=>
  some true
def Dv (N:Nat)(sK:Int)(p0:AT)(p1:(List Int))(p2:Step)(q3:(List Int))(qk:AT->(List Int)->Block->Option (Int)):Nat->Int->Int->Option ((Int) ⊕ (Int))
 | 0,_,_=>none
 | n+1,t17,i18=>
  if (decide (i18<sK))=true then
   (
    if (decide (p2.op=8))=true then
     (Sh.get q3 i18).bind λc43=>
     (CH N p0.decls c43).bind λq44=>
     (Gm p1 q44).bind λvz=>
     some vz
    else
     some p1
   ).bind λuf=>
   (Sh.get p2.kids i18).bind λyk=>
   (qk p0 uf yk).bind λuD=>
   (
    if (decide (uD<0))=true then
     some true
    else
    if (decide (0<i18))=true then
     some (!decide (uD=t17))
    else
     some false
   ).bind λt35=>
   if t35=true then
    some (Sum.inl (-1))
   else
    Dv N sK p0 p1 p2 q3 qk n uD (Sh.w (i18+1))
  else
   some (Sum.inr t17)
def FJ (N:Nat)(qk:AT->(List Int)->Block->Option (Int))(p0:AT)(p1:(List Int))(p2:Step):Option (Int):=
 (Ik N p0.decls p2.num).bind λq3=>
 (
  if (decide (p2.op=7))=true then
   some 2
  else
   some (Sh.len q3)
 ).bind λsK=>
 (
  if (decide (sK=0))=true then
   some true
  else
   some (!decide ((Sh.len p2.kids)=sK))
 ).bind λt10=>
 if t10=true then
  some (-1)
 else
  Sh.cont (Dv N sK p0 p1 p2 q3 qk N 0 0) (id) λt19=>
  some t19
def EX (N:Nat)(p0:AT)(p1:(List Int))(p2:Step):Option (Int):=
 (Bd p2.num 0 (Sh.w ((Sh.len p0.AH)-1))).bind λq4=>
 if (!q4)=true then
  some (-1)
 else
  (Sh.get p0.AH p2.num).bind λwM=>
  if (decide (p2.op=9))=true then
   (Be N p1 p2.args wM.params).bind λtQ=>
   if (!tQ)=true then
    some (-1)
   else
    some wM.result
  else
   (
    if (decide ((Sh.len wM.params)=0))=true then
     some true
    else
    if (decide (0<(Sh.len wM.Ar)))=true then
     some true
    else
     (Sh.sl wM.params 0 (Sh.w ((Sh.len wM.params)-1))).bind λl34=>
     (Be N p1 p2.args l34).bind λq35=>
     some (!q35)
   ).bind λt25=>
   if t25=true then
    some (-1)
   else
    (Sh.get wM.params (Sh.w ((Sh.len wM.params)-1))).bind λvH=>
    (I4 N p0.decls vH wM.result).bind λxn=>
    some xn
def FV (p0:AT)(p1:(List Int))(p2:Step):Option (Int):=
 (
  if (!decide ((Sh.len p2.args)=1))=true then
   some true
  else
   (Sh.get p2.args 0).bind λwg=>
   (Bd wg 0 (Sh.w ((Sh.len p1)-1))).bind λwc=>
   if (!wc)=true then
    some true
   else
    (Sh.get p1 wg).bind λwA=>
    some (decide (wA=0))
 ).bind λt4=>
 if t4=true then
  some (-1)
 else
  (
   if (!decide (p2.op=14))=true then
    if (!decide (p2.op=15))=true then
     (Sh.get p2.args 0).bind λvl=>
     (Sh.get p1 vl).bind λsZ=>
     (Gq p0.decls sZ).bind λvI=>
     some vI
    else
     some false
   else
    some false
  ).bind λt10=>
  if t10=true then
   some (-1)
  else
   some 0
def EF (N:Nat)(qk:AT->(List Int)->Block->Option (Int))(p0:AT)(p1:(List Int))(p2:Step):Option (Int):=
 (
  if (!decide (p2.num=0))=true then
   (IZ p2.op).bind λwh=>
   if (!wh)=true then
    some true
   else
    (Bb p1 p2).bind λwi=>
    if (!wi)=true then
     some true
    else
    if (decide (0<(Sh.len p2.kids)))=true then
     if (!decide (p2.op=7))=true then
      some (!decide (p2.op=8))
     else
      some false
    else
     some false
  else
   (Bb p1 p2).bind λvY=>
   if (!vY)=true then
    some true
   else
   if (decide (0<(Sh.len p2.kids)))=true then
    if (!decide (p2.op=7))=true then
     some (!decide (p2.op=8))
    else
     some false
   else
    some false
 ).bind λt4=>
 if t4=true then
  some (-1)
 else
  Sh.cont (
   if (decide (p2.op=0))=true then
    (
     if (decide ((Sh.len p2.args)=0))=true then
      (Bd p2.num (-999) 999).bind λsT=>
      some sT
     else
      some false
    ).bind λt15=>
    if t15=true then
     some (Sum.inl 0)
    else
     some (Sum.inr ())
   else
    (
     if (decide (p2.op=1))=true then
      some true
     else
     if (decide (p2.op=2))=true then
      some true
     else
     if (decide (p2.op=3))=true then
      some true
     else
      some (decide (p2.op=4))
    ).bind λt22=>
    if t22=true then
     (Be N p1 p2.args [(0:Int),0]).bind λvP=>
     if vP=true then
      some (Sum.inl 0)
     else
      some (Sum.inr ())
    else
    if (decide (p2.op=5))=true then
     (Be N p1 p2.args [(0:Int)]).bind λuD=>
     if uD=true then
      some (Sum.inl 0)
     else
      some (Sum.inr ())
    else
    if (decide (p2.op=6))=true then
     (
      Option.bind (Cq N p0.decls p2.num) λwN=>
      if (decide (0<wN))=true then
       (CH N p0.decls p2.num).bind λvz=>
       (Be N p1 p2.args vz).bind λxT=>
       some xT
      else
       some false
     ).bind λt38=>
     if t38=true then
      (Cq N p0.decls p2.num).bind λym=>
      some (Sum.inl ym)
     else
      some (Sum.inr ())
    else
    if (decide (p2.op=7))=true then
     (Be N p1 p2.args [(0:Int)]).bind λq50=>
     if q50=true then
      (FJ N qk p0 p1 p2).bind λwj=>
      some (Sum.inl wj)
     else
      some (Sum.inr ())
    else
    if (decide (p2.op=8))=true then
     (Be N p1 p2.args [p2.num]).bind λzp=>
     if zp=true then
      (FJ N qk p0 p1 p2).bind λxu=>
      some (Sum.inl xu)
     else
      some (Sum.inr ())
    else
     (
      if (decide (p2.op=9))=true then
       some true
      else
       some (decide (p2.op=10))
     ).bind λt62=>
     if t62=true then
      (EX N p0 p1 p2).bind λq66=>
      some (Sum.inl q66)
     else
     if (decide (p2.op=11))=true then
      (
       if (decide ((Sh.len p2.args)=2))=true then
        (Sh.get p2.args 0).bind λyp=>
        (Bd yp 0 (Sh.w ((Sh.len p1)-1))).bind λwm=>
        if wm=true then
         (Sh.get p1 yp).bind λc82=>
         (Gq p0.decls c82).bind λq83=>
         some q83
        else
         some false
       else
        some false
      ).bind λt70=>
      if t70=true then
       (Sh.get p2.args 0).bind λc74=>
       (Sh.get p1 c74).bind λc75=>
       (Sh.get p0.decls (Sh.w (c75-1))).bind λyr=>
       (Sh.sl p2.args 1 (Sh.len p2.args)).bind λl79=>
       (Be N p1 l79 [yr.from_]).bind λwm=>
       if wm=true then
        some (Sum.inl yr.to)
       else
        some (Sum.inr ())
      else
       some (Sum.inr ())
     else
      (
       if (decide (p2.op=14))=true then
        some true
       else
       if (decide (p2.op=15))=true then
        some true
       else
       if (decide (p2.op=16))=true then
        some true
       else
        some (decide (p2.op=17))
      ).bind λt85=>
      if t85=true then
       (FV p0 p1 p2).bind λq89=>
       some (Sum.inl q89)
      else
       some (Sum.inr ())
  ) (id) λ()=>
  some (-1)
def BS (N:Nat)(p0:AT)(p2:Block)(qk:AT->(List Int)->Block->Option (Int)):Nat->Int->(List Int)->Option ((Int) ⊕ (List Int))
 | 0,_,_=>none
 | n+1,i6,l7=>
  if (decide (i6<(Sh.len p2.steps)))=true then
   Sh.cont (
    (Sh.get p2.steps i6).bind λvm=>
    (EF N qk p0 l7 vm).bind λyu=>
    if (decide (yu<0))=true then
     some (Sum.inl (Sum.inl (-1)))
    else
     (Hl vm.op).bind λwB=>
     if wB=true then
      (Sh.app l7 [yu] 8).bind λl35=>
      some (Sum.inr l35)
     else
      some (Sum.inr l7)
   ) (id) λvy=>
   BS N p0 p2 qk n (Sh.w (i6+1)) vy
  else
   some (Sum.inr l7)
def Dw (N:Nat)(qk:AT->(List Int)->Block->Option (Int))(p0:AT)(p1:(List Int))(p2:Block):Option (Int):=
 (DW p1).bind λq3=>
 Sh.cont (BS N p0 p2 qk N 0 q3) (id) λl8=>
 (Bd p2.result 0 (Sh.w ((Sh.len l8)-1))).bind λxp=>
 if (!xp)=true then
  some (-1)
 else
  (Sh.get l8 p2.result).bind λsZ=>
  some sZ
def Db (N:Nat):Nat->AT->(List Int)->Block->Option (Int)
 | 0,_,_,_=>none
 | n+1,p0,p1,p2=>Dw N (Db N n) p0 p1 p2
def Bl (N:Nat)(p0:AT)(p1:(List Int))(p2:Block):Option (Int):=Db N N p0 p1 p2
def Ca (N:Nat)(p0:AT):Nat->Int->Option ((Bool) ⊕ (Unit))
 | 0,_=>none
 | n+1,i11=>
  if (decide (i11<(Sh.len p0.AH)))=true then
   (Sh.get p0.AH i11).bind λrl=>
   (
    Option.bind (I2 N rl.body) λq25=>
    if (decide (q25<0))=true then
     some true
    else
     (Bl N p0 rl.params rl.body).bind λyu=>
     some (!decide (yu=rl.result))
   ).bind λt21=>
   if t21=true then
    some (Sum.inl false)
   else
    Ca N p0 n (Sh.w (i11+1))
  else
   some (Sum.inr ())
def FF (N:Nat)(p0:AT):Option (Bool):=
 (F9 N p0).bind λq4=>
 if (!q4)=true then
  some false
 else
  Sh.cont (Ca N p0 N 0) (id) λ()=>
  some true
def DD (i4:Int)(p0:Block)(qw:Block->Option (Bool)):Nat->Int->Option ((Bool) ⊕ (Unit))
 | 0,_=>none
 | n+1,k18=>
  (Sh.get p0.steps i4).bind λtZ=>
  if (decide (k18<(Sh.len tZ.kids)))=true then
   (Sh.get tZ.kids k18).bind λvm=>
   (qw vm).bind λyu=>
   if (!yu)=true then
    some (Sum.inl false)
   else
    DD i4 p0 qw n (Sh.w (k18+1))
  else
   some (Sum.inr ())
def Dj (N:Nat)(p0:Block)(qw:Block->Option (Bool)):Nat->Int->Option ((Bool) ⊕ (Unit))
 | 0,_=>none
 | n+1,i4=>
  if (decide (i4<(Sh.len p0.steps)))=true then
   (
    Option.bind (Sh.get p0.steps i4) λyv=>
    (IA yv.op).bind λwB=>
    if wB=true then
     some true
    else
     some (!decide (yv.BB=0))
   ).bind λt13=>
   if t13=true then
    some (Sum.inl false)
   else
    Sh.cont (DD i4 p0 qw N 0) (λx=>Sum.inl x) λ()=>
    Dj N p0 qw n (Sh.w (i4+1))
  else
   some (Sum.inr ())
def Ih (N:Nat)(qw:Block->Option (Bool))(p0:Block):Option (Bool):=
 Sh.cont (Dj N p0 qw N 0) (id) λ()=>
 some true
def FX (N:Nat):Nat->Block->Option (Bool)
 | 0,_=>none
 | n+1,p0=>Ih N (FX N n) p0
def Ju (N:Nat)(p0:Block):Option (Bool):=FX N N p0
def Fe (N:Nat)(p0:AT):Nat->Int->Option ((Bool) ⊕ (Unit))
 | 0,_=>none
 | n+1,i11=>
  if (decide (i11<(Sh.len p0.AH)))=true then
   (Sh.get p0.AH i11).bind λrl=>
   (Ju N rl.body).bind λsT=>
   if (!sT)=true then
    some (Sum.inl false)
   else
    Fe N p0 n (Sh.w (i11+1))
  else
   some (Sum.inr ())
def Hk (N:Nat)(p0:AT):Option (Bool):=
 (FF N p0).bind λq4=>
 if (!q4)=true then
  some false
 else
  Sh.cont (Fe N p0 N 0) (id) λ()=>
  some true
def OE (N:Nat)(p0:AT):Option (Bool):=
 (Hk N p0).bind λq3=>
 some q3
def DG (p0:AT):Nat->Int->(List Bg)->Option (List Bg)
 | 0,_,_=>none
 | n+1,t9,l10=>
  if (decide (t9<(Sh.len p0.AH)))=true then
   (Sh.get p0.AH t9).bind λtL=>
   (Sh.app l10 [Bg.mk tL.params tL.Ar tL.result] 56).bind λl21=>
   DG p0 n (Sh.w (t9+1)) l21
  else
   some l10
def GB (N:Nat)(p0:AT):Option (Ag×Bool):=
 if (decide (4<(Sh.len p0.AH)))=true then
  some (Ag.mk [] [],false)
 else
  (DG p0 N 0 []).bind λxy=>
  (I0 N p0.decls xy).bind λyh=>
  some (Ag.mk p0.decls xy,yh)
def Bo (N:Nat)(p0:Ag)(p1:(List Int))(p2:(List Block))(p3:(List (List Int)))(qh:Ag->(List Int)->Block->Option (Int)):Nat->Int->Int->Option ((Int×Bool) ⊕ (Int))
 | 0,_,_=>none
 | n+1,rR,t6=>
  if (decide (t6<(Sh.len p2)))=true then
   (Sh.get p2 t6).bind λsY=>
   (Sh.get p3 t6).bind λvl=>
   (Dc N [p1,vl]).bind λwC=>
   (qh p0 wC sY).bind λvI=>
   (
    if (decide (vI<0))=true then
     some true
    else
    if (decide (0<t6))=true then
     some (!decide (vI=rR))
    else
     some false
   ).bind λt22=>
   if t22=true then
    some (Sum.inl (-1,false))
   else
    Bo N p0 p1 p2 p3 qh n vI (Sh.w (t6+1))
  else
   some (Sum.inr rR)
def CF (N:Nat)(qh:Ag->(List Int)->Block->Option (Int))(p0:Ag)(p1:(List Int))(p2:(List Block))(p3:(List (List Int))):Option (Int×Bool):=
 Sh.cont (Bo N p0 p1 p2 p3 qh N (-1) 0) (id) λra=>
 some (ra,true)
def By (N:Nat)(p0:Ag)(q5:(List Int)):Nat->Int->(List (List Int))->Option (List (List Int))
 | 0,_,_=>none
 | n+1,t6,l7=>
  if (decide (t6<(Sh.len q5)))=true then
   (Sh.get q5 t6).bind λrQ=>
   (HF N p0.decls rQ).bind λtQ=>
   (Sh.app l7 [tQ] 24).bind λl18=>
   By N p0 q5 n (Sh.w (t6+1)) l18
  else
   some l7
def CA (N:Nat)(p0:Ag)(p1:Int):Option (List (List Int)):=
 (Kx N p0.decls p1).bind λq5=>
 (By N p0 q5 N 0 []).bind λl8=>
 some l8
def BP (p1:(List Int))(p2:Step):Nat->Int->(List Int)->Option ((Int×Bool) ⊕ (List Int))
 | 0,_,_=>none
 | n+1,t6,l7=>
  if (decide (t6<(Sh.len p2.args)))=true then
   (Sh.get p2.args t6).bind λxz=>
   (
    if (decide (xz<0))=true then
     some true
    else
     some (decide ((Sh.len p1)<=xz))
   ).bind λt97=>
   if t97=true then
    some (Sum.inl (-1,false))
   else
    (Sh.get p1 xz).bind λc101=>
    (Sh.app l7 [c101] 8).bind λl102=>
    BP p1 p2 n (Sh.w (t6+1)) l102
  else
   some (Sum.inr l7)
def Bf (N:Nat)(qh:Ag->(List Int)->Block->Option (Int))(p0:Ag)(p1:(List Int))(p2:Step):Option (Int×Bool):=
 (Sh.mk 0 (Sh.len p2.args) 8).bind λl3=>
 Sh.cont (BP p1 p2 N 0 []) (id) λl8=>
 (
  if (!decide (p2.BB=0))=true then
   if (!decide (p2.op=6))=true then
    some true
   else
   if (decide (p2.BB<1))=true then
    some true
   else
   if (decide ((Sh.len p1)<p2.BB))=true then
    some true
   else
    (Sh.get p1 (Sh.w (p2.BB-1))).bind λc88=>
    some (decide (c88=0))
  else
   some false
 ).bind λt12=>
 if t12=true then
  some (-1,false)
 else
  (DP p2.op).bind λwC=>
  if wC=true then
   (
    if (decide ((Sh.len l8)=1))=true then
     (Sh.get l8 0).bind λc38=>
     if (!decide (c38=0))=true then
      if (decide (p2.num=0))=true then
       some (decide ((Sh.len p2.kids)=0))
      else
       some false
     else
      some false
    else
     some false
   ).bind λvJ=>
   (
    Option.bind (
     if vJ=true then
      if (decide (p2.op=16))=true then
       some true
      else
       some (decide (p2.op=17))
     else
      some false
    ) λt28=>
    if t28=true then
     (Sh.get l8 0).bind λyv=>
     (Gs p0.decls yv).bind λwB=>
     some (!wB.2)
    else
     some vJ
   ).bind λwo=>
   some (-1,wo)
  else
  if (decide (p2.op=7))=true then
   (
    if (!decide ((Sh.len l8)=1))=true then
     some true
    else
     (Sh.get l8 0).bind λyi=>
     if (!decide (yi=0))=true then
      some true
     else
     if (!decide (p2.num=0))=true then
      some true
     else
      some (!decide ((Sh.len p2.kids)=2))
   ).bind λt45=>
   if t45=true then
    some (-1,false)
   else
    (Sh.mk [] 2 24).bind λl50=>
    (CF N qh p0 p1 p2.kids l50).bind λyy=>
    some (yy.1,yy.2)
  else
  if (decide (p2.op=8))=true then
   (CA N p0 p2.num).bind λwq=>
   (
    if (!decide ((Sh.len l8)=1))=true then
     some true
    else
     (Sh.get l8 0).bind λzy=>
     if (!decide (zy=p2.num))=true then
      some true
     else
     if (decide ((Sh.len wq)=0))=true then
      some true
     else
      some (!decide ((Sh.len p2.kids)=(Sh.len wq)))
   ).bind λt62=>
   if t62=true then
    some (-1,false)
   else
    (CF N qh p0 p1 p2.kids wq).bind λzA=>
    some (zA.1,zA.2)
  else
   (
    if (decide (0<(Sh.len p2.kids)))=true then
     some true
    else
    if (decide (p2.op=10))=true then
     if (decide (0<=p2.num))=true then
      if (decide (p2.num<(Sh.len p0.funcs)))=true then
       (Sh.get p0.funcs p2.num).bind λwu=>
       some (decide (0<(Sh.len wu.Ar)))
      else
       some false
     else
      some false
    else
     some false
   ).bind λt73=>
   if t73=true then
    some (-1,false)
   else
    (Ai N p0 p2.op p2.num l8).bind λvn=>
    some (vn.1,vn.2)
def BM (N:Nat)(p0:Ag)(p2:Block)(qh:Ag->(List Int)->Block->Option (Int)):Nat->Int->(List Int)->Option ((Int) ⊕ (List Int))
 | 0,_,_=>none
 | n+1,t6,l7=>
  if (decide (t6<(Sh.len p2.steps)))=true then
   Sh.cont (
    (Sh.get p2.steps t6).bind λvm=>
    (Bf N qh p0 l7 vm).bind λwv=>
    if (!wv.2)=true then
     some (Sum.inl (Sum.inl (-1)))
    else
     (DP vm.op).bind λwO=>
     if (!wO)=true then
      (Sh.app l7 [wv.1] 8).bind λl39=>
      some (Sum.inr l39)
     else
      some (Sum.inr l7)
   ) (id) λvy=>
   BM N p0 p2 qh n (Sh.w (t6+1)) vy
  else
   some (Sum.inr l7)
def DO (N:Nat)(qh:Ag->(List Int)->Block->Option (Int))(p0:Ag)(p1:(List Int))(p2:Block):Option (Int):=
 (Bz p1).bind λq3=>
 Sh.cont (BM N p0 p2 qh N 0 q3) (id) λl8=>
 (
  if (decide (p2.result<0))=true then
   some true
  else
   some (decide ((Sh.len l8)<=p2.result))
 ).bind λt12=>
 if t12=true then
  some (-1)
 else
  (Sh.get l8 p2.result).bind λvl=>
  some vl
def Ce (N:Nat):Nat->Ag->(List Int)->Block->Option (Int)
 | 0,_,_,_=>none
 | n+1,p0,p1,p2=>DO N (Ce N n) p0 p1 p2
def BT (N:Nat)(p0:Ag)(p1:(List Int))(p2:Block):Option (Int):=Ce N N p0 p1 p2
def D3 (N:Nat)(p0:AT)(q3:Ag×Bool):Nat->Int->Option ((Bool) ⊕ (Unit))
 | 0,_=>none
 | n+1,t12=>
  if (decide (t12<(Sh.len p0.AH)))=true then
   (Sh.get p0.AH t12).bind λtL=>
   (
    Option.bind (I5 N tL.body) λvP=>
    if (decide (vP<0))=true then
     some true
    else
     (BT N q3.1 tL.params tL.body).bind λwv=>
     some (!decide (wv=tL.result))
   ).bind λt22=>
   if t22=true then
    some (Sum.inl false)
   else
    D3 N p0 q3 n (Sh.w (t12+1))
  else
   some (Sum.inr ())
def Hf (N:Nat)(p0:AT):Option (Bool):=
 (GB N p0).bind λq3=>
 if (!q3.2)=true then
  some false
 else
  Sh.cont (D3 N p0 q3 N 0) (id) λ()=>
  some true
def GK (qt:Bool)(p0:Step):Option (Bool):=
 if qt=true then
  (DP p0.op).bind λq3=>
  if (!q3)=true then
   some (decide (p0.BB=0))
  else
   some false
 else
  some false
def Cz (vW:Step)(qx:Bool->Block->Option (Bool)):Nat->Int->Bool->Option (Bool)
 | 0,_,_=>none
 | n+1,t17,f18=>
  if (decide (t17<(Sh.len vW.kids)))=true then
   (Sh.get vW.kids t17).bind λvm=>
   (qx f18 vm).bind λyu=>
   Cz vW qx n (Sh.w (t17+1)) yu
  else
   some f18
def Cy (N:Nat)(p0:Block)(qx:Bool->Block->Option (Bool)):Nat->Int->Bool->Option (Bool)
 | 0,_,_=>none
 | n+1,t4,f5=>
  if (decide (t4<(Sh.len p0.steps)))=true then
   (Sh.get p0.steps t4).bind λvW=>
   (GK f5 vW).bind λtG=>
   (Cz vW qx N 0 tG).bind λf19=>
   Cy N p0 qx n (Sh.w (t4+1)) f19
  else
   some f5
def Im (N:Nat)(qx:Bool->Block->Option (Bool))(qt:Bool)(p0:Block):Option (Bool):=
 (Cy N p0 qx N 0 qt).bind λf6=>
 some f6
def FZ (N:Nat):Nat->Bool->Block->Option (Bool)
 | 0,_,_=>none
 | n+1,qt,p0=>Im N (FZ N n) qt p0
def Lk (N:Nat)(qt:Bool)(p0:Block):Option (Bool):=FZ N N qt p0
def G3 (N:Nat)(p0:Block):Option (Bool):=
 (Lk N true p0).bind λq4=>
 some q4
def Fg (N:Nat)(p0:AT):Nat->Int->Option ((Bool) ⊕ (Unit))
 | 0,_=>none
 | n+1,t11=>
  if (decide (t11<(Sh.len p0.AH)))=true then
   (Sh.get p0.AH t11).bind λrl=>
   (G3 N rl.body).bind λrh=>
   if (!rh)=true then
    some (Sum.inl false)
   else
    Fg N p0 n (Sh.w (t11+1))
  else
   some (Sum.inr ())
def J7 (N:Nat)(p0:AT):Option (Bool):=
 (Hf N p0).bind λq4=>
 if (!q4)=true then
  some false
 else
  Sh.cont (Fg N p0 N 0) (id) λ()=>
  some true
def Iu (N:Nat)(p0 p1:Ad):Option (Bool):=
 (HY N p0.params p1.params).bind λq4=>
 if (!q4)=true then
  some false
 else
  (HY N p0.Ar p1.Ar).bind λwD=>
  if (!wD)=true then
   some false
  else
  if (!decide (p0.result=p1.result))=true then
   some false
  else
   (Ly N p0.body p1.body).bind λq24=>
   if (!q24)=true then
    some false
   else
    some true
def EO (N:Nat)(p0:(List Ad))(p1:(List Ad)):Nat->Int->Option ((Bool) ⊕ (Unit))
 | 0,_=>none
 | n+1,i10=>
  if (decide (i10<(Sh.len p0)))=true then
   (Sh.get p0 i10).bind λsZ=>
   (Sh.get p1 i10).bind λrl=>
   (Iu N sZ rl).bind λsT=>
   if (!sT)=true then
    some (Sum.inl false)
   else
    EO N p0 p1 n (Sh.w (i10+1))
  else
   some (Sum.inr ())
def H4 (N:Nat)(p0:(List Ad))(p1:(List Ad)):Option (Bool):=
 if (!decide ((Sh.len p0)=(Sh.len p1)))=true then
  some false
 else
  Sh.cont (EO N p0 p1 N 0) (id) λ()=>
  some true
def GV (N:Nat)(p0 p1:AT):Option (Bool):=
 (J4 N p0.decls p1.decls).bind λq4=>
 if (!q4)=true then
  some false
 else
  (H4 N p0.AH p1.AH).bind λwD=>
  if (!wD)=true then
   some false
  else
   some true
end RC
namespace RC
def DI (p0:(List Ac)):Option (List Ac):=
 (Sh.app ([]:List Ac) p0 40).bind λl6=>
 some l6
def Ci (p0:(List Bh)):Option (List Bh):=
 (Sh.app ([]:List Bh) p0 24).bind λl6=>
 some l6
end RC
namespace RC
def EN (cs:List Bh):Nat->Int->List Bh->Option (List Bh)
 | 0,_,_=>none
 | n+1,i,q=>
  if decide (i<Sh.len cs)=true then
   (Sh.get cs i).bind λc=>
   (Bz c.fields).bind λf=>
   (Sh.get q i).bind λ_=>
   EN cs n (Sh.w (i+1)) (Sh.put q i (Bh.mk f))
  else some q
def ER (N:Nat)(m:Int):Nat->Int->List Ac->Option (List Ac)
 | 0,_,_=>none
 | n+1,t,l=>
  if decide (t<m)=true then
   (Sh.get l t).bind λd=>
   (Ci d.cons).bind λrh=>
   (EN d.cons N 0 rh).bind λq=>
   ER N m n (Sh.w (t+1)) (Sh.put l t (Ac.mk d.from_ d.to q))
  else some l
def IH (N:Nat)(p0:List Ac):Option (List Ac):=
 (DI p0).bind λq9=>
 (ER N (Sh.len q9) N 0 q9).bind λl=>
 some l
end RC
namespace RC
def FC:Nat->Int->Int->(List Int)->Option (Int×(List Int))
 | 0,_,_,_=>none
 | n+1,k4,i5,l6=>
  if (decide (i5<(Sh.len l6)))=true then
   (Sh.get l6 i5).bind λrQ=>
   FC  n (Sh.w (k4+1)) (Sh.w (i5+1)) (Sh.put l6 i5 k4)
  else
   some (k4,l6)
def GS (N:Nat)(s0:(List Int))(p1:Int):Option (Int×(List Int)):=
 (FC  N p1 0 s0).bind λ(k7,l8)=>
 some (k7,l8)
def E8 (N:Nat):Nat->Int->Int->(List Bh)->Option (Int×(List Bh))
 | 0,_,_,_=>none
 | n+1,k4,i5,l6=>
  if (decide (i5<(Sh.len l6)))=true then
   (Sh.get l6 i5).bind λsY=>
   (GS N sY.fields k4).bind λvO=>
   E8 N n vO.1 (Sh.w (i5+1)) (Sh.put l6 i5 (Bh.mk vO.2))
  else
   some (k4,l6)
def Jn (N:Nat)(s0:(List Bh))(p1:Int):Option (Int×(List Bh)):=
 (E8 N N p1 0 s0).bind λ(k7,l8)=>
 some (k7,l8)
def Ej (N:Nat):Nat->Int->Int->(List Ac)->Option (Int×(List Ac))
 | 0,_,_,_=>none
 | n+1,k4,i5,l6=>
  if (decide (i5<(Sh.len l6)))=true then
   (Sh.get l6 i5).bind λrQ=>
   (Sh.get (Sh.put l6 i5 (Ac.mk k4 rQ.to rQ.cons)) i5).bind λrl=>
   (Sh.get (Sh.put (Sh.put l6 i5 (Ac.mk k4 rQ.to rQ.cons)) i5 (Ac.mk rl.from_ (Sh.w (k4+1)) rl.cons)) i5).bind λwg=>
   (Jn N wg.cons (Sh.w ((Sh.w (k4+1))+1))).bind λwc=>
   Ej N n wc.1 (Sh.w (i5+1)) (Sh.put (Sh.put (Sh.put l6 i5 (Ac.mk k4 rQ.to rQ.cons)) i5 (Ac.mk rl.from_ (Sh.w (k4+1)) rl.cons)) i5 (Ac.mk wg.from_ wg.to wc.2))
  else
   some (k4,l6)
def Is (N:Nat)(s0:(List Ac))(p1:Int):Option (Int×(List Ac)):=
 (Ej N N p1 0 s0).bind λ(k7,l8)=>
 some (k7,l8)
def EV (qp:(List Step)->Int->Option (Int×(List Step))):Nat->Int->Int->(List Block)->Option (Int×(List Block))
 | 0,_,_,_=>none
 | n+1,k4,i5,l6=>
  if (decide (i5<(Sh.len l6)))=true then
   (Sh.get l6 i5).bind λrQ=>
   (qp rQ.steps k4).bind λtQ=>
   (Sh.get (Sh.put l6 i5 (Block.mk tQ.2 rQ.result)) i5).bind λtL=>
   EV qp n (Sh.w (tQ.1+1)) (Sh.w (i5+1)) (Sh.put (Sh.put l6 i5 (Block.mk tQ.2 rQ.result)) i5 (Block.mk tL.steps tQ.1))
  else
   some (k4,l6)
def H5 (N:Nat)(qp:(List Step)->Int->Option (Int×(List Step)))(s0:(List Block))(p1:Int):Option (Int×(List Block)):=
 (EV qp N p1 0 s0).bind λ(k7,l8)=>
 some (k7,l8)
def Dz (N:Nat)(qp:(List Step)->Int->Option (Int×(List Step))):Nat->Int->Int->(List Step)->Option (Int×(List Step))
 | 0,_,_,_=>none
 | n+1,k4,i5,l6=>
  if (decide (i5<(Sh.len l6)))=true then
   (Sh.get l6 i5).bind λrQ=>
   (Sh.get (Sh.put l6 i5 (Step.mk k4 rQ.num rQ.BB rQ.args rQ.kids)) i5).bind λrl=>
   (Sh.get (Sh.put (Sh.put l6 i5 (Step.mk k4 rQ.num rQ.BB rQ.args rQ.kids)) i5 (Step.mk rl.op (Sh.w (k4+1)) rl.BB rl.args rl.kids)) i5).bind λtZ=>
   (Sh.get (Sh.put (Sh.put (Sh.put l6 i5 (Step.mk k4 rQ.num rQ.BB rQ.args rQ.kids)) i5 (Step.mk rl.op (Sh.w (k4+1)) rl.BB rl.args rl.kids)) i5 (Step.mk tZ.op tZ.num (Sh.w ((Sh.w (k4+1))+1)) tZ.args tZ.kids)) i5).bind λue=>
   (GS N ue.args (Sh.w ((Sh.w ((Sh.w (k4+1))+1))+1))).bind λvP=>
   (Sh.get (Sh.put (Sh.put (Sh.put (Sh.put l6 i5 (Step.mk k4 rQ.num rQ.BB rQ.args rQ.kids)) i5 (Step.mk rl.op (Sh.w (k4+1)) rl.BB rl.args rl.kids)) i5 (Step.mk tZ.op tZ.num (Sh.w ((Sh.w (k4+1))+1)) tZ.args tZ.kids)) i5 (Step.mk ue.op ue.num ue.BB vP.2 ue.kids)) i5).bind λyA=>
   (H5 N qp yA.kids vP.1).bind λvV=>
   Dz N qp n vV.1 (Sh.w (i5+1)) (Sh.put (Sh.put (Sh.put (Sh.put (Sh.put l6 i5 (Step.mk k4 rQ.num rQ.BB rQ.args rQ.kids)) i5 (Step.mk rl.op (Sh.w (k4+1)) rl.BB rl.args rl.kids)) i5 (Step.mk tZ.op tZ.num (Sh.w ((Sh.w (k4+1))+1)) tZ.args tZ.kids)) i5 (Step.mk ue.op ue.num ue.BB vP.2 ue.kids)) i5 (Step.mk yA.op yA.num yA.BB yA.args vV.2))
  else
   some (k4,l6)
def JM (N:Nat)(qp:(List Step)->Int->Option (Int×(List Step)))(s0:(List Step))(p1:Int):Option (Int×(List Step)):=
 (Dz N qp N p1 0 s0).bind λ(k7,l8)=>
 some (k7,l8)
def Ea (N:Nat):Nat->(List Step)->Int->Option (Int×(List Step))
 | 0,_,_=>none
 | n+1,s0,p1=>JM N (Ea N n) s0 p1
def KC (N:Nat)(s0:(List Step))(p1:Int):Option (Int×(List Step)):=Ea N N s0 p1
def Dk (N:Nat):Nat->Int->Int->(List Ad)->Option (Int×(List Ad))
 | 0,_,_,_=>none
 | n+1,k4,i5,l6=>
  if (decide (i5<(Sh.len l6)))=true then
   (Sh.get l6 i5).bind λrQ=>
   (GS N rQ.params k4).bind λtQ=>
   (Sh.get (Sh.put l6 i5 (Ad.mk tQ.2 rQ.Ar rQ.result rQ.body)) i5).bind λtL=>
   (GS N tL.Ar tQ.1).bind λrh=>
   (Sh.get (Sh.put (Sh.put l6 i5 (Ad.mk tQ.2 rQ.Ar rQ.result rQ.body)) i5 (Ad.mk tL.params rh.2 tL.result tL.body)) i5).bind λwA=>
   (Sh.get (Sh.put (Sh.put (Sh.put l6 i5 (Ad.mk tQ.2 rQ.Ar rQ.result rQ.body)) i5 (Ad.mk tL.params rh.2 tL.result tL.body)) i5 (Ad.mk wA.params wA.Ar rh.1 wA.body)) i5).bind λwL=>
   (KC N wL.body.steps (Sh.w (rh.1+1))).bind λwv=>
   (Sh.get (Sh.put (Sh.put (Sh.put (Sh.put l6 i5 (Ad.mk tQ.2 rQ.Ar rQ.result rQ.body)) i5 (Ad.mk tL.params rh.2 tL.result tL.body)) i5 (Ad.mk wA.params wA.Ar rh.1 wA.body)) i5 (Ad.mk wL.params wL.Ar wL.result (Block.mk wv.2 wL.body.result))) i5).bind λyk=>
   Dk N n (Sh.w (wv.1+1)) (Sh.w (i5+1)) (Sh.put (Sh.put (Sh.put (Sh.put (Sh.put l6 i5 (Ad.mk tQ.2 rQ.Ar rQ.result rQ.body)) i5 (Ad.mk tL.params rh.2 tL.result tL.body)) i5 (Ad.mk wA.params wA.Ar rh.1 wA.body)) i5 (Ad.mk wL.params wL.Ar wL.result (Block.mk wv.2 wL.body.result))) i5 (Ad.mk yk.params yk.Ar yk.result (Block.mk yk.body.steps wv.1)))
  else
   some (k4,l6)
def G0 (N:Nat)(s0:(List Ad))(p1:Int):Option (Int×(List Ad)):=
 (Dk N N p1 0 s0).bind λ(k7,l8)=>
 some (k7,l8)
def Gu (N:Nat)(s0:(List Ac))(s1:(List Ad))(p1:Int):Option (Int×(List Ac)×(List Ad)):=
 (Is N s0 p1).bind λq3=>
 (G0 N s1 q3.1).bind λq6=>
 some (q6.1,q3.2,q6.2)
def FE (p0:(List Int)):Nat->Int->Int->Option ((Int) ⊕ (Int))
 | 0,_,_=>none
 | n+1,k4,i5=>
  if (decide (i5<(Sh.len p0)))=true then
   (Sh.get p0 i5).bind λsY=>
   if (!decide (sY=k4))=true then
    some (Sum.inl (-1))
   else
    FE p0 n (Sh.w (k4+1)) (Sh.w (i5+1))
  else
   some (Sum.inr k4)
def GJ (N:Nat)(p0:(List Int))(p1:Int):Option (Int):=
 Sh.cont (FE p0 N p1 0) (id) λk6=>
 some k6
end RC
namespace RC
def EC (i5:Int)(p0:(List Ac)):Nat->Int->(List Bh)->Option (List Bh)
 | 0,_,_=>none
 | n+1,k17,l18=>
  (Sh.get p0 i5).bind λue=>
  if (decide (k17<(Sh.len ue.cons)))=true then
   (Sh.get ue.cons k17).bind λyA=>
   (DW yA.fields).bind λvV=>
   (Sh.app l18 [Bh.mk vV] 24).bind λl30=>
   EC i5 p0 n (Sh.w (k17+1)) l30
  else
   some l18
def El (N:Nat)(p0:(List Ac)):Nat->Int->(List Ac)->Option (List Ac)
 | 0,_,_=>none
 | n+1,i5,l6=>
  if (decide (i5<(Sh.len p0)))=true then
   (EC i5 p0 N 0 []).bind λl19=>
   (Sh.get p0 i5).bind λwg=>
   (Sh.app l6 [Ac.mk wg.from_ wg.to l19] 40).bind λl22=>
   El N p0 n (Sh.w (i5+1)) l22
  else
   some l6
def Iz (N:Nat)(p0:(List Ac)):Option (List Ac):=
 (El N p0 N 0 []).bind λl7=>
 some l7
def Gi (s0:(List Block))(p0:Step):Option (Step):=
 (Bz p0.args).bind λq3=>
 some (Step.mk p0.op p0.num p0.BB q3 s0)
def FA (N:Nat)(p0:(List Bh)):Nat->Int->Int->Option ((Int) ⊕ (Int))
 | 0,_,_=>none
 | n+1,k4,i5=>
  if (decide (i5<(Sh.len p0)))=true then
   (Sh.get p0 i5).bind λtC=>
   (GJ N tC.fields k4).bind λtG=>
   if (decide (tG<0))=true then
    some (Sum.inl (-1))
   else
    FA N p0 n tG (Sh.w (i5+1))
  else
   some (Sum.inr k4)
def Ji (N:Nat)(p0:(List Bh))(p1:Int):Option (Int):=
 Sh.cont (FA N p0 N p1 0) (id) λk6=>
 some k6
def Et (N:Nat)(p0:(List Ac)):Nat->Int->Int->Option ((Int) ⊕ (Int))
 | 0,_,_=>none
 | n+1,k4,i5=>
  if (decide (i5<(Sh.len p0)))=true then
   (Sh.get p0 i5).bind λsY=>
   if (!decide (sY.from_=k4))=true then
    some (Sum.inl (-1))
   else
   if (!decide (sY.to=(Sh.w (k4+1))))=true then
    some (Sum.inl (-1))
   else
    (Ji N sY.cons (Sh.w ((Sh.w (k4+1))+1))).bind λvV=>
    if (decide (vV<0))=true then
     some (Sum.inl (-1))
    else
     Et N p0 n vV (Sh.w (i5+1))
  else
   some (Sum.inr k4)
def Ip (N:Nat)(p0:(List Ac))(p1:Int):Option (Int):=
 Sh.cont (Et N p0 N p1 0) (id) λk6=>
 some k6
def ES (p0:(List Block))(qq:(List Step)->Int->Option (Int)):Nat->Int->Int->Option ((Int) ⊕ (Int))
 | 0,_,_=>none
 | n+1,k4,i5=>
  if (decide (i5<(Sh.len p0)))=true then
   (Sh.get p0 i5).bind λtC=>
   (qq tC.steps k4).bind λtG=>
   if (decide (tG<0))=true then
    some (Sum.inl (-1))
   else
   if (!decide (tC.result=tG))=true then
    some (Sum.inl (-1))
   else
    ES p0 qq n (Sh.w (tG+1)) (Sh.w (i5+1))
  else
   some (Sum.inr k4)
def H9 (N:Nat)(qq:(List Step)->Int->Option (Int))(p0:(List Block))(p1:Int):Option (Int):=
 Sh.cont (ES p0 qq N p1 0) (id) λk6=>
 some k6
def D2 (N:Nat)(p0:(List Step))(qq:(List Step)->Int->Option (Int)):Nat->Int->Int->Option ((Int) ⊕ (Int))
 | 0,_,_=>none
 | n+1,k4,i5=>
  if (decide (i5<(Sh.len p0)))=true then
   (Sh.get p0 i5).bind λsY=>
   if (!decide (sY.op=k4))=true then
    some (Sum.inl (-1))
   else
   if (!decide (sY.num=(Sh.w (k4+1))))=true then
    some (Sum.inl (-1))
   else
   if (!decide (sY.BB=(Sh.w ((Sh.w (k4+1))+1))))=true then
    some (Sum.inl (-1))
   else
    (GJ N sY.args (Sh.w ((Sh.w ((Sh.w (k4+1))+1))+1))).bind λwO=>
    if (decide (wO<0))=true then
     some (Sum.inl (-1))
    else
     (H9 N qq sY.kids wO).bind λym=>
     if (decide (ym<0))=true then
      some (Sum.inl (-1))
     else
      D2 N p0 qq n ym (Sh.w (i5+1))
  else
   some (Sum.inr k4)
def JH (N:Nat)(qq:(List Step)->Int->Option (Int))(p0:(List Step))(p1:Int):Option (Int):=
 Sh.cont (D2 N p0 qq N p1 0) (id) λk6=>
 some k6
def EY (N:Nat):Nat->(List Step)->Int->Option (Int)
 | 0,_,_=>none
 | n+1,p0,p1=>JH N (EY N n) p0 p1
def KD (N:Nat)(p0:(List Step))(p1:Int):Option (Int):=EY N N p0 p1
def Dm (N:Nat)(p0:(List Ad)):Nat->Int->Int->Option ((Int) ⊕ (Int))
 | 0,_,_=>none
 | n+1,k4,i5=>
  if (decide (i5<(Sh.len p0)))=true then
   (Sh.get p0 i5).bind λtC=>
   (GJ N tC.params k4).bind λtG=>
   if (decide (tG<0))=true then
    some (Sum.inl (-1))
   else
    (GJ N tC.Ar tG).bind λrh=>
    if (decide (rh<0))=true then
     some (Sum.inl (-1))
    else
    if (!decide (tC.result=rh))=true then
     some (Sum.inl (-1))
    else
     (KD N tC.body.steps (Sh.w (rh+1))).bind λzo=>
     if (decide (zo<0))=true then
      some (Sum.inl (-1))
     else
     if (!decide (tC.body.result=zo))=true then
      some (Sum.inl (-1))
     else
      Dm N p0 n (Sh.w (zo+1)) (Sh.w (i5+1))
  else
   some (Sum.inr k4)
def HE (N:Nat)(p0:(List Ad))(p1:Int):Option (Int):=
 Sh.cont (Dm N p0 N p1 0) (id) λk6=>
 some k6
def Gy (N:Nat)(p0:AT)(p1:Int):Option (Int):=
 (Ip N p0.decls p1).bind λq3=>
 if (decide (q3<0))=true then
  some (-1)
 else
  (HE N p0.AH q3).bind λq9=>
  if (decide (q9<0))=true then
   some (-1)
  else
   some q9
end RC
namespace Sh
def shr (k:Go.IntKind)(a b:Int):Int:=a.fdiv (2 ^ (min b.toNat k.bits))
end Sh
namespace Go.Abs
open Go
section
variable {P : Program} {k : Nat} {ops : Array Oper} {Q : Exit -> St -> Prop} {ds : List (Option Tmp)} {r : List Oper} {n : Nat} {e : Nat -> AV} {st : List Row} {T T' ty : TypeId} {ps : String} {ed : Array Edge} {t : Tmp} {x y : Operand} {gd : Option (Nat × Bool)} {kk tz : IntKind} {a b : Int}
theorem iE {C:List Row->AV->Prop}{op:Op}{d:Option Tmp}{gd:Option (Nat×Bool)}(hg:GO ds gd e)(h :∀F os a w,Rel F os ⟨n,e,st⟩ a w->∃st' v,C st' v/\∃z w' F' os',(execOp a.eval ⟨d,op,ty,ps,ed,gd⟩).run P w=.ok (.value z) w'/\Rel F' os' ⟨n,e,st'⟩ a w'/\Ae F' w' os' v z/\Ext F os w F' os' w' k)
  (hk :∀st' v,C st' v->AO P k ops Q (ds++[d]) r (St.put ⟨n,e,st'⟩ d v)):AO P k ops Q ds (⟨d,op,ty,ps,ed,gd⟩::r) ⟨n,e,st⟩:=by
 intro hl tr ry F os a w hr Q' hQ;have ho:ops[ds.length]?=some ⟨d,op,ty,ps,ed,gd⟩:=by have:=hl 0;simpa using this.symm
 have wW:DY n d=true:=ry _ (by have:=mB (l:=ops.toList) (i:=ds.length) (by simpa using ho);exact this);have hdn:∀d∈ds,DY n d=true:=λd hd=>by
  obtain⟨j,hj⟩:=ma.1 hd;have h1:=tr j d hj;cases hoj:ops[j]? with
  | none=>rw[hoj]at h1;cases h1
  | some oj=>
   rw[hoj]at h1;simp only[nC,mE]at h1;subst h1;exact ry oj (by have:=mB (l:=ops.toList) (i:=j) (by simpa using hoj);exact this)
 have vR :∀(j:Nat),r[j]?=ops[(ds++[d]).length+j]?:=λj=>by
  have:=hl (j+1);simp only[mz]at this;rw[this];congr 1;simp;omega
 have tx :∀(j:Nat) d',(ds++[d])[j]?=some d'->(ops[j]?).map (·.dst)=some d':=λj d' hj=>by
  rcases ng j ds.length with h1|h1|h1
  ·rw[mM h1]at hj;exact tr j d' hj
  ·subst h1;rw[Je,mE]at hj;rw[ho];simp[hj]
  ·rw[nH (by simp;omega)]at hj;cases hj
 unfold wpList;rcases WL hr tr hdn (GO.guard (A:=True) (B:=False) hg mD) with ⟨hw,_⟩|⟨_,h1⟩
 ·rw[mI hw];obtain⟨st',v,hC,z,w',F',os',h1,h2,h3,h4⟩:=h F os a w hr;refine .inl ?_;unfold Oper.wp;rw[h1];simp only[Oper.upon];refine hk st' v hC vR tx (by cases d<;>exact ry) F' os' _ w' (h2.put wW h3) Q' λ_ _ _ hp=>hQ _ _ _ (hp.trans h4)
 ·exact h1.elim
theorem iy (hg:GO ds gd e)(hx:St.ev ⟨n,e,st⟩ x=.int kk a)(hy:St.ev ⟨n,e,st⟩ y=.int tz b)(hb:0<=b)(hk:AO P k ops Q (ds++[some t]) r ⟨n,FY e t (.int kk (Sh.shr kk a b)),st⟩):
  AO P k ops Q ds (⟨some t,.binOp .shr T x y T',ty,ps,ed,gd⟩::r) ⟨n,e,st⟩:=by
 refine iE (C:=λst' v=>st'=st/\v=.int kk (Sh.shr kk a b)) hg (λF os ac w rT=>?_) (λst' v ⟨h1,h2⟩=>by subst h1;subst h2;exact hk);have e1:=rT.ev x;rw[hx]at e1;simp only[Ae]at e1;have e2:=rT.ev y;rw[hy]at e2;simp only[Ae]at e2;refine⟨st,_,⟨rfl,rfl⟩,.int kk (Sh.shr kk a b),w,F,os,?_,rT,by simp[Ae],Ext.refl _ _ _ _⟩;have h0:¬ b<0:=by omega
 simp only[execOp,nA,e1,e2];simp[eqGuard,binOp,Op.shift,h0,Result.andThen,Sh.shr]
end
end Go.Abs
namespace RC
open Go Go.Abs
theorem Yp {x y z:Nat}(s:Step):(Bu x y z s).all (λc=>Em c&&NM c)=true:=by rw[DK];rfl
def Fm (s v:List Int)(i:Int):Option (List Int):=
 match v with
 | [x]=>if 0<=i/\i<=s.length/\(s.length+1)*8<=140737488355328 then some (s.take i.toNat++x::s.drop i.toNat) else none
 | _=>none
def Fw (s0 s1:List Step):Option (List Step):=if s0.length+s1.length<=1000000 then some (s0++s1) else none
end RC
namespace RC
def GF (p0:(List Int))(p1:Int):Nat->Int->Option ((Bool) ⊕ (Unit))
 | 0,_=>none
 | n+1,i4=>
  if (decide (i4<(Sh.len p0)))=true then
   (Sh.get p0 i4).bind λuY=>
   if (decide (uY=p1))=true then
    some (Sum.inl true)
   else
    GF p0 p1 n (Sh.w (i4+1))
  else
   some (Sum.inr ())
def Lo (N:Nat)(p0:(List Int))(p1:Int):Option (Bool):=
 Sh.cont (GF p0 p1 N 0) (id) λ()=>
 some false
def D8 (N:Nat)(p0:Ad):Nat->Int->(List Int)->Option (List Int)
 | 0,_,_=>none
 | n+1,i5,l6=>
  if (decide (i5<(Sh.len p0.params)))=true then
   (
    Option.bind (
     (Sh.get p0.params i5).bind λwg=>
     if (!decide (wg=0))=true then
      (Lo N p0.Ar i5).bind λq23=>
      some (!q23)
     else
      some false
    ) λt17=>
    if t17=true then
     (Sh.app l6 [i5] 8).bind λyB=>
     some yB
    else
     some l6
   ).bind λuM=>
   D8 N p0 n (Sh.w (i5+1)) uM
  else
   some l6
def Iv (N:Nat)(p0:Ad):Option (List Int):=
 (D8 N p0 N 0 []).bind λl7=>
 some l7
def E7 (N:Nat)(sK:Int)(p0:AT)(p1:(List Int))(p2:Step)(q3:(List Int)):Nat->Int->Int->Option ((Int) ⊕ (Int))
 | 0,_,_=>none
 | n+1,t17,i18=>
  if (decide (i18<sK))=true then
   (
    if (decide (p2.op=8))=true then
     (Sh.get q3 i18).bind λc43=>
     (CH N p0.decls c43).bind λq44=>
     (Gm p1 q44).bind λvz=>
     some vz
    else
     some p1
   ).bind λuf=>
   (Sh.get p2.kids i18).bind λyk=>
   (Bl N p0 uf yk).bind λuD=>
   (
    if (decide (uD<0))=true then
     some true
    else
    if (decide (0<i18))=true then
     some (!decide (uD=t17))
    else
     some false
   ).bind λt35=>
   if t35=true then
    some (Sum.inl (-1))
   else
    E7 N sK p0 p1 p2 q3 n uD (Sh.w (i18+1))
  else
   some (Sum.inr t17)
def Gw (N:Nat)(p0:AT)(p1:(List Int))(p2:Step):Option (Int):=
 (Ik N p0.decls p2.num).bind λq3=>
 (
  if (decide (p2.op=7))=true then
   some 2
  else
   some (Sh.len q3)
 ).bind λsK=>
 (
  if (decide (sK=0))=true then
   some true
  else
   some (!decide ((Sh.len p2.kids)=sK))
 ).bind λt10=>
 if t10=true then
  some (-1)
 else
  Sh.cont (E7 N sK p0 p1 p2 q3 N 0 0) (id) λt19=>
  some t19
def Hz (N:Nat)(p0:AT)(p1:(List Int))(p2:Step):Option (Int):=
 (
  if (!decide (p2.num=0))=true then
   (IZ p2.op).bind λwh=>
   if (!wh)=true then
    some true
   else
    (Bb p1 p2).bind λwi=>
    if (!wi)=true then
     some true
    else
    if (decide (0<(Sh.len p2.kids)))=true then
     if (!decide (p2.op=7))=true then
      some (!decide (p2.op=8))
     else
      some false
    else
     some false
  else
   (Bb p1 p2).bind λvY=>
   if (!vY)=true then
    some true
   else
   if (decide (0<(Sh.len p2.kids)))=true then
    if (!decide (p2.op=7))=true then
     some (!decide (p2.op=8))
    else
     some false
   else
    some false
 ).bind λt4=>
 if t4=true then
  some (-1)
 else
  Sh.cont (
   if (decide (p2.op=0))=true then
    (
     if (decide ((Sh.len p2.args)=0))=true then
      (Bd p2.num (-999) 999).bind λsT=>
      some sT
     else
      some false
    ).bind λt15=>
    if t15=true then
     some (Sum.inl 0)
    else
     some (Sum.inr ())
   else
    (
     if (decide (p2.op=1))=true then
      some true
     else
     if (decide (p2.op=2))=true then
      some true
     else
     if (decide (p2.op=3))=true then
      some true
     else
      some (decide (p2.op=4))
    ).bind λt22=>
    if t22=true then
     (Be N p1 p2.args [(0:Int),0]).bind λvP=>
     if vP=true then
      some (Sum.inl 0)
     else
      some (Sum.inr ())
    else
    if (decide (p2.op=5))=true then
     (Be N p1 p2.args [(0:Int)]).bind λuD=>
     if uD=true then
      some (Sum.inl 0)
     else
      some (Sum.inr ())
    else
    if (decide (p2.op=6))=true then
     (
      Option.bind (Cq N p0.decls p2.num) λwN=>
      if (decide (0<wN))=true then
       (CH N p0.decls p2.num).bind λvz=>
       (Be N p1 p2.args vz).bind λxT=>
       some xT
      else
       some false
     ).bind λt38=>
     if t38=true then
      (Cq N p0.decls p2.num).bind λym=>
      some (Sum.inl ym)
     else
      some (Sum.inr ())
    else
    if (decide (p2.op=7))=true then
     (Be N p1 p2.args [(0:Int)]).bind λq50=>
     if q50=true then
      (Gw N p0 p1 p2).bind λwj=>
      some (Sum.inl wj)
     else
      some (Sum.inr ())
    else
    if (decide (p2.op=8))=true then
     (Be N p1 p2.args [p2.num]).bind λzp=>
     if zp=true then
      (Gw N p0 p1 p2).bind λxu=>
      some (Sum.inl xu)
     else
      some (Sum.inr ())
    else
     (
      if (decide (p2.op=9))=true then
       some true
      else
       some (decide (p2.op=10))
     ).bind λt62=>
     if t62=true then
      (EX N p0 p1 p2).bind λq66=>
      some (Sum.inl q66)
     else
     if (decide (p2.op=11))=true then
      (
       if (decide ((Sh.len p2.args)=2))=true then
        (Sh.get p2.args 0).bind λyp=>
        (Bd yp 0 (Sh.w ((Sh.len p1)-1))).bind λwm=>
        if wm=true then
         (Sh.get p1 yp).bind λc82=>
         (Gq p0.decls c82).bind λq83=>
         some q83
        else
         some false
       else
        some false
      ).bind λt70=>
      if t70=true then
       (Sh.get p2.args 0).bind λc74=>
       (Sh.get p1 c74).bind λc75=>
       (Sh.get p0.decls (Sh.w (c75-1))).bind λyr=>
       (Sh.sl p2.args 1 (Sh.len p2.args)).bind λl79=>
       (Be N p1 l79 [yr.from_]).bind λwm=>
       if wm=true then
        some (Sum.inl yr.to)
       else
        some (Sum.inr ())
      else
       some (Sum.inr ())
     else
      (
       if (decide (p2.op=14))=true then
        some true
       else
       if (decide (p2.op=15))=true then
        some true
       else
       if (decide (p2.op=16))=true then
        some true
       else
        some (decide (p2.op=17))
      ).bind λt85=>
      if t85=true then
       (FV p0 p1 p2).bind λq89=>
       some (Sum.inl q89)
      else
       some (Sum.inr ())
  ) (id) λ()=>
  some (-1)
def Ja (p0:Int):Option (Bool):=
 (
  if (decide (p0=6))=true then
   some true
  else
  if (decide (p0=9))=true then
   some true
  else
  if (decide (p0=10))=true then
   some true
  else
   some (decide (p0=11))
 ).bind λt3=>
 some t3
def LI (N:Nat)(p0:AT)(p1:Step)(p2:Int):Option (Bool):=
 (
  if (decide (p1.op=9))=true then
   (Sh.get p0.AH p1.num).bind λc6=>
   (Lo N c6.Ar p2).bind λq7=>
   some q7
  else
   some false
 ).bind λt3=>
 some t3
def Hv (N:Nat)(p0:AT)(p1:(List Int))(p2:Step)(p3:Int):Option (Bool):=
 (
  Option.bind (Ja p2.op) λq5=>
  if q5=true then
   (Sh.get p2.args p3).bind λc7=>
   (Sh.get p1 c7).bind λc8=>
   if (!decide (c8=0))=true then
    (LI N p0 p2 p3).bind λtD=>
    some (!tD)
   else
    some false
  else
   some false
 ).bind λt3=>
 some t3
def Bj (N:Nat)(p0:AT)(p1:(List Int))(p2:Step):Nat->Int->(List Int)->Option (List Int)
 | 0,_,_=>none
 | n+1,i5,l6=>
  if (decide (i5<(Sh.len p2.args)))=true then
   (
    Option.bind (Hv N p0 p1 p2 i5) λtQ=>
    if tQ=true then
     (Sh.get p2.args i5).bind λrl=>
     (Sh.app l6 [rl] 8).bind λyB=>
     some yB
    else
     some l6
   ).bind λuM=>
   Bj N p0 p1 p2 n (Sh.w (i5+1)) uM
  else
   some l6
def GP (N:Nat)(p0:AT)(p1:(List Int))(p2:Step):Option (List Int):=
 (Bj N p0 p1 p2 N 0 []).bind λl7=>
 some l7
def G4 (p0 p1:Int):Option (Step):=
 some (Step.mk p0 0 0 [p1] [])
def Ei (p0:Int)(p1:(List Int)):Nat->Int->(List Step)->Option (List Step)
 | 0,_,_=>none
 | n+1,i5,l6=>
  if (decide (i5<(Sh.len p1)))=true then
   (Sh.get p1 i5).bind λtC=>
   (G4 p0 tC).bind λtG=>
   (Sh.app l6 [tG] 72).bind λl16=>
   Ei p0 p1 n (Sh.w (i5+1)) l16
  else
   some l6
def Gd (N:Nat)(p0:Int)(p1:(List Int)):Option (List Step):=
 (Ei p0 p1 N 0 []).bind λl7=>
 some l7
def Eb (p0:(List Int))(p1:Int):Nat->Int->(List Int)->Option (List Int)
 | 0,_,_=>none
 | n+1,i5,l6=>
  if (decide (i5<(Sh.len p0)))=true then
   (
    Option.bind (Sh.get p0 i5) λvl=>
    if (!decide (vl=0))=true then
     (Sh.app l6 [Sh.w (p1+i5)] 8).bind λyB=>
     some yB
    else
     some l6
   ).bind λuM=>
   Eb p0 p1 n (Sh.w (i5+1)) uM
  else
   some l6
def JV (N:Nat)(p0:(List Int))(p1:Int):Option (List Int):=
 (Eb p0 p1 N 0 []).bind λl7=>
 some l7
def Dx (N:Nat)(s0:(List Int))(p0:AT)(p2:Step)(q4:(List Int))(qs:AT->(List Int)->Block->(List Int)->Option (Block)):Nat->Int->(List Block)->Option (List Block)
 | 0,_,_=>none
 | n+1,i7,l8=>
  if (decide (i7<(Sh.len p2.kids)))=true then
   (
    if (decide (p2.op=8))=true then
     (Sh.get q4 i7).bind λvH=>
     (CH N p0.decls vH).bind λxn=>
     some xn
    else
     some []
   ).bind λvK=>
   (JV N vK (Sh.len s0)).bind λwc=>
   (Gm s0 vK).bind λq24=>
   (Sh.get p2.kids i7).bind λue=>
   (qs p0 q24 ue wc).bind λvP=>
   (Gd N 14 wc).bind λwv=>
   (Sh.app wv vP.steps 72).bind λl29=>
   (Sh.app l8 [Block.mk l29 vP.result] 32).bind λl30=>
   Dx N s0 p0 p2 q4 qs n (Sh.w (i7+1)) l30
  else
   some l8
def Jm (N:Nat)(qs:AT->(List Int)->Block->(List Int)->Option (Block))(s0:(List Int))(p0:AT)(p2:Step):Option (Step):=
 (Ik N p0.decls p2.num).bind λq4=>
 (Dx N s0 p0 p2 q4 qs N 0 []).bind λl9=>
 (DW p2.args).bind λxp=>
 some (Step.mk p2.op p2.num 0 xp l9)
def DR (N:Nat)(p0:AT)(p2:Block)(qs:AT->(List Int)->Block->(List Int)->Option (Block)):Nat->Int->(List Step)->(List Int)->(List Int)->Option ((List Step)×(List Int)×(List Int))
 | 0,_,_,_,_=>none
 | n+1,k9,l10,xy,we=>
  if (decide (k9<(Sh.len p2.steps)))=true then
   (Sh.get p2.steps k9).bind λc44=>
   (Hz N p0 xy c44).bind λxT=>
   (GP N p0 xy c44).bind λq48=>
   (Gd N 14 q48).bind λq49=>
   (Sh.app l10 q49 72).bind λl50=>
   (Jm N qs xy p0 c44).bind λq52=>
   (Sh.app l50 [q52] 72).bind λl53=>
   (
    if (!decide (xT=0))=true then
     (Sh.app we [Sh.len xy] 8).bind λl61=>
     some l61
    else
     some we
   ).bind λl55=>
   (Sh.app xy [xT] 8).bind λl57=>
   DR N p0 p2 qs n (Sh.w (k9+1)) l53 l57 l55
  else
   some (l10,xy,we)
def HZ (N:Nat)(qs:AT->(List Int)->Block->(List Int)->Option (Block))(p0:AT)(p1:(List Int))(p2:Block)(p3:(List Int)):Option (Block):=
 (DW p1).bind λq4=>
 (DW p3).bind λq6=>
 (DR N p0 p2 qs N 0 [] q4 q6).bind λ(uF,uM,vX)=>
 (
  Option.bind (Sh.get uM p2.result) λxS=>
  if (!decide (xS=0))=true then
   (G4 14 p2.result).bind λwO=>
   (Sh.app uF [wO] 72).bind λl37=>
   some l37
  else
   some uF
 ).bind λl18=>
 (
  Option.bind (Gd N 15 vX) λq23=>
  (Sh.app l18 q23 72).bind λxx=>
  some xx
 ).bind λf21=>
 some (Block.mk f21 p2.result)
def GX (N:Nat):Nat->AT->(List Int)->Block->(List Int)->Option (Block)
 | 0,_,_,_,_=>none
 | n+1,p0,p1,p2,p3=>HZ N (GX N n) p0 p1 p2 p3
def MQ (N:Nat)(p0:AT)(p1:(List Int))(p2:Block)(p3:(List Int)):Option (Block):=GX N N p0 p1 p2 p3
def LC (p0:Ad)(p1:Block):Option (Ad):=
 (DW p0.params).bind λq3=>
 (DW p0.Ar).bind λq4=>
 some (Ad.mk q3 q4 p0.result p1)
def GI (N:Nat)(p0:AT):Nat->Int->(List Ad)->Option (List Ad)
 | 0,_,_=>none
 | n+1,i6,l7=>
  if (decide (i6<(Sh.len p0.AH)))=true then
   (Sh.get p0.AH i6).bind λrQ=>
   (Iv N rQ).bind λtQ=>
   (MQ N p0 rQ.params rQ.body tQ).bind λwC=>
   (LC rQ wC).bind λvI=>
   (Sh.app l7 [vI] 88).bind λyB=>
   GI N p0 n (Sh.w (i6+1)) yB
  else
   some l7
def NP (N:Nat)(p0:AT):Option (AT):=
 (Iz N p0.decls).bind λq3=>
 (GI N p0 N 0 []).bind λl8=>
 some (AT.mk q3 l8)
def GH (N:Nat)(p0:AT):Nat->Int->Option ((AT×Bool) ⊕ (Unit))
 | 0,_=>none
 | n+1,i4=>
  if (decide (i4<(Sh.len p0.AH)))=true then
   (Sh.get p0.AH i4).bind λuY=>
   (I2 N uY.body).bind λxR=>
   if (decide (xR<0))=true then
    some (Sum.inl (AT.mk [] [],false))
   else
    GH N p0 n (Sh.w (i4+1))
  else
   some (Sum.inr ())
def NI (N:Nat)(p0:AT):Option (AT×Bool):=
 Sh.cont (GH N p0 N 0) (id) λ()=>
 some (p0,true)
def I1 (N:Nat)(p0:AT):Option (AT×Bool):=
 (Hk N p0).bind λq4=>
 if (!q4)=true then
  some (AT.mk [] [],false)
 else
  (NP N p0).bind λtD=>
  (NI N tD).bind λwD=>
  some (wD.1,wD.2)
def CB (p0:(List Int))(p1:Int):Nat->Int->Option ((Int) ⊕ (Unit))
 | 0,_=>none
 | n+1,t4=>
  if (decide (t4<(Sh.len p0)))=true then
   (Sh.get p0 t4).bind λvW=>
   if (decide (p1=vW))=true then
    some (Sum.inl t4)
   else
    CB p0 p1 n (Sh.w (t4+1))
  else
   some (Sum.inr ())
def HI (N:Nat)(p0:(List Int))(p1:Int):Option (Int):=
 Sh.cont (CB p0 p1 N 0) (id) λ()=>
 some (-1)
def De (N:Nat)(p0:(List Int))(p1:Int):Option (Bool):=
 (HI N p0 p1).bind λq3=>
 some (decide (0<=q3))
def Jb (p0:Int):Option (Bool):=
 some (!decide (p0=p0))
def J6 (p0 p1:Int):Option (Bool):=
 (
  Option.bind (Jb p0) λq5=>
  if q5=true then
   (Jb p1).bind λq7=>
   if (!q7)=true then
    some true
   else
    some (decide (p0<p1))
  else
   some (decide (p0<p1))
 ).bind λt3=>
 some t3
def HU (p0:Int):Option (Bool):=
 some (!decide (p0=p0))
def BN (p0:(List Int))(p1:Int):Nat->Int->Int->Option (Int)
 | 0,_,_=>none
 | n+1,i5,j6=>
  if (decide (i5<j6))=true then
   (Sh.get p0 (Sh.wk .i64 (Sh.shr .u64 (Sh.wk .u64 (Sh.w (i5+j6))) 1))).bind λzw=>
   (J6 zw p1).bind λq24=>
   if q24=true then
    BN p0 p1 n (Sh.w ((Sh.wk .i64 (Sh.shr .u64 (Sh.wk .u64 (Sh.w (i5+j6))) 1))+1)) j6
   else
    BN p0 p1 n i5 (Sh.wk .i64 (Sh.shr .u64 (Sh.wk .u64 (Sh.w (i5+j6))) 1))
  else
   some i5
def Dp (N:Nat)(p0:(List Int))(p1:Int):Option (Int×Bool):=
 (BN p0 p1 N 0 (Sh.len p0)).bind λi7=>
 (
  if (decide (i7<(Sh.len p0)))=true then
   (Sh.get p0 i7).bind λvW=>
   if (decide (vW=p1))=true then
    some true
   else
    (HU vW).bind λtG=>
    if tG=true then
     (HU p1).bind λtQ=>
     some tQ
    else
     some false
  else
   some false
 ).bind λt10=>
 some (i7,t10)
def D1 (p0:(List Int)):Option (List Int):=
 (Sh.app ([]:List Int) p0 8).bind λl6=>
 some l6
def DV (N:Nat)(p0:(List Int))(p1:Int):Option (List Int):=
 (Dp N p0 p1).bind λq3=>
 if q3.2=true then
  some p0
 else
  (D1 p0).bind λq9=>
  (Fm q9 [p1] q3.1).bind λtD=>
  some tD
def Hi (p0:Int):Option (Bool):=
 (
  if (decide (p0=6))=true then
   some true
  else
  if (decide (p0=9))=true then
   some true
  else
  if (decide (p0=10))=true then
   some true
  else
   some (decide (p0=11))
 ).bind λt3=>
 some t3
def CN (N:Nat)(s0:(List Int))(p0:Ag)(p2:Step):Nat->(List Int)->Int->(List Int)->Option ((List Int)×(List Int))
 | 0,_,_,_=>none
 | n+1,lent11,t12,uF=>
  if (decide (t12<(Sh.len p2.args)))=true then
   (
    Option.bind (Sh.get p2.args t12) λvm=>
    (Sh.get s0 vm).bind λyA=>
    if (decide (yA=0))=true then
     some (lent11,uF)
    else
     (
      if (decide (p2.op=9))=true then
       (Sh.get p0.funcs p2.num).bind λc37=>
       (De N c37.Ar t12).bind λq38=>
       some q38
      else
       some false
     ).bind λt31=>
     if t31=true then
      (DV N lent11 vm).bind λzo=>
      some (zo,uF)
     else
      (Sh.app uF [t12] 8).bind λl35=>
      some (lent11,l35)
   ).bind λ(lent22,vy)=>
   CN N s0 p0 p2 n lent22 (Sh.w (t12+1)) vy
  else
   some (lent11,uF)
def Fp (N:Nat)(s0:(List Int))(p0:Ag)(p2:Step):Option ((List Int)×(List Int)):=
 (Hi p2.op).bind λq4=>
 if (!q4)=true then
  some ([],[])
 else
  (CN N s0 p0 p2 N [] 0 []).bind λ(lent14,vX)=>
  some (vX,lent14)
def Ek (p0 p1:Int):Option (Step):=
 some (Step.mk p0 0 0 [p1] [])
def Bw (N:Nat)(p2:(List Int))(p3:(List Int)):Nat->(List Int)->Int->(List Step)->Option ((List Int)×(List Step))
 | 0,_,_,_=>none
 | n+1,given6,t7,l8=>
  if (decide (t7<(Sh.len p3)))=true then
   (
    Option.bind (Sh.get p3 t7) λwA=>
    if (!decide (wA=0))=true then
     (DV N given6 (Sh.w ((Sh.len p2)+t7))).bind λvV=>
     (Ek 14 (Sh.w ((Sh.len p2)+t7))).bind λq30=>
     (Sh.app l8 [q30] 72).bind λl31=>
     some (vV,l31)
    else
     some (given6,l8)
   ).bind λ(yC,l21)=>
   Bw N p2 p3 n yC (Sh.w (t7+1)) l21
  else
   some (given6,l8)
def FM (N:Nat)(qj:Ag->Block->(List Int)->(List Int)->Option (Block))(p0:Ag)(p1:Block)(p2:(List Int))(p3:(List Int)):Option (Block):=
 (Bw N p2 p3 N [] 0 []).bind λ(given9,l10)=>
 (Dc N [p2,p3]).bind λxR=>
 (qj p0 p1 xR given9).bind λyh=>
 (Fw l10 yh.steps).bind λtQ=>
 some (Block.mk tQ yh.result)
def CW (N:Nat)(p0:Ag)(p1:(List Int))(p2:(List Block))(p3:(List (List Int))):Nat->Int->Int->Option ((Int×Bool) ⊕ (Int))
 | 0,_,_=>none
 | n+1,rR,t6=>
  if (decide (t6<(Sh.len p2)))=true then
   (Sh.get p2 t6).bind λsY=>
   (Sh.get p3 t6).bind λvl=>
   (Dc N [p1,vl]).bind λwC=>
   (BT N p0 wC sY).bind λvI=>
   (
    if (decide (vI<0))=true then
     some true
    else
    if (decide (0<t6))=true then
     some (!decide (vI=rR))
    else
     some false
   ).bind λt22=>
   if t22=true then
    some (Sum.inl (-1,false))
   else
    CW N p0 p1 p2 p3 n vI (Sh.w (t6+1))
  else
   some (Sum.inr rR)
def Df (N:Nat)(p0:Ag)(p1:(List Int))(p2:(List Block))(p3:(List (List Int))):Option (Int×Bool):=
 Sh.cont (CW N p0 p1 p2 p3 N (-1) 0) (id) λra=>
 some (ra,true)
def CV (p1:(List Int))(p2:Step):Nat->Int->(List Int)->Option ((Int×Bool) ⊕ (List Int))
 | 0,_,_=>none
 | n+1,t6,l7=>
  if (decide (t6<(Sh.len p2.args)))=true then
   (Sh.get p2.args t6).bind λxz=>
   (
    if (decide (xz<0))=true then
     some true
    else
     some (decide ((Sh.len p1)<=xz))
   ).bind λt97=>
   if t97=true then
    some (Sum.inl (-1,false))
   else
    (Sh.get p1 xz).bind λc101=>
    (Sh.app l7 [c101] 8).bind λl102=>
    CV p1 p2 n (Sh.w (t6+1)) l102
  else
   some (Sum.inr l7)
def Dg (N:Nat)(p0:Ag)(p1:(List Int))(p2:Step):Option (Int×Bool):=
 (Sh.mk 0 (Sh.len p2.args) 8).bind λl3=>
 Sh.cont (CV p1 p2 N 0 []) (id) λl8=>
 (
  if (!decide (p2.BB=0))=true then
   if (!decide (p2.op=6))=true then
    some true
   else
   if (decide (p2.BB<1))=true then
    some true
   else
   if (decide ((Sh.len p1)<p2.BB))=true then
    some true
   else
    (Sh.get p1 (Sh.w (p2.BB-1))).bind λc88=>
    some (decide (c88=0))
  else
   some false
 ).bind λt12=>
 if t12=true then
  some (-1,false)
 else
  (DP p2.op).bind λwC=>
  if wC=true then
   (
    if (decide ((Sh.len l8)=1))=true then
     (Sh.get l8 0).bind λc38=>
     if (!decide (c38=0))=true then
      if (decide (p2.num=0))=true then
       some (decide ((Sh.len p2.kids)=0))
      else
       some false
     else
      some false
    else
     some false
   ).bind λvJ=>
   (
    Option.bind (
     if vJ=true then
      if (decide (p2.op=16))=true then
       some true
      else
       some (decide (p2.op=17))
     else
      some false
    ) λt28=>
    if t28=true then
     (Sh.get l8 0).bind λyv=>
     (Gs p0.decls yv).bind λwB=>
     some (!wB.2)
    else
     some vJ
   ).bind λwo=>
   some (-1,wo)
  else
  if (decide (p2.op=7))=true then
   (
    if (!decide ((Sh.len l8)=1))=true then
     some true
    else
     (Sh.get l8 0).bind λyi=>
     if (!decide (yi=0))=true then
      some true
     else
     if (!decide (p2.num=0))=true then
      some true
     else
      some (!decide ((Sh.len p2.kids)=2))
   ).bind λt45=>
   if t45=true then
    some (-1,false)
   else
    (Sh.mk [] 2 24).bind λl50=>
    (Df N p0 p1 p2.kids l50).bind λyy=>
    some (yy.1,yy.2)
  else
  if (decide (p2.op=8))=true then
   (CA N p0 p2.num).bind λwq=>
   (
    if (!decide ((Sh.len l8)=1))=true then
     some true
    else
     (Sh.get l8 0).bind λzy=>
     if (!decide (zy=p2.num))=true then
      some true
     else
     if (decide ((Sh.len wq)=0))=true then
      some true
     else
      some (!decide ((Sh.len p2.kids)=(Sh.len wq)))
   ).bind λt62=>
   if t62=true then
    some (-1,false)
   else
    (Df N p0 p1 p2.kids wq).bind λzA=>
    some (zA.1,zA.2)
  else
   (
    if (decide (0<(Sh.len p2.kids)))=true then
     some true
    else
    if (decide (p2.op=10))=true then
     if (decide (0<=p2.num))=true then
      if (decide (p2.num<(Sh.len p0.funcs)))=true then
       (Sh.get p0.funcs p2.num).bind λwu=>
       some (decide (0<(Sh.len wu.Ar)))
      else
       some false
     else
      some false
    else
     some false
   ).bind λt73=>
   if t73=true then
    some (-1,false)
   else
    (Ai N p0 p2.op p2.num l8).bind λvn=>
    some (vn.1,vn.2)
def BY (tH:(List Int)):Nat->Int->(List Step)->Option (List Step)
 | 0,_,_=>none
 | n+1,t20,l21=>
  if (decide (t20<(Sh.len tH)))=true then
   (Sh.get tH t20).bind λvH=>
   (Ek 15 vH).bind λxn=>
   (Sh.app l21 [xn] 72).bind λl32=>
   BY tH n (Sh.w (t20+1)) l32
  else
   some l21
def BR (N:Nat)(uZ:Step)(l63:(List (List Int)))(l9:(List Int))(p0:Ag)(qj:Ag->Block->(List Int)->(List Int)->Option (Block)):Nat->Int->(List Block)->Option (List Block)
 | 0,_,_=>none
 | n+1,t68,l69=>
  if (decide (t68<(Sh.len uZ.kids)))=true then
   (Sh.get uZ.kids t68).bind λxz=>
   (Sh.get l63 t68).bind λc95=>
   (FM N qj p0 xz l9 c95).bind λq96=>
   (Sh.app l69 [q96] 32).bind λl97=>
   BR N uZ l63 l9 p0 qj n (Sh.w (t68+1)) l97
  else
   some l69
def BW (uZ:Step)(wj:(List Int)×(List Int)):Nat->Int->(List Step)->Option (List Step)
 | 0,_,_=>none
 | n+1,t56,l57=>
  if (decide (t56<(Sh.len wj.1)))=true then
   (Sh.get wj.1 t56).bind λc109=>
   (Sh.get uZ.args c109).bind λc110=>
   (Ek 14 c110).bind λvY=>
   (Sh.app l57 [vY] 72).bind λl112=>
   BW uZ wj n (Sh.w (t56+1)) l112
  else
   some l57
def BX (N:Nat)(p0:Ag)(p1:Block)(qj:Ag->Block->(List Int)->(List Int)->Option (Block)):Nat->(List Int)->Int->(List Int)->(List Step)->Option ((List Int)×(List Int)×(List Step))
 | 0,_,_,_,_=>none
 | n+1,tm,t8,l9,l10=>
  if (decide (t8<(Sh.len p1.steps)))=true then
   (Sh.get p1.steps t8).bind λuZ=>
   (Fp N l9 p0 uZ).bind λwj=>
   (BW uZ wj N 0 l10).bind λl58=>
   (Sh.mk [] (Sh.len uZ.kids) 24).bind λl61=>
   (
    if (decide (uZ.op=8))=true then
     (CA N p0 uZ.num).bind λwx=>
     some wx
    else
     some l61
   ).bind λl63=>
   (BR N uZ l63 l9 p0 qj N 0 []).bind λl70=>
   (Gi l70 uZ).bind λyD=>
   (Sh.app l58 [Step.mk yD.op yD.num yD.BB yD.args l70] 72).bind λl74=>
   (Dg N p0 l9 uZ).bind λvn=>
   (
    if (!decide (vn.1=0))=true then
     (DV N tm (Sh.len l9)).bind λq86=>
     some q86
    else
     some tm
   ).bind λug=>
   (Sh.app l9 [vn.1] 8).bind λl82=>
   BX N p0 p1 qj n ug (Sh.w (t8+1)) l82 l74
  else
   some (tm,l9,l10)
def EE (N:Nat)(qj:Ag->Block->(List Int)->(List Int)->Option (Block))(p0:Ag)(p1:Block)(p2:(List Int))(p3:(List Int)):Option (Block):=
 (Bz p2).bind λq3=>
 (BX N p0 p1 qj N p3 0 q3 []).bind λ(tH,we,uF)=>
 (
  Option.bind (Sh.get we p1.result) λc37=>
  if (!decide (c37=0))=true then
   (Ek 14 p1.result).bind λq40=>
   (Sh.app uF [q40] 72).bind λl41=>
   some l41
  else
   some uF
 ).bind λl16=>
 (BY tH N 0 l16).bind λl22=>
 some (Block.mk l22 p1.result)
def DL (N:Nat):Nat->Ag->Block->(List Int)->(List Int)->Option (Block)
 | 0,_,_,_,_=>none
 | n+1,p0,p1,p2,p3=>EE N (DL N n) p0 p1 p2 p3
def HC (N:Nat)(p0:Ag)(p1:Block)(p2:(List Int))(p3:(List Int)):Option (Block):=DL N N p0 p1 p2 p3
def Cm (N:Nat)(p0:Ad):Nat->(List Int)->Int->Option (List Int)
 | 0,_,_=>none
 | n+1,given5,t6=>
  if (decide (t6<(Sh.len p0.params)))=true then
   (
    Option.bind (Sh.get p0.params t6) λsZ=>
    (
     if (!decide (sZ=0))=true then
      (De N p0.Ar t6).bind λq25=>
      some (!q25)
     else
      some false
    ).bind λt20=>
    if t20=true then
     (DV N given5 t6).bind λq23=>
     some q23
    else
     some given5
   ).bind λyE=>
   Cm N p0 n yE (Sh.w (t6+1))
  else
   some given5
def JJ (N:Nat)(qt:(List Ac))(rI:(List Bg))(p0:Ad)(p1:Block):Option (Block):=
 (Cm N p0 N [] 0).bind λtm=>
 (HC N (Ag.mk qt rI) p1 p0.params tm).bind λtD=>
 some tD
def CG (N:Nat)(qt:(List Ac))(rI:(List Bg))(p0:AT):Nat->Int->(List Ad)->Option (List Ad)
 | 0,_,_=>none
 | n+1,t6,l7=>
  if (decide (t6<(Sh.len p0.AH)))=true then
   (Sh.get p0.AH t6).bind λrQ=>
   (Bz rQ.params).bind λtQ=>
   (Bz rQ.Ar).bind λwC=>
   (JJ N qt rI rQ rQ.body).bind λvI=>
   (Sh.app l7 [Ad.mk tQ wC rQ.result vI] 88).bind λyB=>
   CG N qt rI p0 n (Sh.w (t6+1)) yB
  else
   some l7
def FI (N:Nat)(qt:(List Ac))(rI:(List Bg))(p0:AT):Option (AT):=
 (IH N p0.decls).bind λq3=>
 (CG N qt rI p0 N 0 []).bind λl8=>
 some (AT.mk q3 l8)
def D4 (N:Nat)(p0:AT):Nat->Int->Option ((Bool) ⊕ (Unit))
 | 0,_=>none
 | n+1,t4=>
  if (decide (t4<(Sh.len p0.AH)))=true then
   (Sh.get p0.AH t4).bind λuY=>
   (I5 N uY.body).bind λyh=>
   if (decide (yh<0))=true then
    some (Sum.inl false)
   else
    D4 N p0 n (Sh.w (t4+1))
  else
   some (Sum.inr ())
def He (N:Nat)(p0:AT):Option (Bool):=
 Sh.cont (D4 N p0 N 0) (id) λ()=>
 some true
def HQ (N:Nat)(p0:AT):Option (AT×Bool):=
 (J7 N p0).bind λq4=>
 if (!q4)=true then
  some (AT.mk [] [],false)
 else
  (GB N p0).bind λtD=>
  (FI N tD.1.decls tD.1.funcs p0).bind λxp=>
  (He N xp).bind λtG=>
  if (!tG)=true then
   some (AT.mk [] [],false)
  else
   some (xp,true)
def Gn (N:Nat)(p0:AT):Option (Bool):=
 (Jj N p0 1048576).bind λq4=>
 if (decide (q4<0))=true then
  some true
 else
  (GM N p0).bind λtD=>
  (I1 N tD).bind λwD=>
  (GM N p0).bind λxR=>
  (HQ N xR).bind λtG=>
  (
   Option.bind (GV N tG.1 wD.1) λq87=>
   if (!q87)=true then
    some true
   else
    some (tG.2 != wD.2)
  ).bind λt18=>
  if t18=true then
   some false
  else
   (GM N p0).bind λq24=>
   (GV N xR q24).bind λq25=>
   if (!q25)=true then
    some false
   else
    (Gu N xR.decls xR.AH 1).bind λuD=>
    (
     if (decide (uD.1<0))=true then
      some true
     else
      (GV N tG.1 wD.1).bind λq85=>
      if (!q85)=true then
       some true
      else
       some (tG.2 != wD.2)
    ).bind λt37=>
    if t37=true then
     some false
    else
     (Gu N tG.1.decls tG.1.AH 1).bind λwN=>
     (Gy N (AT.mk wN.2.1 wN.2.2) 1).bind λq48=>
     if (decide (q48<0))=true then
      some false
     else
     if (!decide (q48=wN.1))=true then
      some false
     else
      (GM N p0).bind λxu=>
      (HQ N xu).bind λq61=>
      (
       Option.bind (GV N q61.1 wD.1) λq82=>
       if (!q82)=true then
        some true
       else
        some (q61.2 != wD.2)
      ).bind λt64=>
      if t64=true then
       some false
      else
       (Gy N (AT.mk wN.2.1 wN.2.2) 1).bind λq70=>
       if (decide (q70<0))=true then
        some false
       else
       if (!decide (q70=wN.1))=true then
        some false
       else
        some true
end RC
