import Derived.Test.YtihdgoiebmfapaaGreatSufF
set_option linter.all false
namespace RC
def YB (p0:(List Int))(p1:Int):Option (Int):=
 if (decide ((Sh.w (p1-(Sh.len p0)))<0))=true then
  some (-1)
 else
  some (Sh.w (p1-(Sh.len p0)))
def DX (p0 p1 p2:Int):Option (Bool):=
 (
  if (decide (p1<=p0))=true then
   some (decide (p0<=p2))
  else
   some false
 ).bind λt3=>
 some t3
def CP (p0:(List Int)):Option (List Int):=
 (Sh.app ([]:List Int) p0 8).bind λl6=>
 some l6
end RC
namespace RC
def ZD (p0:Db)(p1:Int):Option (Int):=
 (YB p0.fields p1).bind λq3=>
 if (decide (q3<0))=true then
  some (-1)
 else
  some q3
def T5 (p0:(List Db)):Nat->Int->Int->Option ((Int) ⊕ (Int))
 | 0,_,_=>none
 | n+1,left9,i10=>
  if (decide (i10<(Sh.len p0)))=true then
   (Sh.get p0 i10).bind λrL=>
   (ZD rL left9).bind λqh=>
   if (decide (qh<0))=true then
    some (Sum.inl (-1))
   else
    T5 p0 n qh (Sh.w (i10+1))
  else
   some (Sum.inr left9)
def E7 (p0:(List AM))(p1:(List Int)):Nat->Int->Option ((Bool) ⊕ (Unit))
 | 0,_=>none
 | n+1,i4=>
  if (decide (i4<(Sh.len p1)))=true then
   (Sh.get p1 i4).bind λsN=>
   (DX sN 0 (Sh.len p0)).bind λpo=>
   if (!po)=true then
    some (Sum.inl false)
   else
    E7 p0 p1 n (Sh.w (i4+1))
  else
   some (Sum.inr ())
def Hk (N:Nat)(p0:(List AM))(p1:(List Int)):Option (Bool):=
 Sh.cont (E7 p0 p1 N 0) (id) λ()=>
 some true
def En (N:Nat)(c3:AM)(p0:(List AM)):Nat->Int->Option ((Bool) ⊕ (Unit))
 | 0,_=>none
 | n+1,i15=>
  if (decide (i15<(Sh.len c3.cons)))=true then
   (
    Option.bind (Sh.get c3.cons i15) λc27=>
    if (decide (3<(Sh.len c27.fields)))=true then
     some true
    else
     (Hk N p0 c27.fields).bind λsO=>
     some (!sO)
   ).bind λt23=>
   if t23=true then
    some (Sum.inl false)
   else
    En N c3 p0 n (Sh.w (i15+1))
  else
   some (Sum.inr ())
def Eo (c3:AM)(p0:(List AM))(p1:Int):Nat->Int->Option ((Bool) ⊕ (Unit))
 | 0,_=>none
 | n+1,i34=>
  if (decide (i34<p1))=true then
   (
    Option.bind (Sh.get p0 i34) λzT=>
    if (decide ((Sh.len zT.cons)=0))=true then
     if (decide (zT.from_=c3.from_))=true then
      some (decide (zT.to=c3.to))
     else
      some false
    else
     some false
   ).bind λt47=>
   if t47=true then
    some (Sum.inl false)
   else
    Eo c3 p0 p1 n (Sh.w (i34+1))
  else
   some (Sum.inr ())
def IZ (N:Nat)(p0:(List AM))(p1:Int):Option (Bool):=
 (Sh.get p0 p1).bind λc3=>
 if (decide (0<(Sh.len c3.cons)))=true then
  (
   if (decide (3<(Sh.len c3.cons)))=true then
    some true
   else
   if (!decide (c3.from_=0))=true then
    some true
   else
    some (!decide (c3.to=0))
  ).bind λt9=>
  if t9=true then
   some false
  else
   Sh.cont (En N c3 p0 N 0) (id) λ()=>
   some true
 else
  Sh.cont (Eo c3 p0 p1 N 0) (id) λ()=>
  (
   Option.bind (DX c3.from_ 0 (Sh.len p0)) λtO=>
   if tO=true then
    (DX c3.to 0 (Sh.len p0)).bind λuU=>
    some uU
   else
    some false
  ).bind λt37=>
  some t37
def EU (N:Nat)(p0:(List AM)):Nat->Int->Option ((Bool) ⊕ (Unit))
 | 0,_=>none
 | n+1,i8=>
  if (decide (i8<(Sh.len p0)))=true then
   (IZ N p0 i8).bind λqv=>
   if (!qv)=true then
    some (Sum.inl false)
   else
    EU N p0 n (Sh.w (i8+1))
  else
   some (Sum.inr ())
def H0 (N:Nat)(p0:(List AM)):Option (Bool):=
 if (decide (4<(Sh.len p0)))=true then
  some false
 else
  Sh.cont (EU N p0 N 0) (id) λ()=>
  some true
def EG (N:Nat)(p0:AP):Nat->Int->Option ((Bool) ⊕ (Unit))
 | 0,_=>none
 | n+1,i10=>
  if (decide (i10<(Sh.len p0.funcs)))=true then
   (Sh.get p0.funcs i10).bind λuV=>
   (
    if (decide (3<(Sh.len uV.params)))=true then
     some true
    else
     (Hk N p0.decls uV.params).bind λsO=>
     if (!sO)=true then
      some true
     else
      (DX uV.result 0 (Sh.len p0.decls)).bind λwA=>
      some (!wA)
   ).bind λt24=>
   if t24=true then
    some (Sum.inl false)
   else
    EG N p0 n (Sh.w (i10+1))
  else
   some (Sum.inr ())
def HA (N:Nat)(p0:AP):Option (Bool):=
 (
  Option.bind (H0 N p0.decls) λsq=>
  if (!sq)=true then
   some true
  else
   (DX (Sh.len p0.funcs) 1 4).bind λqZ=>
   some (!qZ)
 ).bind λt4=>
 if t4=true then
  some false
 else
  Sh.cont (EG N p0 N 0) (id) λ()=>
  (
   Option.bind (Sh.get p0.funcs 0) λsu=>
   if (decide ((Sh.len su.params)=0))=true then
    some (decide (su.result=0))
   else
    some false
  ).bind λt13=>
  some t13
def EW (p0:(List AM))(p1:Int):Nat->Int->Int->Option (Int)
 | 0,_,_=>none
 | n+1,n5,i6=>
  if (decide (i6<p1))=true then
   (Sh.get p0 i6).bind λqw=>
   EW p0 p1 n (Sh.w (n5+(Sh.len qw.cons))) (Sh.w (i6+1))
  else
   some n5
def GU (N:Nat)(p0:(List AM))(p1:Int):Option (Int):=
 (EW p0 p1 N 0 0).bind λn7=>
 some n7
def D3 (N:Nat)(p0:(List AM))(p1:Int):Nat->Int->Option ((Int) ⊕ (Unit))
 | 0,_=>none
 | n+1,i4=>
  if (decide (i4<(Sh.len p0)))=true then
   (GU N p0 i4).bind λqS=>
   (Sh.get p0 i4).bind λqw=>
   (DX p1 qS (Sh.w ((Sh.w (qS+(Sh.len qw.cons)))-1))).bind λqD=>
   if qD=true then
    some (Sum.inl (Sh.w (i4+1)))
   else
    D3 N p0 p1 n (Sh.w (i4+1))
  else
   some (Sum.inr ())
def GJ (N:Nat)(p0:(List AM))(p1:Int):Option (Int):=
 Sh.cont (D3 N p0 p1 N 0) (id) λ()=>
 some (-1)
def Bu (N:Nat)(p0:(List AM))(p1:Int):Option (List Int):=
 (GJ N p0 p1).bind λq3=>
 if (decide (q3<1))=true then
  some []
 else
  (Sh.get p0 (Sh.w (q3-1))).bind λc9=>
  (GU N p0 (Sh.w (q3-1))).bind λqA=>
  (Sh.get c9.cons (Sh.w (p1-qA))).bind λc11=>
  some c11.fields
def FP (N:Nat)(p0:(List AM))(p1:Int):Nat->Int->(List Int)->Option (List Int)
 | 0,_,_=>none
 | n+1,i12,vh=>
  (Sh.get p0 (Sh.w (p1-1))).bind λrL=>
  if (decide (i12<(Sh.len rL.cons)))=true then
   (GU N p0 (Sh.w (p1-1))).bind λsB=>
   (Sh.app vh [Sh.w (sB+i12)] 8).bind λyG=>
   FP N p0 p1 n (Sh.w (i12+1)) yG
  else
   some vh
def GG (N:Nat)(p0:(List AM))(p1:Int):Option (List Int):=
 (DX p1 1 (Sh.len p0)).bind λq5=>
 if (!q5)=true then
  some []
 else
  (FP N p0 p1 N 0 []).bind λqI=>
  some qI
def HS (p0:(List AM))(p1:Int):Option (Bool):=
 (
  if (decide (0<=p1))=true then
   some (decide (p1<=(Sh.len p0)))
  else
   some false
 ).bind λt3=>
 some t3
def E8 (p0:(List AM))(p1:(List Int)):Nat->Int->Option ((Bool) ⊕ (Unit))
 | 0,_=>none
 | n+1,t4=>
  if (decide (t4<(Sh.len p1)))=true then
   (Sh.get p1 t4).bind λsN=>
   (HS p0 sN).bind λsa=>
   if (!sa)=true then
    some (Sum.inl false)
   else
    E8 p0 p1 n (Sh.w (t4+1))
  else
   some (Sum.inr ())
def G1 (N:Nat)(p0:(List AM))(p1:(List Int)):Option (Bool):=
 Sh.cont (E8 p0 p1 N 0) (id) λ()=>
 some true
def Dt (qi:AM)(zU:(List AM)):Nat->Int->Option ((Bool) ⊕ (Unit))
 | 0,_=>none
 | n+1,t29=>
  if (decide (t29<(Sh.len zU)))=true then
   (Sh.get zU t29).bind λc36=>
   (
    if (decide ((Sh.len qi.cons)=0))=true then
     if (decide ((Sh.len c36.cons)=0))=true then
      if (decide (c36.from_=qi.from_))=true then
       some (decide (c36.to=qi.to))
      else
       some false
     else
      some false
    else
     some false
   ).bind λt38=>
   if t38=true then
    some (Sum.inl false)
   else
    Dt qi zU n (Sh.w (t29+1))
  else
   some (Sum.inr ())
def Dq (N:Nat)(qi:AM)(p0:(List AM)):Nat->Int->Option ((Bool) ⊕ (Unit))
 | 0,_=>none
 | n+1,t25=>
  if (decide (t25<(Sh.len qi.cons)))=true then
   (Sh.get qi.cons t25).bind λtP=>
   (
    if (decide (3<(Sh.len tP.fields)))=true then
     some true
    else
     (G1 N p0 tP.fields).bind λwa=>
     some (!wa)
   ).bind λt52=>
   if t52=true then
    some (Sum.inl false)
   else
    Dq N qi p0 n (Sh.w (t25+1))
  else
   some (Sum.inr ())
def ET (N:Nat)(p0:(List AM)):Nat->Int->Option ((Bool) ⊕ (Unit))
 | 0,_=>none
 | n+1,t8=>
  if (decide (t8<(Sh.len p0)))=true then
   (Sh.get p0 t8).bind λqi=>
   (
    Option.bind (HS p0 qi.from_) λq58=>
    if (!q58)=true then
     some true
    else
     (HS p0 qi.to).bind λq60=>
     if (!q60)=true then
      some true
     else
     if (decide (3<(Sh.len qi.cons)))=true then
      some true
     else
     if (decide (0<(Sh.len qi.cons)))=true then
      if (!decide (qi.from_=0))=true then
       some true
      else
       some (!decide (qi.to=0))
     else
      some false
   ).bind λt19=>
   if t19=true then
    some (Sum.inl false)
   else
    Sh.cont (Dq N qi p0 N 0) (λx=>Sum.inl x) λ()=>
    (Sh.sl p0 0 t8).bind λzU=>
    Sh.cont (Dt qi zU N 0) (λx=>Sum.inl x) λ()=>
    ET N p0 n (Sh.w (t8+1))
  else
   some (Sum.inr ())
def Hj (N:Nat)(p0:(List AM)):Option (Bool):=
 if (decide (4<(Sh.len p0)))=true then
  some false
 else
  Sh.cont (ET N p0 N 0) (id) λ()=>
  some true
def EA (qx:Bt):Nat->Int->Option ((Bool) ⊕ (Unit))
 | 0,_=>none
 | n+1,t26=>
  if (decide (t26<(Sh.len qx.Fv)))=true then
   (Sh.get qx.Fv t26).bind λvk=>
   (
    if (decide (vk<0))=true then
     some true
    else
    if (decide ((Sh.len qx.params)<=vk))=true then
     some true
    else
     (Sh.get qx.params vk).bind λxU=>
     if (decide (xU=0))=true then
      some true
     else
     if (decide (0<t26))=true then
      (Sh.get qx.Fv (Sh.w (t26-1))).bind λc44=>
      some (decide (vk<=c44))
     else
      some false
   ).bind λt35=>
   if t35=true then
    some (Sum.inl false)
   else
    EA qx n (Sh.w (t26+1))
  else
   some (Sum.inr ())
def EF (N:Nat)(p0:(List AM))(p1:(List Bt)):Nat->Int->Option ((Bool) ⊕ (Unit))
 | 0,_=>none
 | n+1,t10=>
  if (decide (t10<(Sh.len p1)))=true then
   (Sh.get p1 t10).bind λqx=>
   (
    if (decide (3<(Sh.len qx.params)))=true then
     some true
    else
     (G1 N p0 qx.params).bind λq46=>
     if (!q46)=true then
      some true
     else
      (HS p0 qx.result).bind λwC=>
      some (!wC)
   ).bind λt21=>
   if t21=true then
    some (Sum.inl false)
   else
    Sh.cont (EA qx N 0) (λx=>Sum.inl x) λ()=>
    EF N p0 p1 n (Sh.w (t10+1))
  else
   some (Sum.inr ())
def IT (N:Nat)(p0:(List AM))(p1:(List Bt)):Option (Bool):=
 (
  Option.bind (Hj N p0) λsb=>
  if (!sb)=true then
   some true
  else
  if (decide ((Sh.len p1)<1))=true then
   some true
  else
  if (decide (4<(Sh.len p1)))=true then
   some true
  else
   (Sh.get p1 0).bind λc53=>
   if (decide (0<(Sh.len c53.params)))=true then
    some true
   else
    some (!decide (c53.result=0))
 ).bind λt4=>
 if t4=true then
  some false
 else
  Sh.cont (EF N p0 p1 N 0) (id) λ()=>
  some true
def Eg (p0:(List AM)):Nat->Int->Int->Option (Int)
 | 0,_,_=>none
 | n+1,n5,t6=>
  if (decide (t6<(Sh.len p0)))=true then
   (Sh.get p0 t6).bind λsu=>
   Eg p0 n (Sh.w (n5+(Sh.len su.cons))) (Sh.w (t6+1))
  else
   some n5
def JE (N:Nat)(p0:(List AM)):Option (Int):=
 (Eg p0 N 0 0).bind λn7=>
 some n7
def FT (qw:AM)(qA:Int):Nat->Int->(List Int)->Option (List Int)
 | 0,_,_=>none
 | n+1,t15,wb=>
  if (decide (t15<(Sh.len qw.cons)))=true then
   (Sh.app wb [Sh.w (qA+t15)] 8).bind λyH=>
   FT qw qA n (Sh.w (t15+1)) yH
  else
   some wb
def HP (N:Nat)(p0:(List AM))(p1:Int):Option (List Int):=
 (
  if (decide (p1<1))=true then
   some true
  else
   some (decide ((Sh.len p0)<p1))
 ).bind λt4=>
 if t4=true then
  some []
 else
  (Sh.sl p0 0 (Sh.w (p1-1))).bind λl9=>
  (JE N l9).bind λqA=>
  (Sh.get p0 (Sh.w (p1-1))).bind λqw=>
  (FT qw qA N 0 []).bind λyI=>
  some yI
def FG (p0:(List AM)):Nat->Int->Int->Option ((Int×Db) ⊕ (Unit))
 | 0,_,_=>none
 | n+1,c4,t5=>
  if (decide (t5<(Sh.len p0)))=true then
   (Sh.get p0 t5).bind λwD=>
   (
    if (decide (0<=c4))=true then
     some (decide (c4<(Sh.len wD.cons)))
    else
     some false
   ).bind λt16=>
   if t16=true then
    (Sh.get wD.cons c4).bind λtQ=>
    some (Sum.inl (Sh.w (t5+1),tQ))
   else
    FG p0 n (Sh.w (c4-(Sh.len wD.cons))) (Sh.w (t5+1))
  else
   some (Sum.inr ())
def IA (N:Nat)(p0:(List AM))(p1:Int):Option (Int×Db):=
 Sh.cont (FG p0 N p1 0) (id) λ()=>
 some (-1,Db.mk [])
def EJ (N:Nat)(p0:(List AM))(p1:Int):Option (List Int):=
 (IA N p0 p1).bind λq3=>
 some q3.2.fields
end RC
namespace RC
end RC
namespace RC
def Nr (p0:(List AE))(pO:AE->Int->Option (Int)):Nat->Int->Int->Option ((Int) ⊕ (Int))
 | 0,_,_=>none
 | n+1,left9,i10=>
  if (decide (i10<(Sh.len p0)))=true then
   (Sh.get p0 i10).bind λrL=>
   (pO rL left9).bind λqh=>
   if (decide (qh<0))=true then
    some (Sum.inl (-1))
   else
    Nr p0 pO n qh (Sh.w (i10+1))
  else
   some (Sum.inr left9)
def WO (N:Nat)(pO:AE->Int->Option (Int))(p0:(List AE))(p1:Int):Option (Int):=
 if (decide ((Sh.w (p1-(Sh.len p0)))<0))=true then
  some (-1)
 else
  Sh.cont (Nr p0 pO N (Sh.w (p1-(Sh.len p0))) 0) (id) λtR=>
  some tR
def Uq (N:Nat)(pO:AE->Int->Option (Int))(p0:AE)(p1:Int):Option (Int):=
 (WO N pO p0.kids p1).bind λq3=>
 if (decide (q3<0))=true then
  some (-1)
 else
  some q3
def VR (N:Nat):Nat->AE->Int->Option (Int)
 | 0,_,_=>none
 | n+1,p0,p1=>Uq N (VR N n) p0 p1
def Dj (p0:AE)(oz:AE->Int->Option (Int)):Nat->Int->Int->Option ((Int) ⊕ (Int))
 | 0,_,_=>none
 | n+1,left9,i10=>
  if (decide (i10<(Sh.len p0.kids)))=true then
   (Sh.get p0.kids i10).bind λrL=>
   (oz rL left9).bind λqh=>
   if (decide (qh<0))=true then
    some (Sum.inl (-1))
   else
    Dj p0 oz n qh (Sh.w (i10+1))
  else
   some (Sum.inr left9)
def Ir (N:Nat)(oz:AE->Int->Option (Int))(p0:AE)(p1:Int):Option (Int):=
 if (decide (p1<1))=true then
  some (-1)
 else
  Sh.cont (Dj p0 oz N (Sh.w (p1-1)) 0) (id) λtR=>
  some tR
def E5 (N:Nat):Nat->AE->Int->Option (Int)
 | 0,_,_=>none
 | n+1,p0,p1=>Ir N (E5 N n) p0 p1
def Lc (N:Nat)(p0:AE)(p1:Int):Option (Int):=E5 N N p0 p1
def Gr (N:Nat)(p0:AE):Option (Int):=
 (Lc N p0 30).bind λq3=>
 if (decide (q3<0))=true then
  some (-1)
 else
  some (Sh.w (30-q3))
def Fb (p0:AP)(p1:(List Int))(p2:(List AE))(p3:Int)(oU:AP->(List Int)->AE->Option (Int)):Nat->Int->Option ((Bool) ⊕ (Unit))
 | 0,_=>none
 | n+1,i10=>
  if (decide (i10<p3))=true then
   (Sh.get p2 i10).bind λqx=>
   (oU p0 p1 qx).bind λqe=>
   if (!decide (qe=0))=true then
    some (Sum.inl false)
   else
    Fb p0 p1 p2 p3 oU n (Sh.w (i10+1))
  else
   some (Sum.inr ())
def Ij (N:Nat)(oU:AP->(List Int)->AE->Option (Int))(p0:AP)(p1:(List Int))(p2:(List AE))(p3:Int):Option (Bool):=
 if (!decide ((Sh.len p2)=p3))=true then
  some false
 else
  Sh.cont (Fb p0 p1 p2 p3 oU N 0) (id) λ()=>
  some true
def GR (p0:AP)(p1:(List Int))(p2:(List AE))(p3:(List Int))(oU:AP->(List Int)->AE->Option (Int)):Nat->Int->Option ((Bool) ⊕ (Unit))
 | 0,_=>none
 | n+1,i10=>
  if (decide (i10<(Sh.len p3)))=true then
   (Sh.get p2 i10).bind λqx=>
   (oU p0 p1 qx).bind λqe=>
   (Sh.get p3 i10).bind λtQ=>
   if (!decide (qe=tQ))=true then
    some (Sum.inl false)
   else
    GR p0 p1 p2 p3 oU n (Sh.w (i10+1))
  else
   some (Sum.inr ())
def I4 (N:Nat)(oU:AP->(List Int)->AE->Option (Int))(p0:AP)(p1:(List Int))(p2:(List AE))(p3:(List Int)):Option (Bool):=
 if (!decide ((Sh.len p2)=(Sh.len p3)))=true then
  some false
 else
  Sh.cont (GR p0 p1 p2 p3 oU N 0) (id) λ()=>
  some true
def FJ (p0:(List Int)):Option (List Int):=
 (Sh.app ([]:List Int) p0 8).bind λl3=>
 some l3
def Ea (p0:(List Int))(p1:(List Int)):Option (List Int):=
 (FJ p0).bind λq3=>
 (Sh.app q3 p1 8).bind λl4=>
 some l4
def EI (N:Nat)(p0:AP)(p1:(List Int))(p2:AE)(qD:Int)(q3:(List Int))(oU:AP->(List Int)->AE->Option (Int)):Nat->Int->Option ((Int) ⊕ (Unit))
 | 0,_=>none
 | n+1,i18=>
  if (decide (i18<(Sh.len q3)))=true then
   (Sh.get q3 i18).bind λxV=>
   (Bu N p0.decls xV).bind λri=>
   (Ea p1 ri).bind λqm=>
   (Sh.get p2.kids (Sh.w (1+i18))).bind λc29=>
   (oU p0 qm c29).bind λtz=>
   if (!decide (tz=qD))=true then
    some (Sum.inl (-1))
   else
    EI N p0 p1 p2 qD q3 oU n (Sh.w (i18+1))
  else
   some (Sum.inr ())
def Jr (N:Nat)(oU:AP->(List Int)->AE->Option (Int))(p0:AP)(p1:(List Int))(p2:AE):Option (Int):=
 (GG N p0.decls p2.num).bind λq3=>
 (
  if (decide ((Sh.len q3)=0))=true then
   some true
  else
  if (!decide ((Sh.len p2.kids)=(Sh.w (1+(Sh.len q3)))))=true then
   some true
  else
   (Sh.get p2.kids 0).bind λc37=>
   (oU p0 p1 c37).bind λsP=>
   some (!decide (sP=p2.num))
 ).bind λt6=>
 if t6=true then
  some (-1)
 else
  (Sh.get q3 0).bind λc11=>
  (Bu N p0.decls c11).bind λqS=>
  (Ea p1 qS).bind λpo=>
  (Sh.get p2.kids 1).bind λqw=>
  (oU p0 po qw).bind λqD=>
  Sh.cont (EI N p0 p1 p2 qD q3 oU N 1) (id) λ()=>
  some qD
def Ew (p0:(List AM))(p1 p2:Int):Nat->Int->Option ((Int) ⊕ (Unit))
 | 0,_=>none
 | n+1,i4=>
  if (decide (i4<(Sh.len p0)))=true then
   (
    Option.bind (Sh.get p0 i4) λqi=>
    if (decide ((Sh.len qi.cons)=0))=true then
     if (decide (qi.from_=p1))=true then
      some (decide (qi.to=p2))
     else
      some false
    else
     some false
   ).bind λt12=>
   if t12=true then
    some (Sum.inl (Sh.w (i4+1)))
   else
    Ew p0 p1 p2 n (Sh.w (i4+1))
  else
   some (Sum.inr ())
def Ii (N:Nat)(p0:(List AM))(p1 p2:Int):Option (Int):=
 Sh.cont (Ew p0 p1 p2 N 0) (id) λ()=>
 some (-1)
def GS (N:Nat)(oU:AP->(List Int)->AE->Option (Int))(p0:AP)(p1:(List Int))(p2:AE):Option (Int):=
 (DX p2.num 0 (Sh.w ((Sh.len p0.funcs)-1))).bind λq4=>
 if (!q4)=true then
  some (-1)
 else
  (Sh.get p0.funcs p2.num).bind λsv=>
  if (decide (p2.op=9))=true then
   (I4 N oU p0 p1 p2.kids sv.params).bind λqP=>
   if (!qP)=true then
    some (-1)
   else
    some sv.result
  else
   (
    if (decide ((Sh.len sv.params)=0))=true then
     some true
    else
     (Sh.sl sv.params 0 (Sh.w ((Sh.len sv.params)-1))).bind λl33=>
     (I4 N oU p0 p1 p2.kids l33).bind λqZ=>
     some (!qZ)
   ).bind λt25=>
   if t25=true then
    some (-1)
   else
    (Sh.get sv.params (Sh.w ((Sh.len sv.params)-1))).bind λwc=>
    (Ii N p0.decls wc sv.result).bind λwA=>
    some wA
def Gl (p0:(List AM))(p1:Int):Option (Bool):=
 (
  Option.bind (DX p1 1 (Sh.len p0)) λq5=>
  if q5=true then
   (Sh.get p0 (Sh.w (p1-1))).bind λc7=>
   some (decide ((Sh.len c7.cons)=0))
  else
   some false
 ).bind λt3=>
 some t3
def Bp (N:Nat)(oU:AP->(List Int)->AE->Option (Int))(p0:AP)(p1:(List Int))(p2:AE):Option (Int):=
 Sh.cont (
  if (decide (p2.op=0))=true then
   (
    if (decide ((Sh.len p2.kids)=0))=true then
     (DX p2.num (-999) 999).bind λqD=>
     some qD
    else
     some false
   ).bind λt10=>
   if t10=true then
    some (Sum.inl 0)
   else
    some (Sum.inr ())
  else
  if (decide (p2.op=12))=true then
   (
    if (decide ((Sh.len p2.kids)=0))=true then
     (DX p2.num 0 (Sh.w ((Sh.len p1)-1))).bind λsQ=>
     some sQ
    else
     some false
   ).bind λt19=>
   if t19=true then
    (Sh.get p1 p2.num).bind λuW=>
    some (Sum.inl uW)
   else
    some (Sum.inr ())
  else
   (
    if (decide (p2.op=1))=true then
     some true
    else
    if (decide (p2.op=2))=true then
     some true
    else
    if (decide (p2.op=3))=true then
     some true
    else
     some (decide (p2.op=4))
   ).bind λt27=>
   if t27=true then
    (
     if (decide (p2.num=0))=true then
      (Ij N oU p0 p1 p2.kids 2).bind λvH=>
      some vH
     else
      some false
    ).bind λt31=>
    if t31=true then
     some (Sum.inl 0)
    else
     some (Sum.inr ())
   else
   if (decide (p2.op=5))=true then
    (
     if (decide (p2.num=0))=true then
      (Ij N oU p0 p1 p2.kids 1).bind λvI=>
      some vI
     else
      some false
    ).bind λt40=>
    if t40=true then
     some (Sum.inl 0)
    else
     some (Sum.inr ())
   else
   if (decide (p2.op=6))=true then
    (
     Option.bind (GJ N p0.decls p2.num) λvJ=>
     if (decide (0<vJ))=true then
      (Bu N p0.decls p2.num).bind λuA=>
      (I4 N oU p0 p1 p2.kids uA).bind λwa=>
      some wa
     else
      some false
    ).bind λt49=>
    if t49=true then
     (GJ N p0.decls p2.num).bind λuB=>
     some (Sum.inl uB)
    else
     some (Sum.inr ())
   else
   if (decide (p2.op=13))=true then
    (
     if (decide (p2.num=0))=true then
      some (decide ((Sh.len p2.kids)=2))
     else
      some false
    ).bind λt61=>
    if t61=true then
     (Sh.get p2.kids 0).bind λc65=>
     (oU p0 p1 c65).bind λq66=>
     if (decide (0<=q66))=true then
      (Ea p1 [q66]).bind λyJ=>
      (Sh.get p2.kids 1).bind λc71=>
      (oU p0 yJ c71).bind λq72=>
      some (Sum.inl q72)
     else
      some (Sum.inr ())
    else
     some (Sum.inr ())
   else
   if (decide (p2.op=7))=true then
    (
     if (decide (p2.num=0))=true then
      if (decide ((Sh.len p2.kids)=3))=true then
       (Sh.get p2.kids 0).bind λc90=>
       (oU p0 p1 c90).bind λq91=>
       some (decide (q91=0))
      else
       some false
     else
      some false
    ).bind λt77=>
    if t77=true then
     (Sh.get p2.kids 1).bind λc81=>
     (oU p0 p1 c81).bind λzV=>
     (Sh.get p2.kids 2).bind λc84=>
     (oU p0 p1 c84).bind λq85=>
     if (decide (q85=zV))=true then
      some (Sum.inl zV)
     else
      some (Sum.inr ())
    else
     some (Sum.inr ())
   else
   if (decide (p2.op=8))=true then
    (Jr N oU p0 p1 p2).bind λq95=>
    some (Sum.inl q95)
   else
    (
     if (decide (p2.op=9))=true then
      some true
     else
      some (decide (p2.op=10))
    ).bind λt97=>
    if t97=true then
     (GS N oU p0 p1 p2).bind λq101=>
     some (Sum.inl q101)
    else
    if (decide (p2.op=11))=true then
     (
      if (decide (p2.num=0))=true then
       some (decide ((Sh.len p2.kids)=2))
      else
       some false
     ).bind λt105=>
     if t105=true then
      (Sh.get p2.kids 0).bind λc109=>
      (oU p0 p1 c109).bind λuC=>
      (
       Option.bind (Gl p0.decls uC) λq117=>
       if q117=true then
        (Sh.get p2.kids 1).bind λc119=>
        (oU p0 p1 c119).bind λq120=>
        (Sh.get p0.decls (Sh.w (uC-1))).bind λc121=>
        some (decide (q120=c121.from_))
       else
        some false
      ).bind λt112=>
      if t112=true then
       (Sh.get p0.decls (Sh.w (uC-1))).bind λc116=>
       some (Sum.inl c116.to)
      else
       some (Sum.inr ())
     else
      some (Sum.inr ())
    else
     some (Sum.inr ())
 ) (id) λ()=>
 some (-1)
def Cw (N:Nat):Nat->AP->(List Int)->AE->Option (Int)
 | 0,_,_,_=>none
 | n+1,p0,p1,p2=>Bp N (Cw N n) p0 p1 p2
def KQ (N:Nat)(p0:AP)(p1:(List Int))(p2:AE):Option (Int):=Cw N N p0 p1 p2
def CI (N:Nat)(p0:AP):Nat->Int->Option ((Bool) ⊕ (Unit))
 | 0,_=>none
 | n+1,i11=>
  if (decide (i11<(Sh.len p0.funcs)))=true then
   (
    Option.bind (Sh.get p0.funcs i11) λuW=>
    (Gr N uW.body).bind λuD=>
    if (decide (uD<0))=true then
     some true
    else
     (KQ N p0 uW.params uW.body).bind λtS=>
     some (!decide (tS=uW.result))
   ).bind λt19=>
   if t19=true then
    some (Sum.inl false)
   else
    CI N p0 n (Sh.w (i11+1))
  else
   some (Sum.inr ())
def Bm (N:Nat)(p0:AP):Option (Bool):=
 (HA N p0).bind λq4=>
 if (!q4)=true then
  some false
 else
  Sh.cont (CI N p0 N 0) (id) λ()=>
  some true
def Dk (p0:AP):Nat->Int->(List Bt)->Option (List Bt)
 | 0,_,_=>none
 | n+1,t9,l10=>
  if (decide (t9<(Sh.len p0.funcs)))=true then
   (Sh.get p0.funcs t9).bind λtQ=>
   (Sh.app l10 ([Bt.mk tQ.params [] tQ.result]) 56).bind λl21=>
   Dk p0 n (Sh.w (t9+1)) l21
  else
   some l10
def HB (N:Nat)(p0:AP):Option (Bool):=
 if (decide (4<(Sh.len p0.funcs)))=true then
  some false
 else
  (Dk p0 N 0 []).bind λzW=>
  (IT N p0.decls zW).bind λsa=>
  some sa
def DM (p0:AE)(ov:Int->AE->Option (Bool×Int)):Nat->Int->Int->Option ((Bool×Int) ⊕ (Int))
 | 0,_,_=>none
 | n+1,t9,f10=>
  if (decide (t9<(Sh.len p0.kids)))=true then
   (Sh.get p0.kids t9).bind λrL=>
   (ov f10 rL).bind λpR=>
   if (!pR.1)=true then
    some (Sum.inl (false,pR.2))
   else
    DM p0 ov n (Sh.w (t9+1)) pR.2
  else
   some (Sum.inr f10)
def IB (N:Nat)(ov:Int->AE->Option (Bool×Int))(oR:Int)(p0:AE):Option (Bool×Int):=
 if (decide (30<(Sh.w (oR+1))))=true then
  some (false,Sh.w (oR+1))
 else
  Sh.cont (DM p0 ov N 0 (Sh.w (oR+1))) (id) λf11=>
  some (true,f11)
def Et (N:Nat):Nat->Int->AE->Option (Bool×Int)
 | 0,_,_=>none
 | n+1,oR,p0=>IB N (Et N n) oR p0
def Kn (N:Nat)(oR:Int)(p0:AE):Option (Bool×Int):=Et N N oR p0
def Ib (N:Nat)(p0:AE):Option (Int):=
 (Kn N 0 p0).bind λq5=>
 if (!q5.1)=true then
  some (-1)
 else
  some q5.2
def FQ (p0:AP):Nat->Int->(List Bt)->Option (List Bt)
 | 0,_,_=>none
 | n+1,t5,l6=>
  if (decide (t5<(Sh.len p0.funcs)))=true then
   (Sh.get p0.funcs t5).bind λsu=>
   (Sh.app l6 ([Bt.mk su.params [] su.result]) 56).bind λwb=>
   FQ p0 n (Sh.w (t5+1)) wb
  else
   some l6
def KX (N:Nat)(p0:AP):Option (BO):=
 (FQ p0 N 0 []).bind λl7=>
 some (BO.mk p0.decls l7)
def GM (p1:Int):Option (List Int):=
 if (decide (p1<0))=true then
  none
 else
  (
   if (decide (0<(Sh.w (p1-(Sh.w (0-0))))))=true then
    (Sh.mk 0 (Sh.w (p1-(Sh.w (0-0)))) 8).bind λuX=>
    (Sh.hi uX 0).bind λvh=>
    some vh
   else
    some []
  ).bind λl6=>
  some l6
def Ce (p0:(List (List Int))):Nat->Int->(List Int)->Option (List Int)
 | 0,_,_=>none
 | n+1,t13,qI=>
  if (decide (t13<(Sh.len p0)))=true then
   (Sh.get p0 t13).bind λuW=>
   (Sh.app qI uW 8).bind λzX=>
   Ce p0 n (Sh.w (t13+1)) zX
  else
   some qI
def Cf (p0:(List (List Int))):Nat->Int->Int->Option (Int)
 | 0,_,_=>none
 | n+1,size5,t6=>
  if (decide (t6<(Sh.len p0)))=true then
   (Sh.get p0 t6).bind λwc=>
   if (decide ((Sh.w (size5+(Sh.len wc)))<0))=true then
    none
   else
    Cf p0 n (Sh.w (size5+(Sh.len wc))) (Sh.w (t6+1))
  else
   some size5
def Fi (N:Nat)(p0:(List (List Int))):Option (List Int):=
 (Cf p0 N 0 0).bind λzY=>
 (GM zY).bind λqA=>
 (Ce p0 N 0 qA).bind λvK=>
 some vK
def Bg (N:Nat)(p0:BO)(p1:(List Int))(p2:(List AE))(p3:(List (List Int)))(oW:(List Int)->BO->AE->Option (Int)):Nat->Int->Int->Option ((Int) ⊕ (Int))
 | 0,_,_=>none
 | n+1,pJ,t6=>
  if (decide (t6<(Sh.len p2)))=true then
   (Sh.get p2 t6).bind λsu=>
   (Sh.get p3 t6).bind λqy=>
   (Fi N [p1,qy]).bind λrH=>
   (oW rH p0 su).bind λqe=>
   (
    if (decide (qe<0))=true then
     some true
    else
    if (decide (0<t6))=true then
     some (!decide (qe=pJ))
    else
     some false
   ).bind λt23=>
   if t23=true then
    some (Sum.inl (-1))
   else
    Bg N p0 p1 p2 p3 oW n qe (Sh.w (t6+1))
  else
   some (Sum.inr pJ)
def EN (N:Nat)(oW:(List Int)->BO->AE->Option (Int))(p0:BO)(p1:(List Int))(p2:(List AE))(p3:(List (List Int))):Option (Int):=
 Sh.cont (Bg N p0 p1 p2 p3 oW N (-1) 0) (id) λqT=>
 some qT
def Jh (p0:(List AM))(p1:Int):Option (AM×Bool):=
 (
  if (decide (p1<1))=true then
   some true
  else
  if (decide ((Sh.len p0)<p1))=true then
   some true
  else
   (Sh.get p0 (Sh.w (p1-1))).bind λsN=>
   some (decide (0<(Sh.len sN.cons)))
 ).bind λt4=>
 if t4=true then
  some (AM.mk 0 0 [],false)
 else
  (Sh.get p0 (Sh.w (p1-1))).bind λc9=>
  some (c9,true)
def DA (p0:(List Int))(p1:(List Int)):Nat->Int->Option ((Bool) ⊕ (Unit))
 | 0,_=>none
 | n+1,t10=>
  if (decide (t10<(Sh.len p0)))=true then
   (Sh.get p0 t10).bind λrL=>
   (Sh.get p1 t10).bind λtQ=>
   if (!decide (rL=tQ))=true then
    some (Sum.inl false)
   else
    DA p0 p1 n (Sh.w (t10+1))
  else
   some (Sum.inr ())
def DP (N:Nat)(p0:(List Int))(p1:(List Int)):Option (Bool):=
 if (!decide ((Sh.len p0)=(Sh.len p1)))=true then
  some false
 else
  Sh.cont (DA p0 p1 N 0) (id) λ()=>
  some true
def Ex (p0:(List AM))(p1 p2:Int):Nat->Int->Option ((Int) ⊕ (Unit))
 | 0,_=>none
 | n+1,t4=>
  if (decide (t4<(Sh.len p0)))=true then
   (Sh.get p0 t4).bind λsN=>
   (
    if (decide ((Sh.len sN.cons)=0))=true then
     if (decide (sN.from_=p1))=true then
      some (decide (sN.to=p2))
     else
      some false
    else
     some false
   ).bind λt14=>
   if t14=true then
    some (Sum.inl (Sh.w (t4+1)))
   else
    Ex p0 p1 p2 n (Sh.w (t4+1))
  else
   some (Sum.inr ())
def Ji (N:Nat)(p0:(List AM))(p1 p2:Int):Option (Int):=
 Sh.cont (Ex p0 p1 p2 N 0) (id) λ()=>
 some (-1)
def BI (N:Nat)(p0:BO)(p1 p2:Int)(p3:(List Int)):Option (Int×Bool):=
 Sh.cont (
  if (decide (p1=0))=true then
   (
    if (decide ((-999)<=p2))=true then
     if (decide (p2<=999))=true then
      some (decide ((Sh.len p3)=0))
     else
      some false
    else
     some false
   ).bind λt15=>
   some (Sum.inl (0,t15))
  else
   (
    if (decide (p1=1))=true then
     some true
    else
    if (decide (p1=2))=true then
     some true
    else
    if (decide (p1=3))=true then
     some true
    else
     some (decide (p1=4))
   ).bind λt20=>
   if t20=true then
    some (Sum.inr [(0:Int),0])
   else
   if (decide (p1=5))=true then
    some (Sum.inr [(0:Int)])
   else
   if (decide (p1=11))=true then
    if (!decide ((Sh.len p3)=2))=true then
     some (Sum.inl (-1,false))
    else
     (Sh.get p3 0).bind λxW=>
     (Jh p0.decls xW).bind λsC=>
     (
      if sC.2=true then
       (Sh.get p3 1).bind λxU=>
       if (decide (xU=sC.1.from_))=true then
        some (decide (p2=0))
       else
        some false
      else
       some false
     ).bind λt38=>
     some (Sum.inl (sC.1.to,t38))
   else
   if (decide (p1=6))=true then
    (IA N p0.decls p2).bind λvL=>
    (
     if (decide (0<=vL.1))=true then
      (DP N p3 vL.2.fields).bind λvI=>
      some vI
     else
      some false
    ).bind λt42=>
    some (Sum.inl (vL.1,t42))
   else
    (
     if (decide (p1=9))=true then
      some true
     else
      some (decide (p1=10))
    ).bind λt47=>
    if t47=true then
     (
      if (decide (p2<0))=true then
       some true
      else
       some (decide ((Sh.len p0.funcs)<=p2))
     ).bind λt52=>
     if t52=true then
      some (Sum.inl (-1,false))
     else
      (Sh.get p0.funcs p2).bind λuF=>
      if (decide (p1=9))=true then
       (DP N p3 uF.params).bind λq62=>
       some (Sum.inl (uF.result,q62))
      else
      if (decide ((Sh.w ((Sh.len uF.params)-1))<0))=true then
       some (Sum.inl (-1,false))
      else
       (Sh.get uF.params (Sh.w ((Sh.len uF.params)-1))).bind λc69=>
       (Ji N p0.decls c69 uF.result).bind λyJ=>
       (
        if (decide (0<=yJ))=true then
         (Sh.sl uF.params 0 (Sh.w ((Sh.len uF.params)-1))).bind λl75=>
         (DP N p3 l75).bind λyK=>
         some yK
        else
         some false
       ).bind λt72=>
       some (Sum.inl (yJ,t72))
    else
     some (Sum.inl (-1,false))
 ) (id) λl4=>
 (
  if (decide (p2=0))=true then
   (DP N p3 l4).bind λqA=>
   some qA
  else
   some false
 ).bind λt7=>
 some (0,t7)
def CH (N:Nat)(p0:BO)(uA:(List Int)):Nat->Int->(List (List Int))->Option (List (List Int))
 | 0,_,_=>none
 | n+1,t67,xX=>
  if (decide (t67<(Sh.len uA)))=true then
   (Sh.get uA t67).bind λc79=>
   (EJ N p0.decls c79).bind λq80=>
   (Sh.get xX t67).bind λc81=>
   CH N p0 uA n (Sh.w (t67+1)) (Sh.put xX t67 q80)
  else
   some xX
def CG (s0:(List Int))(p0:BO)(p2:AE)(oW:(List Int)->BO->AE->Option (Int)):Nat->Int->(List Int)->Option ((Int) ⊕ (List Int))
 | 0,_,_=>none
 | n+1,t90,l91=>
  if (decide (t90<(Sh.len p2.kids)))=true then
   (Sh.get p2.kids t90).bind λc108=>
   (oW s0 p0 c108).bind λuC=>
   (Sh.get l91 t90).bind λc111=>
   (Sh.get (Sh.put l91 t90 uC) t90).bind λc113=>
   if (decide (c113<0))=true then
    some (Sum.inl (-1))
   else
    CG s0 p0 p2 oW n (Sh.w (t90+1)) (Sh.put l91 t90 uC)
  else
   some (Sum.inr l91)
def Ao (N:Nat)(oW:(List Int)->BO->AE->Option (Int))(s0:(List Int))(p0:BO)(p2:AE):Option (Int):=
 if (decide (p2.op=12))=true then
  (
   if (decide (0<(Sh.len p2.kids)))=true then
    some true
   else
   if (decide (p2.num<0))=true then
    some true
   else
    some (decide ((Sh.len s0)<=p2.num))
  ).bind λt8=>
  if t8=true then
   some (-1)
  else
   (Sh.get s0 p2.num).bind λwD=>
   some wD
 else
 if (decide (p2.op=13))=true then
  (
   if (!decide ((Sh.len p2.kids)=2))=true then
    some true
   else
    some (!decide (p2.num=0))
  ).bind λt20=>
  if t20=true then
   some (-1)
  else
   (Sh.get p2.kids 0).bind λyL=>
   (oW s0 p0 yL).bind λtS=>
   if (decide (tS<0))=true then
    some (-1)
   else
    (Sh.app s0 [tS] 8).bind λl32=>
    (Sh.get p2.kids 1).bind λvk=>
    (oW l32 p0 vk).bind λqZ=>
    some qZ
 else
 if (decide (p2.op=7))=true then
  (
   if (!decide ((Sh.len p2.kids)=3))=true then
    some true
   else
   if (!decide (p2.num=0))=true then
    some true
   else
    (Sh.get p2.kids 0).bind λzT=>
    (oW s0 p0 zT).bind λq52=>
    some (!decide (q52=0))
  ).bind λt41=>
  if t41=true then
   some (-1)
  else
   (Sh.sl p2.kids 1 (Sh.len p2.kids)).bind λl46=>
   (Sh.mk [] 2 24).bind λl47=>
   (EN N oW p0 s0 l46 l47).bind λwC=>
   some wC
 else
 if (decide (p2.op=8))=true then
  (HP N p0.decls p2.num).bind λuA=>
  (
   if (decide ((Sh.len uA)=0))=true then
    some true
   else
   if (!decide ((Sh.len p2.kids)=(Sh.w (1+(Sh.len uA)))))=true then
    some true
   else
    (Sh.get p2.kids 0).bind λc84=>
    (oW s0 p0 c84).bind λq85=>
    some (!decide (q85=p2.num))
  ).bind λt59=>
  if t59=true then
   some (-1)
  else
   (Sh.mk [] (Sh.len uA) 24).bind λl64=>
   (CH N p0 uA N 0 l64).bind λl69=>
   (Sh.sl p2.kids 1 (Sh.len p2.kids)).bind λl72=>
   (EN N oW p0 s0 l72 l69).bind λq73=>
   some q73
 else
  (Sh.mk 0 (Sh.len p2.kids) 8).bind λl87=>
  Sh.cont (CG s0 p0 p2 oW N 0 l87) (id) λl92=>
  (BI N p0 p2.op p2.num l92).bind λq95=>
  if (!q95.2)=true then
   some (-1)
  else
   some q95.1
def Bq (N:Nat):Nat->(List Int)->BO->AE->Option (Int)
 | 0,_,_,_=>none
 | n+1,s0,p0,p2=>Ao N (Bq N n) s0 p0 p2
def Hm (N:Nat)(s0:(List Int))(p0:BO)(p2:AE):Option (Int):=Bq N N s0 p0 p2
def Lw (N:Nat)(p0:AP)(p1:(List Int))(p2:AE):Option (Int):=
 (
  Option.bind (HB N p0) λpo=>
  if (!po)=true then
   some true
  else
   (Ib N p2).bind λqD=>
   if (decide (qD<0))=true then
    some true
   else
    (G1 N p0.decls p1).bind λqP=>
    some (!qP)
 ).bind λt4=>
 if t4=true then
  some (-1)
 else
  (KX N p0).bind λq9=>
  (CP p1).bind λqA=>
  (Hm N qA q9 p2).bind λrM=>
  some rM
def Dn (N:Nat)(p0:AP):Nat->Int->Option ((Bool) ⊕ (Unit))
 | 0,_=>none
 | n+1,t11=>
  if (decide (t11<(Sh.len p0.funcs)))=true then
   (Sh.get p0.funcs t11).bind λrL=>
   (Lw N p0 rL.params rL.body).bind λpR=>
   if (!decide (pR=rL.result))=true then
    some (Sum.inl false)
   else
    Dn N p0 n (Sh.w (t11+1))
  else
   some (Sum.inr ())
def EE (N:Nat)(p0:AP):Option (Bool):=
 (HB N p0).bind λq4=>
 if (!q4)=true then
  some false
 else
  Sh.cont (Dn N p0 N 0) (id) λ()=>
  some true
end RC
namespace RC
end RC
namespace RC
end RC
namespace RC
end RC
namespace RC
end RC
namespace RC
def GC (p0:(List Int))(p1:Int):Nat->Int->Option ((Bool) ⊕ (Unit))
 | 0,_=>none
 | n+1,i4=>
  if (decide (i4<(Sh.len p0)))=true then
   (Sh.get p0 i4).bind λsN=>
   if (decide (sN=p1))=true then
    some (Sum.inl true)
   else
    GC p0 p1 n (Sh.w (i4+1))
  else
   some (Sum.inr ())
def J1 (N:Nat)(p0:(List Int))(p1:Int):Option (Bool):=
 Sh.cont (GC p0 p1 N 0) (id) λ()=>
 some false
def DB (p0:(List Int))(p1:Int):Nat->Int->Option ((Int) ⊕ (Unit))
 | 0,_=>none
 | n+1,t4=>
  if (decide (t4<(Sh.len p0)))=true then
   (Sh.get p0 t4).bind λwD=>
   if (decide (p1=wD))=true then
    some (Sum.inl t4)
   else
    DB p0 p1 n (Sh.w (t4+1))
  else
   some (Sum.inr ())
def Fy (N:Nat)(p0:(List Int))(p1:Int):Option (Int):=
 Sh.cont (DB p0 p1 N 0) (id) λ()=>
 some (-1)
end RC
namespace RC
def DY (p0:(List AM)):Option (List AM):=
 (Sh.app ([]:List AM) p0 40).bind λl6=>
 some l6
def Cz (p0:(List Db)):Option (List Db):=
 (Sh.app ([]:List Db) p0 24).bind λl6=>
 some l6
end RC
namespace RC
def EP (cs:List Db):Nat->Int->List Db->Option (List Db)
 | 0,_,_=>none
 | n+1,i,q=>
  if decide (i<Sh.len cs)=true then
   (Sh.get cs i).bind λc=>
   (CP c.fields).bind λf=>
   (Sh.get q i).bind λ_=>
   EP cs n (Sh.w (i+1)) (Sh.put q i (Db.mk f))
  else some q
def ER (N:Nat)(m:Int):Nat->Int->List AM->Option (List AM)
 | 0,_,_=>none
 | n+1,t,l=>
  if decide (t<m)=true then
   (Sh.get l t).bind λd=>
   (Cz d.cons).bind λpR=>
   (EP d.cons N 0 pR).bind λq=>
   ER N m n (Sh.w (t+1)) (Sh.put l t (AM.mk d.from_ d.to q))
  else some l
def Hw (N:Nat)(p0:List AM):Option (List AM):=
 (DY p0).bind λq9=>
 (ER N (Sh.len q9) N 0 q9).bind λl=>
 some l
end RC
namespace RC
def ED (i5:Int)(p0:(List AM)):Nat->Int->(List Db)->Option (List Db)
 | 0,_,_=>none
 | n+1,k17,l18=>
  (Sh.get p0 i5).bind λyL=>
  if (decide (k17<(Sh.len yL.cons)))=true then
   (Sh.get yL.cons k17).bind λwE=>
   (FJ wE.fields).bind λsO=>
   (Sh.app l18 [Db.mk sO] 24).bind λl30=>
   ED i5 p0 n (Sh.w (k17+1)) l30
  else
   some l18
def Em (N:Nat)(p0:(List AM)):Nat->Int->(List AM)->Option (List AM)
 | 0,_,_=>none
 | n+1,i5,l6=>
  if (decide (i5<(Sh.len p0)))=true then
   (ED i5 p0 N 0 []).bind λxY=>
   (Sh.get p0 i5).bind λxZ=>
   (Sh.app l6 [AM.mk xZ.from_ xZ.to xY] 40).bind λl22=>
   Em N p0 n (Sh.w (i5+1)) l22
  else
   some l6
def IQ (N:Nat)(p0:(List AM)):Option (List AM):=
 (Em N p0 N 0 []).bind λl7=>
 some l7
end RC
namespace RC
def IU (p0:(List Int)):Option ((List Int)×Int):=
 (
  if (decide (2000<(Sh.len p0)))=true then
   (Sh.sl p0 0 2000).bind λl8=>
   some l8
  else
   some p0
 ).bind λzZ=>
 some (zZ,0)
def FE (p0:(List Int)):Option (Db):=
 some (Db.mk p0)
def Az (oR:(List Int))(oV p1:Int):Option (Int×Int):=
 (
  if (decide (p1<1))=true then
   some true
  else
   some (decide ((Sh.len oR)=0))
 ).bind λt5=>
 if t5=true then
  some (0,Sh.w (oV+1))
 else
 if (decide ((Sh.w ((Sh.w (oV+1))-1))<(Sh.len oR)))=true then
  (Sh.get oR (Sh.w ((Sh.w (oV+1))-1))).bind λqw=>
  (Sh.rem (Sh.wk .i64 qw) p1).bind λd15=>
  some (d15,Sh.w (oV+1))
 else
  (Sh.rem (Sh.w ((Sh.w (oV+1))-1)) (Sh.len oR)).bind λd17=>
  (Sh.get oR d17).bind λqx=>
  (Sh.rem (Sh.w ((Sh.w ((Sh.w ((Sh.w (oV+1))-1))*7))+3)) (Sh.len oR)).bind λd19=>
  (Sh.get oR d19).bind λtQ=>
  (Sh.quo (Sh.w ((Sh.w (oV+1))-1)) (Sh.len oR)).bind λd21=>
  (Sh.rem (Sh.xor (Sh.w ((Sh.w ((Sh.w ((Sh.w ((Sh.wk .i64 qx)*131))+(Sh.w ((Sh.wk .i64 tQ)*1117))))+(Sh.w ((Sh.w ((Sh.w (oV+1))-1))*29))))+(Sh.w (d21*53)))) (Sh.w (Int.tdiv (Sh.w ((Sh.w ((Sh.w ((Sh.w ((Sh.wk .i64 qx)*131))+(Sh.w ((Sh.wk .i64 tQ)*1117))))+(Sh.w ((Sh.w ((Sh.w (oV+1))-1))*29))))+(Sh.w (d21*53)))) 64))) p1).bind λd24=>
  some (d24,Sh.w (oV+1))
def HE (oR:(List Int))(oV:Int):Option ((List AM)×Int):=
 (FE ([]:List Int)).bind λq3=>
 (FE [(0:Int),1]).bind λq4=>
 (FE ([]:List Int)).bind λq6=>
 (FE [(3:Int),0,3]).bind λq7=>
 (FE [(1:Int),3]).bind λq9=>
 (FE [(1:Int),1,0]).bind λqA=>
 (FE [(0:Int)]).bind λrM=>
 (FE [(3:Int)]).bind λqS=>
 (Az oR oV 5).bind λqD=>
 (
  if (decide (qD.1<4))=true then
   (Sh.get ([AM.mk 0 0 [q9],AM.mk 1 0 [],AM.mk 0 0 [qA,rM,qS],AM.mk 0 1 []]) qD.1).bind λuV=>
   (Sh.app ([AM.mk 0 0 [q3,q4],AM.mk 0 0 [],AM.mk 0 0 [q6,q7]]) [uV] 40).bind λyG=>
   some yG
  else
   some ([AM.mk 0 0 [q3,q4],AM.mk 0 0 [],AM.mk 0 0 [q6,q7]])
 ).bind λyI=>
 some (yI,qD.2)
def E0 (p0:(List Int))(p1:Int):Option (Ac):=
 some (Ac.mk p0 p1 (AE.mk 0 0 []))
def CA (oR:(List Int))(oV:Int)(p1:(List Int)):Option (Int×Int):=
 (Az oR oV (Sh.len p1)).bind λq3=>
 (Sh.get p1 q3.1).bind λc4=>
 some (c4,q3.2)
def Ey (p0:(List Int))(p1:Int):Nat->Int->Option ((Int) ⊕ (Unit))
 | 0,_=>none
 | n+1,i4=>
  if (decide (i4<(Sh.len p0)))=true then
   (Sh.get p0 i4).bind λsN=>
   if (decide (sN=p1))=true then
    some (Sum.inl i4)
   else
    Ey p0 p1 n (Sh.w (i4+1))
  else
   some (Sum.inr ())
def Jn (N:Nat)(p0:(List Int))(p1:Int):Option (Int):=
 Sh.cont (Ey p0 p1 N 0) (id) λ()=>
 some (-1)
def FK (p0:Int):Option (AE):=
 some (AE.mk 0 p0 [])
def Dv (p0:(List Int))(p1:Int):Nat->Int->(List Int)->Option (List Int)
 | 0,_,_=>none
 | n+1,i5,l6=>
  if (decide (i5<(Sh.len p0)))=true then
   (
    Option.bind (Sh.get p0 i5) λqy=>
    if (decide (qy=p1))=true then
     (Sh.app l6 [i5] 8).bind λxY=>
     some xY
    else
     some l6
   ).bind λqI=>
   Dv p0 p1 n (Sh.w (i5+1)) qI
  else
   some l6
def H3 (N:Nat)(p0:(List Int))(p1:Int):Option (List Int):=
 (Dv p0 p1 N 0 []).bind λl7=>
 some l7
def Eb (N:Nat)(p0:AP)(p1:Int):Nat->Int->(List Int)->Option (List Int)
 | 0,_,_=>none
 | n+1,f5,l6=>
  if (decide (f5<(Sh.len p0.funcs)))=true then
   (
    Option.bind (Sh.get p0.funcs f5) λqy=>
    (
     if (decide (0<(Sh.len qy.params)))=true then
      (Sh.get qy.params (Sh.w ((Sh.len qy.params)-1))).bind λza=>
      (Ii N p0.decls za qy.result).bind λsQ=>
      some (decide (sQ=p1))
     else
      some false
    ).bind λt19=>
    if t19=true then
     (Sh.app l6 [f5] 8).bind λl22=>
     some l22
    else
     some l6
   ).bind λqI=>
   Eb N p0 p1 n (Sh.w (f5+1)) qI
  else
   some l6
def Hs (N:Nat)(p0:AP)(p1:Int):Option (List Int):=
 (Eb N p0 p1 N 0 []).bind λl7=>
 some l7
def Gs (N:Nat)(p0:AP)(p1:(List Int))(p2:Int):Option (Bool):=
 (
  Option.bind (Gl p0.decls p2) λq5=>
  if (!q5)=true then
   some true
  else
   (Hs N p0 p2).bind λq7=>
   if (decide (0<(Sh.len q7)))=true then
    some true
   else
    (J1 N p1 p2).bind λq9=>
    some q9
 ).bind λt3=>
 some t3
def Ca (p0:Int):Option (AE):=
 some (AE.mk 12 p0 [])
def Be (p0 p1:Int)(p2:(List AE)):Option (AE):=
 some (AE.mk p0 p1 p2)
def Ig (oR:(List Int))(oV:Int):Option (Int×Int):=
 (Az oR oV 6).bind λq3=>
 (Az oR q3.2 6).bind λq4=>
 (Az oR q4.2 40).bind λq5=>
 (CA oR q5.2 [q3.1,q4.1,0,1,2,-1,3,q5.1,999,-998]).bind λq6=>
 some (q6.1,q6.2)
def Cy (oR:(List Int))(s1:(List Ac))(oT:(List AM))(rH:(List Int))(od:(List Int)->Int->(List Ac)->(List AM)->Int->Option (AE×Int)):Nat->Int->Int->(List AE)->Option (Int×(List AE))
 | 0,_,_,_=>none
 | n+1,i21,f22,yG=>
  if (decide (i21<(Sh.len rH)))=true then
   (Sh.get rH i21).bind λvk=>
   (od oR f22 s1 oT vk).bind λqZ=>
   (Sh.app yG [qZ.1] 40).bind λl35=>
   Cy oR s1 oT rH od n (Sh.w (i21+1)) qZ.2 l35
  else
   some (f22,yG)
def Dr (zb:Ac)(oR:(List Int))(s1:(List Ac))(oT:(List AM))(od:(List Int)->Int->(List Ac)->(List AM)->Int->Option (AE×Int)):Nat->Int->Int->(List AE)->Option (Int×(List AE))
 | 0,_,_,_=>none
 | n+1,i63,f64,l65=>
  if (decide ((Sh.w (i63+1))<(Sh.len zb.params)))=true then
   (Sh.get zb.params i63).bind λc75=>
   (od oR f64 s1 oT c75).bind λyK=>
   (Sh.app l65 [yK.1] 40).bind λl77=>
   Dr zb oR s1 oT od n (Sh.w (i63+1)) yK.2 l77
  else
   some (f64,l65)
def Hq (N:Nat)(od:(List Int)->Int->(List Ac)->(List AM)->Int->Option (AE×Int))(oR:(List Int))(oV:Int)(s1:(List Ac))(oT:(List AM))(p2:Int):Option (AE×Int):=
 (GG N oT p2).bind λq3=>
 if (decide (0<(Sh.len q3)))=true then
  (Sh.get q3 0).bind λc8=>
  (
   Option.bind (
    if (decide (1<(Sh.len q3)))=true then
     (Az oR oV 4).bind λuY=>
     some (decide (uY.1=0),uY.2)
    else
     some (false,oV)
   ) λ(t41,f42)=>
   if t41=true then
    (Sh.get q3 1).bind λc45=>
    some (c45,f42)
   else
    some (c8,f42)
  ).bind λ(sv,f11)=>
  (
   Option.bind (Bu N oT sv) λwe=>
   (J1 N we p2).bind λsP=>
   if sP=true then
    some c8
   else
    some sv
  ).bind λqw=>
  (Bu N oT qw).bind λrH=>
  (Cy oR s1 oT rH od N 0 f11 []).bind λ(f24,yH)=>
  (Be 6 qw yH).bind λqm=>
  some (qm,f24)
 else
  (Hs N (AP.mk oT s1) p2).bind λsb=>
  (
   if (decide (0<p2))=true then
    some (decide (0<(Sh.len sb)))
   else
    some false
  ).bind λt52=>
  if t52=true then
   (Az oR oV (Sh.len sb)).bind λuA=>
   (Sh.get sb uA.1).bind λuF=>
   (Sh.get s1 uF).bind λzb=>
   (Dr zb oR s1 oT od N 0 uA.2 []).bind λ(f66,l67)=>
   (Be 10 uF l67).bind λyJ=>
   some (yJ,f66)
  else
   (Ig oR oV).bind λq79=>
   (FK q79.1).bind λq80=>
   some (q80,q79.2)
def Dd (N:Nat):Nat->(List Int)->Int->(List Ac)->(List AM)->Int->Option (AE×Int)
 | 0,_,_,_,_,_=>none
 | n+1,oR,oV,s1,oT,p2=>Hq N (Dd N n) oR oV s1 oT p2
def MM (N:Nat)(oR:(List Int))(oV:Int)(s1:(List Ac))(oT:(List AM))(p2:Int):Option (AE×Int):=Dd N N oR oV s1 oT p2
def HY (N:Nat)(oR:(List Int))(oV:Int)(s1:(List Ac))(oT:(List AM))(p2:(List Int))(p3:Int):Option (AE×Int):=
 (H3 N p2 p3).bind λq3=>
 (
  if (decide (0<(Sh.len q3)))=true then
   (Az oR oV 6).bind λqP=>
   if (decide (0<qP.1))=true then
    some (true,qP.2)
   else
    (Gs N (AP.mk oT s1) ([]:List Int) p3).bind λqe=>
    some (!qe,qP.2)
  else
   some (false,oV)
 ).bind λ(t6,f7)=>
 if t6=true then
  (Az oR f7 (Sh.len q3)).bind λrM=>
  (Sh.get q3 rM.1).bind λsN=>
  (Ca sN).bind λpo=>
  some (po,rM.2)
 else
  (MM N oR f7 s1 oT p3).bind λqD=>
  some (qD.1,qD.2)
def Jk (N:Nat)(oR:(List Int))(oV:Int)(s1:(List Ac))(oT:(List AM))(p2:(List Int)):Option (Int×Int):=
 (CA oR oV [(1:Int),1,3,0,2,4,3]).bind λq3=>
 (
  if (decide ((Sh.len oT)<q3.1))=true then
   some true
  else
   (Gs N (AP.mk oT s1) p2 q3.1).bind λqS=>
   some (!qS)
 ).bind λt6=>
 if t6=true then
  some (1,q3.2)
 else
  some (q3.1,q3.2)
def FN (oR:(List Int))(s1:(List Ac))(oT:(List AM))(p2:(List Int))(p3:(List Int))(p4:Int)(oX:(List Int)->Int->(List Ac)->(List AM)->(List Int)->Int->Int->Option (AE×Int)):Nat->Int->Int->(List AE)->Option (Int×(List AE))
 | 0,_,_,_=>none
 | n+1,i5,f6,l7=>
  if (decide (i5<(Sh.len p3)))=true then
   (Sh.get p3 i5).bind λqi=>
   (Sh.quo p4 (Sh.len p3)).bind λd17=>
   (oX oR f6 s1 oT p2 qi d17).bind λrH=>
   (Sh.app l7 [rH.1] 40).bind λxY=>
   FN oR s1 oT p2 p3 p4 oX n (Sh.w (i5+1)) rH.2 xY
  else
   some (f6,l7)
def Fk (N:Nat)(oX:(List Int)->Int->(List Ac)->(List AM)->(List Int)->Int->Int->Option (AE×Int))(oR:(List Int))(oV:Int)(s1:(List Ac))(oT:(List AM))(p2:(List Int))(p3:(List Int))(p4:Int):Option ((List AE)×Int):=
 (FN oR s1 oT p2 p3 p4 oX N 0 oV []).bind λ(f8,l9)=>
 some (l9,f8)
def D5 (N:Nat)(oR:(List Int))(s1:(List Ac))(oT:(List AM))(p2:(List Int))(p3 p4:Int)(q8:(List Int))(oX:(List Int)->Int->(List Ac)->(List AM)->(List Int)->Int->Int->Option (AE×Int)):Nat->Int->Int->(List AE)->Option (Int×(List AE))
 | 0,_,_,_=>none
 | n+1,i13,f14,vK=>
  if (decide (i13<(Sh.len q8)))=true then
   (Sh.get q8 i13).bind λyL=>
   (Bu N oT yL).bind λtS=>
   (Ea p2 tS).bind λri=>
   (Sh.quo (Sh.w (p4-2)) (Sh.len q8)).bind λd28=>
   (oX oR f14 s1 oT ri p3 d28).bind λsO=>
   (Sh.app vK [sO.1] 40).bind λl30=>
   D5 N oR s1 oT p2 p3 p4 q8 oX n (Sh.w (i13+1)) sO.2 l30
  else
   some (f14,vK)
def JF (N:Nat)(oX:(List Int)->Int->(List Ac)->(List AM)->(List Int)->Int->Int->Option (AE×Int))(oR:(List Int))(oV:Int)(s1:(List Ac))(oT:(List AM))(p2:(List Int))(p3 p4:Int):Option (AE×Int):=
 (CA oR oV [(1:Int),1,3,4]).bind λq3=>
 (
  Option.bind (
   if (decide ((Sh.len oT)<q3.1))=true then
    some true
   else
    (Gl oT q3.1).bind λvH=>
    some vH
  ) λt32=>
  if t32=true then
   some 1
  else
   some q3.1
 ).bind λd5=>
 (GG N oT d5).bind λq8=>
 (HY N oR q3.2 s1 oT p2 d5).bind λqA=>
 (D5 N oR s1 oT p2 p3 p4 q8 oX N 0 qA.2 [qA.1]).bind λ(f16,yI)=>
 (Be 8 d5 yI).bind λqh=>
 some (qh,f16)
def EY (N:Nat)(qy:Ac)(p0:AP):Nat->Bool->Int->Option (Bool)
 | 0,_,_=>none
 | n+1,ok20,i21=>
  if (decide (i21<(Sh.len qy.params)))=true then
   (
    if ok20=true then
     (Sh.get qy.params i21).bind λxW=>
     (Gs N p0 ([]:List Int) xW).bind λsC=>
     some sC
    else
     some false
   ).bind λok31=>
   EY N qy p0 n ok31 (Sh.w (i21+1))
  else
   some ok20
def EZ (N:Nat)(p0:AP)(p1:Int):Nat->Int->(List Int)->Option (List Int)
 | 0,_,_=>none
 | n+1,f5,l6=>
  if (decide (f5<(Sh.len p0.funcs)))=true then
   (
    Option.bind (Sh.get p0.funcs f5) λqy=>
    (EY N qy p0 N (decide (qy.result=p1)) 0).bind λok22=>
    if ok22=true then
     (Sh.app l6 [f5] 8).bind λl26=>
     some l26
    else
     some l6
   ).bind λqI=>
   EZ N p0 p1 n (Sh.w (f5+1)) qI
  else
   some l6
def I7 (N:Nat)(p0:AP)(p1:Int):Option (List Int):=
 (EZ N p0 p1 N 1 []).bind λl7=>
 some l7
def Ej (N:Nat)(oR:(List Int))(s1:(List Ac))(oT:(List AM))(p2:(List Int))(p3 p4:Int)(qZ:Int×Int)(oX:(List Int)->Int->(List Ac)->(List AM)->(List Int)->Int->Int->Option (AE×Int)):Nat->Int->Option ((AE×Int) ⊕ (Unit))
 | 0,_=>none
 | n+1,tT=>
  if (decide (tT<=(Sh.len oT)))=true then
   (
    Option.bind (Gl oT tT) λuB=>
    if uB=true then
     (Sh.get oT (Sh.w (tT-1))).bind λc55=>
     if (decide (c55.to=p3))=true then
      (Gs N (AP.mk oT s1) p2 tT).bind λwa=>
      some wa
     else
      some false
    else
     some false
   ).bind λt45=>
   if t45=true then
    (HY N oR qZ.2 s1 oT p2 tT).bind λsb=>
    (Sh.get oT (Sh.w (tT-1))).bind λtP=>
    (oX oR sb.2 s1 oT p2 tP.from_ (Sh.w (p4-2))).bind λq51=>
    (Be 11 0 [sb.1,q51.1]).bind λq52=>
    some (Sum.inl (q52,q51.2))
   else
    Ej N oR s1 oT p2 p3 p4 qZ oX n (Sh.w (tT+1))
  else
   some (Sum.inr ())
def JJ (N:Nat)(oX:(List Int)->Int->(List Ac)->(List AM)->(List Int)->Int->Int->Option (AE×Int))(oR:(List Int))(oV:Int)(s1:(List Ac))(oT:(List AM))(p2:(List Int))(p3 p4:Int):Option (AE×Int):=
 Sh.cont (
  (Az oR oV 4).bind λqZ=>
  if (decide (qZ.1=0))=true then
   Sh.cont (Ej N oR s1 oT p2 p3 p4 qZ oX N 1) (λx=>Sum.inl x) λ()=>
   some (Sum.inr qZ.2)
  else
   some (Sum.inr qZ.2)
 ) (id) λf3=>
 (GG N oT p3).bind λq6=>
 if (decide (0<(Sh.len q6)))=true then
  (Az oR f3 (Sh.len q6)).bind λrM=>
  (Sh.get q6 rM.1).bind λsN=>
  (Bu N oT sN).bind λsa=>
  (Fk N oX oR rM.2 s1 oT p2 sa (Sh.w (p4-1))).bind λqD=>
  (Be 6 sN qD.1).bind λqv=>
  some (qv,qD.2)
 else
 if (decide (0<p3))=true then
  (HY N oR f3 s1 oT p2 p3).bind λpR=>
  some (pR.1,pR.2)
 else
  (Az oR f3 3).bind λuD=>
  if (decide (uD.1=0))=true then
   (Fk N oX oR uD.2 s1 oT p2 [(0:Int)] (Sh.w (p4-1))).bind λri=>
   (Be 5 0 ri.1).bind λqm=>
   some (qm,ri.2)
  else
   (CA oR uD.2 [(1:Int),2,3,4]).bind λtz=>
   (Fk N oX oR tz.2 s1 oT p2 [(0:Int),0] (Sh.w (p4-1))).bind λwA=>
   (Be tz.1 0 wA.1).bind λsq=>
   some (sq,wA.2)
def LM (N:Nat)(oX:(List Int)->Int->(List Ac)->(List AM)->(List Int)->Int->Int->Option (AE×Int))(oR:(List Int))(oV:Int)(s1:(List Ac))(oT:(List AM))(p2:(List Int))(p3 p4:Int):Option (AE×Int):=
 if (decide (p4<3))=true then
  (HY N oR oV s1 oT p2 p3).bind λq6=>
  some (q6.1,q6.2)
 else
  Sh.cont (
   (Az oR oV 12).bind λpo=>
   if (decide (po.1=0))=true then
    (HY N oR po.2 s1 oT p2 p3).bind λqP=>
    some (Sum.inl (qP.1,qP.2))
   else
    (
     if (decide (po.1=1))=true then
      some true
     else
      some (decide (po.1=2))
    ).bind λt19=>
    if t19=true then
     (Jk N oR po.2 s1 oT p2).bind λqU=>
     (oX oR qU.2 s1 oT p2 qU.1 (Sh.w (Int.tdiv p4 2))).bind λsQ=>
     (Ea p2 [qU.1]).bind λtS=>
     (oX oR sQ.2 s1 oT tS p3 (Sh.w (Int.tdiv p4 2))).bind λri=>
     (Be 13 0 [sQ.1,ri.1]).bind λqm=>
     some (Sum.inl (qm,ri.2))
    else
    if (decide (po.1=3))=true then
     (Fk N oX oR po.2 s1 oT p2 [0,p3,p3] (Sh.w (p4-1))).bind λsq=>
     (Be 7 0 sq.1).bind λsc=>
     some (Sum.inl (sc,sq.2))
    else
     (
      if (decide (po.1=4))=true then
       some true
      else
      if (decide (po.1=5))=true then
       some true
      else
       some (decide (po.1=6))
     ).bind λt35=>
     if t35=true then
      (JF N oX oR po.2 s1 oT p2 p3 p4).bind λtO=>
      some (Sum.inl (tO.1,tO.2))
     else
      (
       if (decide (po.1=7))=true then
        some true
       else
        some (decide (po.1=8))
      ).bind λt41=>
      if t41=true then
       (I7 N (AP.mk oT s1) p3).bind λvI=>
       if (decide (0<(Sh.len vI)))=true then
        (Az oR po.2 (Sh.len vI)).bind λsb=>
        (Sh.get vI sb.1).bind λtP=>
        (Sh.get s1 tP).bind λze=>
        (Fk N oX oR sb.2 s1 oT p2 ze.params (Sh.w (p4-1))).bind λuB=>
        (Be 9 tP uB.1).bind λvJ=>
        some (Sum.inl (vJ,uB.2))
       else
        some (Sum.inr po.2)
      else
       some (Sum.inr po.2)
  ) (id) λf8=>
  (JJ N oX oR f8 s1 oT p2 p3 p4).bind λrM=>
  some (rM.1,rM.2)
def JM (N:Nat):Nat->(List Int)->Int->(List Ac)->(List AM)->(List Int)->Int->Int->Option (AE×Int)
 | 0,_,_,_,_,_,_,_=>none
 | n+1,oR,oV,s1,oT,p2,p3,p4=>LM N (JM N n) oR oV s1 oT p2 p3 p4
def Gu (N:Nat)(oR:(List Int))(oV:Int)(s1:(List Ac))(oT:(List AM))(p2:(List Int))(p3 p4:Int):Option (AE×Int):=JM N N oR oV s1 oT p2 p3 p4
def Fa (oR:(List Int)):Nat->Int->Int->Int->Int->(List AE)->Option (Int×Int×Int×(List AE))
 | 0,_,_,_,_,_=>none
 | n+1,yM,f22,f23,f24,f25=>
  if (decide (0<yM))=true then
   (Ig oR f22).bind λvH=>
   (FK vH.1).bind λwe=>
   (Be 6 1 [we,AE.mk f23 f24 f25]).bind λsP=>
   Fa oR n (Sh.w (yM-1)) vH.2 sP.op sP.num sP.kids
  else
   some (f22,f23,f24,f25)
def Jj (N:Nat)(oR:(List Int))(oV p1:Int):Option (AE×Int):=
 (Be 6 0 ([]:List AE)).bind λq3=>
 if (decide (p1=3))=true then
  (Be 6 2 ([]:List AE)).bind λq8=>
  (Az oR oV 9).bind λqA=>
  (FK qA.1).bind λrM=>
  (Be 6 3 [q8,rM,q8]).bind λqS=>
  (Az oR qA.2 9).bind λsa=>
  (FK sa.1).bind λqD=>
  (Be 6 3 [qS,qD,q8]).bind λqv=>
  some (qv,sa.2)
 else
  (Az oR oV 3).bind λqh=>
  (Fa oR N (Sh.w (1+qh.1)) qh.2 q3.op q3.num q3.kids).bind λ(f26,f27,f28,f29)=>
  some (AE.mk f27 f28 f29,f26)
def I8 (N:Nat)(oR:(List Int))(oV:Int)(s1:(List Ac))(oT:(List AM)):Option (AE×Int):=
 (CA oR oV [(1:Int),1,3]).bind λq3=>
 (Gu N oR q3.2 s1 oT [q3.1] 0 16).bind λq5=>
 (
  Option.bind (Az oR q5.2 3) λqv=>
  if (decide (qv.1=0))=true then
   (Be 5 0 [q5.1]).bind λrH=>
   some (qv.2,rH.op,rH.num,rH.kids)
  else
   some (qv.2,q5.1.op,q5.1.num,q5.1.kids)
 ).bind λ(f7,f8,f9,f10)=>
 (Jj N oR f7 q3.1).bind λpo=>
 (Be 13 0 [po.1,AE.mk f8 f9 f10]).bind λsa=>
 some (sa,po.2)
def Ee (c3:Ac)(oR:(List Int))(p3:Int):Nat->Int->Int->(List AE)->Option (Int×(List AE))
 | 0,_,_,_=>none
 | n+1,i10,f11,uX=>
  if (decide (i10<(Sh.len c3.params)))=true then
   (
    if (decide (i10=p3))=true then
     (Ca (Sh.w ((Sh.len c3.params)+1))).bind λq67=>
     (Sh.app uX [q67] 40).bind λxX=>
     some (f11,xX)
    else
     (
      Option.bind (Sh.get c3.params i10) λc80=>
      if (decide (c80=0))=true then
       (Az oR f11 2).bind λzV=>
       some (decide (zV.1=0),zV.2)
      else
       some (false,f11)
     ).bind λ(t70,f71)=>
     if t70=true then
      (Ca i10).bind λq74=>
      (Ca (Sh.len c3.params)).bind λq75=>
      (Be 1 0 [q74,q75]).bind λyK=>
      (Sh.app uX [yK] 40).bind λl77=>
      some (f71,l77)
     else
      (Ca i10).bind λq78=>
      (Sh.app uX [q78] 40).bind λl79=>
      some (f71,l79)
   ).bind λ(f62,l63)=>
   Ee c3 oR p3 n (Sh.w (i10+1)) f62 l63
  else
   some (f11,uX)
def JC (N:Nat)(oR:(List Int))(oV:Int)(s1:(List Ac))(oT:(List AM))(p2 p3:Int):Option (AE×Int):=
 (Sh.get s1 p2).bind λc3=>
 (Ea c3.params [(0:Int),1]).bind λq6=>
 (Ee c3 oR p3 N 0 oV []).bind λ(f13,qI)=>
 (Be 9 p2 qI).bind λqP=>
 (
  Option.bind (
   if (decide (c3.result=1))=true then
    (Az oR f13 5).bind λwa=>
    some (decide (0<wa.1),wa.2)
   else
    some (false,f13)
  ) λ(t30,f31)=>
  if t30=true then
   (Gu N oR f31 s1 oT q6 0 4).bind λsC=>
   (
    Option.bind (
     if (decide (1<(Sh.len c3.params)))=true then
      (Sh.get c3.params 0).bind λtP=>
      some (decide (tP=2))
     else
      some false
    ) λt43=>
    if t43=true then
     (Ca 0).bind λq46=>
     (Ca (Sh.len c3.params)).bind λuY=>
     (Be 11 0 [q46,uY]).bind λwC=>
     some (wC.op,wC.num,wC.kids)
    else
     some (sC.1.op,sC.1.num,sC.1.kids)
   ).bind λ(f37,f38,f39)=>
   (Be 6 1 [AE.mk f37 f38 f39,qP]).bind λuU=>
   some (sC.2,uU.op,uU.num,uU.kids)
  else
  if (decide (c3.result=0))=true then
   (CA oR f31 [(1:Int),2]).bind λuB=>
   (Gu N oR uB.2 s1 oT q6 0 4).bind λvJ=>
   (Be uB.1 0 [vJ.1,qP]).bind λq55=>
   some (vJ.2,q55.op,q55.num,q55.kids)
  else
   some (f31,qP.op,qP.num,qP.kids)
 ).bind λ(f20,f21,f22,f23)=>
 (Ca p3).bind λtS=>
 (Gu N oR f20 s1 oT c3.params c3.result 4).bind λri=>
 (Be 8 1 [tS,ri.1,AE.mk f21 f22 f23]).bind λqm=>
 some (qm,ri.2)
def Ef (c3:Ac):Nat->Int->(List AE)->(List AE)->Option ((List AE)×(List AE))
 | 0,_,_,_=>none
 | n+1,i11,uX,vh=>
  if (decide (i11<(Sh.len c3.params)))=true then
   (Ca i11).bind λuY=>
   (Sh.app uX [uY] 40).bind λl48=>
   (Ca i11).bind λsb=>
   (Sh.app vh [sb] 40).bind λl50=>
   Ef c3 n (Sh.w (i11+1)) l48 l50
  else
   some (uX,vh)
def JA (N:Nat)(oR:(List Int))(oV:Int)(s1:(List Ac))(oT:(List AM))(p2:Int):Option (AE×Int):=
 (Sh.get s1 p2).bind λc3=>
 (Ca (Sh.len c3.params)).bind λq6=>
 (Ca (Sh.w ((Sh.len c3.params)+2))).bind λq8=>
 (Ef c3 N 1 [q6] [q8]).bind λ(qI,vK)=>
 (Be 9 p2 qI).bind λrH=>
 (Be 9 p2 vK).bind λqh=>
 (Ea c3.params [(3:Int),0,3]).bind λsB=>
 (Gu N oR oV s1 oT sB 0 4).bind λqU=>
 (Be 1 0 [qU.1,qh]).bind λuD=>
 (Be 1 0 [rH,uD]).bind λsQ=>
 (
  if (decide (c3.result=3))=true then
   (Ea c3.params [(3:Int),0,3]).bind λsP=>
   (Gu N oR qU.2 s1 oT sP 0 4).bind λtO=>
   (Ca (Sh.w ((Sh.len c3.params)+2))).bind λvL=>
   (Be 6 3 [rH,tO.1,vL]).bind λuU=>
   some (tO.2,uU.op,uU.num,uU.kids)
  else
   some (qU.2,sQ.op,sQ.num,sQ.kids)
 ).bind λ(f27,f28,f29,f30)=>
 (Ca 0).bind λsc=>
 (Gu N oR f27 s1 oT c3.params c3.result 4).bind λqZ=>
 (Be 8 3 [sc,qZ.1,AE.mk f28 f29 f30]).bind λsC=>
 some (sC,qZ.2)
def Eh (N:Nat)(c3:Ac)(oR:(List Int))(s1:(List Ac))(oT:(List AM)):Nat->Int->Int->(List AE)->Option (Int×(List AE))
 | 0,_,_,_=>none
 | n+1,i10,f11,uX=>
  if (decide (i10<(Sh.len c3.params)))=true then
   (Sh.get c3.params i10).bind λzh=>
   (HY N oR f11 s1 oT c3.params zh).bind λvL=>
   (Sh.app uX [vL.1] 40).bind λyN=>
   Eh N c3 oR s1 oT n (Sh.w (i10+1)) vL.2 yN
  else
   some (f11,uX)
def JI (N:Nat)(oR:(List Int))(oV:Int)(s1:(List Ac))(oT:(List AM))(p2:Int):Option (AE×Int):=
 (Sh.get s1 p2).bind λc3=>
 (Ca 0).bind λq5=>
 (FK 1).bind λq6=>
 (Be 2 0 [q5,q6]).bind λq7=>
 (Eh N c3 oR s1 oT N 1 oV [q7]).bind λ(f13,qI)=>
 (Be 9 p2 qI).bind λqP=>
 (
  if (decide (c3.result=1))=true then
   (Gu N oR f13 s1 oT c3.params 0 3).bind λsc=>
   (Be 6 1 [sc.1,qP]).bind λqZ=>
   some (sc.2,qZ.op,qZ.num,qZ.kids)
  else
   some (f13,qP.op,qP.num,qP.kids)
 ).bind λ(f19,f20,f21,f22)=>
 (FK 0).bind λsQ=>
 (Ca 0).bind λtS=>
 (Be 4 0 [sQ,tS]).bind λri=>
 (Gu N oR f19 s1 oT c3.params c3.result 4).bind λsO=>
 (Be 7 0 [ri,AE.mk f20 f21 f22,sO.1]).bind λtz=>
 some (tz,sO.2)
def F9 (N:Nat)(oR:(List Int))(s1:(List Ac))(oT:(List AM))(p2:(List Int))(p3:Int):Nat->Int->Int->Int->Int->(List AE)->Option (Int×Int×Int×(List AE))
 | 0,_,_,_,_,_=>none
 | n+1,budget5,f6,f7,f8,f9=>
  (
   Option.bind (Gr N (AE.mk f7 f8 f9)) λqU=>
   if (decide (qU<0))=true then
    some (decide (2<budget5))
   else
    some false
  ).bind λt18=>
  if t18=true then
   (Gu N oR f6 s1 oT p2 p3 (Sh.w (Int.tdiv budget5 2))).bind λsB=>
   F9 N oR s1 oT p2 p3 n (Sh.w (Int.tdiv budget5 2)) sB.2 sB.1.op sB.1.num sB.1.kids
  else
   some (f6,f7,f8,f9)
def Ie (N:Nat)(oR:(List Int))(oV:Int)(s1:(List Ac))(oT:(List AM))(p2:(List Int))(p3 p4:Int):Option (AE×Int):=
 (Gu N oR oV s1 oT p2 p3 p4).bind λq3=>
 (F9 N oR s1 oT p2 p3 N p4 q3.2 q3.1.op q3.1.num q3.1.kids).bind λ(f10,f11,f12,f13)=>
 some (AE.mk f11 f12 f13,f10)
def KG (N:Nat)(oR:(List Int))(oV:Int)(s1:(List Ac))(oT:(List AM))(p2:Int):Option (AE×Int):=
 (Sh.get s1 p2).bind λc3=>
 (Jn N c3.params 1).bind λq6=>
 (FK 0).bind λq8=>
 (Az oR oV 4).bind λqA=>
 (
  Option.bind (
   if (decide (qA.1<3))=true then
    some (decide (p2=0))
   else
    some false
  ) λt25=>
  if t25=true then
   (I8 N oR qA.2 s1 oT).bind λqm=>
   some (qm.2,qm.1.op,qm.1.num,qm.1.kids)
  else
   (
    if (decide (qA.1<3))=true then
     if (decide (0<=q6))=true then
      if (decide (c3.result=0))=true then
       some true
      else
       some (decide (c3.result=1))
     else
      some false
    else
     some false
   ).bind λt30=>
   if t30=true then
    (JC N oR qA.2 s1 oT p2 q6).bind λsc=>
    some (sc.2,sc.1.op,sc.1.num,sc.1.kids)
   else
    (
     if (decide (qA.1<3))=true then
      if (decide (0<(Sh.len c3.params)))=true then
       (Sh.get c3.params 0).bind λze=>
       if (decide (ze=3))=true then
        if (decide (c3.result=0))=true then
         some true
        else
         some (decide (c3.result=3))
       else
        some false
      else
       some false
     else
      some false
    ).bind λt35=>
    if t35=true then
     (JA N oR qA.2 s1 oT p2).bind λsP=>
     some (sP.2,sP.1.op,sP.1.num,sP.1.kids)
    else
     (
      if (decide (qA.1<3))=true then
       if (decide (0<(Sh.len c3.params)))=true then
        (Sh.get c3.params 0).bind λc47=>
        if (decide (c47=0))=true then
         if (decide (c3.result=0))=true then
          some true
         else
          some (decide (c3.result=1))
        else
         some false
       else
        some false
      else
       some false
     ).bind λt40=>
     if t40=true then
      (JI N oR qA.2 s1 oT p2).bind λwg=>
      some (wg.2,wg.1.op,wg.1.num,wg.1.kids)
     else
      (Ie N oR qA.2 s1 oT c3.params c3.result 18).bind λvl=>
      some (vl.2,vl.1.op,vl.1.num,vl.1.kids)
 ).bind λ(f12,f13,f14,f15)=>
 (Gr N (AE.mk f13 f14 f15)).bind λqe=>
 if (decide (qe<0))=true then
  (Ie N oR f12 s1 oT c3.params c3.result 12).bind λsB=>
  some (sB.1,sB.2)
 else
  some (AE.mk f13 f14 f15,f12)
def D9 (N:Nat)(oR:(List Int))(q3:(List AM)×Int):Nat->Int->Int->(List Ac)->Option (Int×(List Ac))
 | 0,_,_,_=>none
 | n+1,f37,f38,l39=>
  if (decide (0<=f37))=true then
   (KG N oR f38 l39 q3.1 f37).bind λsb=>
   (Sh.get l39 f37).bind λtP=>
   D9 N oR q3 n (Sh.w (f37-1)) sb.2 (Sh.put l39 f37 (Ac.mk tP.params tP.result sb.1))
  else
   some (f38,l39)
def HI (N:Nat)(oR:(List Int))(oV:Int):Option (AP×Int):=
 (HE oR oV).bind λq3=>
 (E0 [(1:Int)] 0).bind λq5=>
 (E0 [(1:Int),1] 1).bind λq6=>
 (E0 [(1:Int)] 1).bind λq7=>
 (E0 [(1:Int),0] 1).bind λq8=>
 (E0 [(2:Int),1] 1).bind λq9=>
 (E0 [(1:Int),1] 0).bind λqA=>
 (E0 [(3:Int)] 0).bind λqS=>
 (E0 [(0:Int)] 1).bind λpo=>
 (E0 [(0:Int),1] 1).bind λsa=>
 (E0 [(3:Int),0] 3).bind λqD=>
 (E0 [(3:Int)] 1).bind λqv=>
 (E0 [(1:Int),3,0] 0).bind λqP=>
 (E0 [(0:Int)] 0).bind λqe=>
 (E0 [(0:Int),0] 0).bind λqh=>
 (E0 [(1:Int),0] 0).bind λpR=>
 (E0 [(0:Int)] 1).bind λsB=>
 (E0 ([]:List Int) 0).bind λuD=>
 (Az oR q3.2 (Sh.len [q5,q6,q7,q8,q9,qA])).bind λsQ=>
 (Sh.get [q5,q6,q7,q8,q9,qA] sQ.1).bind λxV=>
 (Az oR sQ.2 (Sh.len [qS,po,sa,qD,qv,qP])).bind λri=>
 (Sh.get [qS,po,sa,qD,qv,qP] ri.1).bind λwE=>
 (Az oR ri.2 (Sh.len [qe,qh,pR,sB])).bind λsO=>
 (Sh.get [qe,qh,pR,sB] sO.1).bind λwc=>
 (CA oR sO.2 [(4:Int),4,3,2,4]).bind λsq=>
 (Sh.hi [uD,xV,wE,wc] sq.1).bind λyO=>
 (D9 N oR q3 N (Sh.w (sq.1-1)) sq.2 yO).bind λ(f40,yN)=>
 some (AP.mk q3.1 yN,f40)
def JH (oc:(List AE)->Option (List AE))(p0:AE):Option (AE):=
 (oc p0.kids).bind λq3=>
 some (AE.mk p0.op p0.num q3)
def CT (p0:(List AE))(oc:(List AE)->Option (List AE)):Nat->Int->(List AE)->Option (List AE)
 | 0,_,_=>none
 | n+1,i5,l6=>
  if (decide (i5<(Sh.len p0)))=true then
   (Sh.get p0 i5).bind λqw=>
   (JH oc qw).bind λqD=>
   (Sh.app l6 [qD] 40).bind λwb=>
   CT p0 oc n (Sh.w (i5+1)) wb
  else
   some l6
def HU (N:Nat)(oc:(List AE)->Option (List AE))(p0:(List AE)):Option (List AE):=
 (CT p0 oc N 0 []).bind λl7=>
 some l7
def DG (N:Nat):Nat->(List AE)->Option (List AE)
 | 0,_=>none
 | n+1,p0=>HU N (DG N n) p0
def HF (N:Nat)(p0:(List AE)):Option (List AE):=DG N N p0
def Lu (N:Nat)(pf:(List Int)->Int->AE->Option (AE×Int))(oR:(List Int))(oV:Int)(p1:AE):Option (AE×Int):=
 (
  if (decide (0<(Sh.len p1.kids)))=true then
   (Az oR oV 3).bind λuY=>
   some (decide (0<uY.1),uY.2)
  else
   some (false,oV)
 ).bind λ(t4,f5)=>
 if t4=true then
  (HF N p1.kids).bind λq9=>
  (Az oR f5 (Sh.len q9)).bind λrM=>
  (Sh.get q9 rM.1).bind λwD=>
  (pf oR rM.2 wD).bind λsa=>
  (Be p1.op p1.num (Sh.put q9 rM.1 sa.1)).bind λqv=>
  some (qv,sa.2)
 else
  (Az oR f5 5).bind λqe=>
  if (decide (qe.1=0))=true then
   (Az oR qe.2 15).bind λqU=>
   (Be qU.1 p1.num p1.kids).bind λuD=>
   some (uD,qU.2)
  else
  if (decide (qe.1=1))=true then
   (CA oR qe.2 [(1:Int),-1,1000,2]).bind λqm=>
   (Be p1.op (Sh.w (p1.num+qm.1)) p1.kids).bind λsO=>
   some (sO,qm.2)
  else
  if (decide (qe.1=2))=true then
   (HF N p1.kids).bind λsc=>
   (FK 1).bind λqZ=>
   (Sh.app sc [qZ] 40).bind λl35=>
   (Be p1.op p1.num l35).bind λvH=>
   some (vH,qe.2)
  else
  if (decide (qe.1=3))=true then
   (CA oR qe.2 [(0:Int),1,2,5,100,-1]).bind λuU=>
   (Ca uU.1).bind λq42=>
   some (q42,uU.2)
  else
   (CA oR qe.2 [(0:Int),1000,-1000,5]).bind λvl=>
   (FK vl.1).bind λvI=>
   some (vI,vl.2)
def JV (N:Nat):Nat->(List Int)->Int->AE->Option (AE×Int)
 | 0,_,_,_=>none
 | n+1,oR,oV,p1=>Lu N (JV N n) oR oV p1
def Q9 (N:Nat)(oR:(List Int))(oV:Int)(p1:AE):Option (AE×Int):=JV N N oR oV p1
def I3 (oR:(List Int))(oV:Int):Option ((List AM)×Int):=
 (HE oR oV).bind λq3=>
 (Az oR q3.2 (Sh.len q3.1)).bind λq5=>
 (
  Option.bind (Az oR q5.2 14) λqS=>
  if (decide (qS.1=0))=true then
   (CA oR qS.2 [(-1:Int),5,0,2]).bind λqD=>
   (CA oR qD.2 [(0:Int),1,5]).bind λqv=>
   (Sh.get q3.1 q5.1).bind λqy=>
   some (qv.2,Sh.put q3.1 q5.1 (AM.mk qD.1 qv.1 []))
  else
  if (decide (qS.1=1))=true then
   (CA oR qS.2 [(-1:Int),0,4,5]).bind λqh=>
   (FE [qh.1]).bind λpR=>
   (FE [(0:Int),0,0,0]).bind λsB=>
   (FE ([]:List Int)).bind λqU=>
   (Sh.get q3.1 q5.1).bind λza=>
   some (qh.2,Sh.put q3.1 q5.1 (AM.mk 0 0 [pR,sB,qU]))
  else
  if (decide (qS.1=2))=true then
   (FE [Sh.w (q5.1+1)]).bind λri=>
   (Sh.get q3.1 q5.1).bind λwE=>
   some (qS.2,Sh.put q3.1 q5.1 (AM.mk 0 0 [ri]))
  else
  if (decide (qS.1=3))=true then
   (CA oR qS.2 [(0:Int),2,1]).bind λwA=>
   (Sh.app q3.1 ([AM.mk 2 wA.1 []]) 40).bind λl32=>
   some (wA.2,l32)
  else
  if (decide (qS.1=4))=true then
   (Az oR qS.2 2).bind λsC=>
   (FE ([]:List Int)).bind λvH=>
   (FE [(2:Int)]).bind λwe=>
   (FE ([]:List Int)).bind λsP=>
   (FE ([]:List Int)).bind λtO=>
   (Az oR sC.2 3).bind λvL=>
   (Sh.sl [vH,we,sP,tO] vL.1 (Sh.len [vH,we,sP,tO])).bind λyN=>
   (Sh.get q3.1 q5.1).bind λc42=>
   some (vL.2,Sh.put q3.1 q5.1 (AM.mk sC.1 0 yN))
  else
  if (decide (qS.1=5))=true then
   (Sh.app q3.1 ([AM.mk 0 0 [],AM.mk 3 0 []]) 40).bind λl45=>
   some (qS.2,l45)
  else
   some (qS.2,q3.1)
 ).bind λ(f7,l8)=>
 some (l8,f7)
def G2 (N:Nat)(oR:(List Int))(oV:Int)(s1:(List Ac))(oT:(List AM)):Option (AP×Int):=
 (Az oR oV (Sh.len s1)).bind λq3=>
 (Sh.get s1 q3.1).bind λc5=>
 (
  Option.bind (Az oR q3.2 24) λpo=>
  if (decide (po.1=0))=true then
   (Q9 N oR po.2 c5.body).bind λqv=>
   some (qv.2,Sh.put s1 q3.1 (Ac.mk c5.params c5.result qv.1),oT)
  else
  if (decide (po.1=1))=true then
   (CA oR po.2 [(0:Int),1,9,-1]).bind λqe=>
   (Ea c5.params [qe.1]).bind λqh=>
   some (qe.2,Sh.put s1 q3.1 (Ac.mk qh c5.result c5.body),oT)
  else
  if (decide (po.1=2))=true then
   (CA oR po.2 [(0:Int),1,3,5,-1]).bind λqU=>
   some (qU.2,Sh.put s1 q3.1 (Ac.mk c5.params qU.1 c5.body),oT)
  else
  if (decide (po.1=3))=true then
   (I3 oR po.2).bind λtS=>
   some (tS.2,s1,tS.1)
  else
  if (decide (po.1=4))=true then
   (Sh.app s1 [c5] 72).bind λl29=>
   some (po.2,l29,oT)
  else
   some (po.2,s1,oT)
 ).bind λ(f7,l8,f9)=>
 some (AP.mk f9 l8,f7)
def Ht (N:Nat)(oR:(List Int))(oV:Int):Option (AP×Int):=
 (HI N oR oV).bind λq3=>
 (G2 N oR q3.2 q3.1.funcs q3.1.decls).bind λq4=>
 some (q4.1,q4.2)
end RC
namespace RC
end RC
namespace RC
def S4 (p0:AE)(qQ:AE->Option (AE)):Nat->Int->(List AE)->Option (List AE)
 | 0,_,_=>none
 | n+1,k5,l6=>
  if (decide (k5<(Sh.len p0.kids)))=true then
   (Sh.get p0.kids k5).bind λc27=>
   (qQ c27).bind λqm=>
   (Sh.app l6 [qm] 40).bind λl29=>
   S4 p0 qQ n (Sh.w (k5+1)) l29
  else
   some l6
def Hy (N:Nat)(p0:AE):Option (AE):=
 (HF N p0.kids).bind λq3=>
 some (AE.mk p0.op p0.num q3)
def Dy (N:Nat)(p0:AP)(p1:(List AE)):Nat->Int->(List Ac)->Option ((AP×Bool) ⊕ (List Ac))
 | 0,_,_=>none
 | n+1,i6,l7=>
  if (decide (i6<(Sh.len p0.funcs)))=true then
   (Sh.get p1 i6).bind λqy=>
   (Gr N qy).bind λrH=>
   if (decide (rH<0))=true then
    some (Sum.inl (AP.mk [] [],false))
   else
    (Sh.get p0.funcs i6).bind λxZ=>
    (FJ xZ.params).bind λsB=>
    (Hy N qy).bind λqU=>
    (Sh.app l7 [Ac.mk sB xZ.result qU] 72).bind λzX=>
    Dy N p0 p1 n (Sh.w (i6+1)) zX
  else
   some (Sum.inr l7)
def Hu (N:Nat)(p0:AP)(p1:(List AE)):Option (AP×Bool):=
 (IQ N p0.decls).bind λq3=>
 Sh.cont (Dy N p0 p1 N 0 []) (id) λl8=>
 some (AP.mk q3 l8,true)
def Cm (p0:AE)(p1 p2:Int)(pD:AE->Int->Int->Option (AE)):Nat->Int->(List AE)->Option (List AE)
 | 0,_,_=>none
 | n+1,t9,l10=>
  if (decide (t9<(Sh.len p0.kids)))=true then
   (Sh.get p0.kids t9).bind λrL=>
   (pD rL p1 p2).bind λqh=>
   (Sh.app l10 [qh] 40).bind λl21=>
   Cm p0 p1 p2 pD n (Sh.w (t9+1)) l21
  else
   some l10
def IS (N:Nat)(pD:AE->Int->Int->Option (AE))(p0:AE)(p1 p2:Int):Option (AE):=
 (
  Option.bind (
   if (decide (p0.op=12))=true then
    some (decide (p1<=p0.num))
   else
    some false
  ) λt25=>
  if t25=true then
   some (Sh.w (p0.num+p2))
  else
   some p0.num
 ).bind λf3=>
 (Cm p0 p1 p2 pD N 0 []).bind λzW=>
 some (AE.mk p0.op f3 zW)
def D0 (N:Nat):Nat->AE->Int->Int->Option (AE)
 | 0,_,_,_=>none
 | n+1,p0,p1,p2=>IS N (D0 N n) p0 p1 p2
def Gn (N:Nat)(p0:AE)(p1 p2:Int):Option (AE):=D0 N N p0 p1 p2
def IY (N:Nat)(p0:AE):Option (AE):=
 (Gn N p0 0 0).bind λq3=>
 some q3
def DO (N:Nat)(p0:AP):Nat->Int->(List Ac)->Option (List Ac)
 | 0,_,_=>none
 | n+1,t6,l7=>
  if (decide (t6<(Sh.len p0.funcs)))=true then
   (Sh.get p0.funcs t6).bind λqi=>
   (CP qi.params).bind λqP=>
   (IY N qi.body).bind λrH=>
   (Sh.app l7 [Ac.mk qP qi.result rH] 72).bind λxY=>
   DO N p0 n (Sh.w (t6+1)) xY
  else
   some l7
def Gy (N:Nat)(p0:AP):Option (AP):=
 (Hw N p0.decls).bind λq3=>
 (DO N p0 N 0 []).bind λl8=>
 some (AP.mk q3 l8)
end RC
namespace RC
def Fu (N:Nat)(p0:List AE)(p2:Int):Nat->AE->Option AE
 | 0,b=>some b
 | i+1,b=>
  (Sh.get p0 (i:Int)).bind λx=>
  (Gn N x p2 (i:Int)).bind λq=>
  Fu N p0 p2 i (AE.mk 13 0 [q,b])
def KY (N:Nat)(s0 p0:List AE)(oT ou p2:Int):Option AE:=
 if p0.length<=1048576 then Fu N p0 p2 p0.length (AE.mk oT ou s0) else none
theorem QZ {N:Nat}{p0:List AE}{p2:Int}:∀(n:Nat) {b r:AE},Fu N p0 p2 n b=some r->
  ∃bs:Nat->AE,bs n=b/\bs 0=r/\∀i,i<n->∃x q,Sh.get p0 (i:Int)=some x/\Gn N x p2 (i:Int)=some q/\bs i=AE.mk 13 0 [q,bs (i+1)]
 | 0,b,r,h=>by
  rw[Fu]at h;cases h;exact⟨λ_=>b,rfl,rfl,λi hi=>by omega⟩
 | n+1,b,r,h=>by
  rw[Fu]at h;obtain⟨x,h1,h⟩:=Sh.bind_some h;obtain⟨q,h2,h⟩:=Sh.bind_some h;obtain⟨bs,e1,e2,e3⟩:=QZ n h;refine⟨λi=>if i=n+1 then b else bs i,by simp,by simp[e2],λi hi=>?_⟩;by_cases pt:i=n
  ·subst pt;refine⟨x,q,h1,h2,?_⟩;simp[e1]
  ·obtain⟨x',q',g1,g2,g3⟩:=e3 i (by omega);refine⟨x',q',g1,g2,?_⟩;have n1:¬ i=n+1:=by omega
   have n2:¬ i+1=n+1:=by omega
   simp only[n1,n2,kH];exact g3
end RC
namespace RC
def Jm (N:Nat)(p0:AP)(p1:AE)(p2 p3:Int):Option (Int):=
 if (decide (p2=0))=true then
  some p3
 else
 if (decide (p1.op=13))=true then
  some (Sh.w (p3+1))
 else
 if (decide (p1.op=8))=true then
  (GG N p0.decls p1.num).bind λsa=>
  (Sh.get sa (Sh.w (p2-1))).bind λsu=>
  (Bu N p0.decls su).bind λqv=>
  some (Sh.w (p3+(Sh.len qv)))
 else
  some p3
def I2 (p0:Int):Option (Int):=
 some (if (if p0<999 then p0 else 999) > (-999) then (if p0<999 then p0 else 999) else (-999))
def MU (p0 p1 p2:Int):Option (Int):=
 if (decide (p0=1))=true then
  (I2 (Sh.w (p1+p2))).bind λq7=>
  some q7
 else
 if (decide (p0=2))=true then
  (I2 (Sh.w (p1-p2))).bind λrM=>
  some rM
 else
 if (decide (p0=3))=true then
  (I2 (Sh.w (p1*p2))).bind λqD=>
  some qD
 else
  (
   if (decide (p0=4))=true then
    some (decide (p1<p2))
   else
    some false
  ).bind λt18=>
  if t18=true then
   some 1
  else
   some 0
def Ei (p0:(List AE))(p1 p2:Int)(ot:AE->Int->Int->Option (AE)):Nat->Int->(List AE)->Option (List AE)
 | 0,_,_=>none
 | n+1,i5,l6=>
  if (decide (i5<(Sh.len p0)))=true then
   (Sh.get p0 i5).bind λqw=>
   (ot qw p1 p2).bind λqD=>
   (Sh.app l6 [qD] 40).bind λwb=>
   Ei p0 p1 p2 ot n (Sh.w (i5+1)) wb
  else
   some l6
def KM (N:Nat)(ot:AE->Int->Int->Option (AE))(p0:(List AE))(p1 p2:Int):Option (List AE):=
 (Ei p0 p1 p2 ot N 0 []).bind λl7=>
 some l7
def Kv (N:Nat)(ot:AE->Int->Int->Option (AE))(p0:AE)(p1 p2:Int):Option (AE):=
 (
  Option.bind (
   if (decide (p0.op=12))=true then
    some (decide (p1<=p0.num))
   else
    some false
  ) λt9=>
  if t9=true then
   some (Sh.w (p0.num+p2))
  else
   some p0.num
 ).bind λsw=>
 (KM N ot p0.kids p1 p2).bind λq7=>
 some (AE.mk p0.op sw q7)
def Gp (N:Nat):Nat->AE->Int->Int->Option (AE)
 | 0,_,_,_=>none
 | n+1,p0,p1,p2=>Kv N (Gp N n) p0 p1 p2
def Mr (N:Nat)(p0:AE)(p1 p2:Int):Option (AE):=Gp N N p0 p1 p2
def Gq (N:Nat)(p0:(List AE))(p2:Int):Nat->Int->Int->Int->(List AE)->Option (Int×Int×(List AE))
 | 0,_,_,_,_=>none
 | n+1,k5,f6,f7,f8=>
  if (decide (0<=k5))=true then
   (Sh.get p0 k5).bind λqx=>
   (Mr N qx p2 k5).bind λqe=>
   Gq N p0 p2 n (Sh.w (k5-1)) 13 0 [qe,AE.mk f6 f7 f8]
  else
   some (f6,f7,f8)
def Ma (N:Nat)(p0:(List AE))(p1:AE)(p2:Int):Option (AE):=
 (Gq N p0 p2 N (Sh.w ((Sh.len p0)-1)) p1.op p1.num p1.kids).bind λ(f9,f10,f11)=>
 some (AE.mk f9 f10 f11)
def Hh (N:Nat)(p0:AP)(p1:AE)(p2:Int):Option (AE):=
 Sh.cont (
  (
   if (decide (p1.op=1))=true then
    some true
   else
   if (decide (p1.op=2))=true then
    some true
   else
   if (decide (p1.op=3))=true then
    some true
   else
    some (decide (p1.op=4))
  ).bind λt7=>
  if t7=true then
   (
    Option.bind (Sh.get p1.kids 0) λqx=>
    if (decide (qx.op=0))=true then
     (Sh.get p1.kids 1).bind λtQ=>
     some (decide (tQ.op=0))
    else
     some false
   ).bind λt11=>
   if t11=true then
    (Sh.get p1.kids 0).bind λsu=>
    (Sh.get p1.kids 1).bind λqi=>
    (MU p1.op su.num qi.num).bind λqP=>
    some (Sum.inl (AE.mk 0 qP []))
   else
    some (Sum.inr ())
  else
  if (decide (p1.op=7))=true then
   (
    Option.bind (Sh.get p1.kids 0) λc35=>
    if (decide (c35.op=0))=true then
     some (!decide (c35.num=0))
    else
     some false
   ).bind λt25=>
   if t25=true then
    (Sh.get p1.kids 1).bind λc29=>
    some (Sum.inl c29)
   else
    (Sh.get p1.kids 0).bind λzi=>
    if (decide (zi.op=0))=true then
     (Sh.get p1.kids 2).bind λxW=>
     some (Sum.inl xW)
    else
     some (Sum.inr ())
  else
  if (decide (p1.op=8))=true then
   (Sh.get p1.kids 0).bind λxb=>
   if (decide (xb.op=6))=true then
    (GU N p0.decls (Sh.w (p1.num-1))).bind λwg=>
    (Sh.get p1.kids (Sh.w ((Sh.w (1+xb.num))-wg))).bind λc44=>
    (Ma N xb.kids c44 p2).bind λvI=>
    some (Sum.inl vI)
   else
    some (Sum.inr ())
  else
   some (Sum.inr ())
 ) (id) λ()=>
 some p1
def FU (N:Nat)(p0:AP)(p1:AE)(p2:Int)(pM:AP->AE->Int->Option (AE)):Nat->Int->(List AE)->Option (List AE)
 | 0,_,_=>none
 | n+1,k5,l6=>
  if (decide (k5<(Sh.len p1.kids)))=true then
   (Sh.get p1.kids k5).bind λsu=>
   (Jm N p0 p1 k5 p2).bind λqv=>
   (pM p0 su qv).bind λqP=>
   (Sh.app l6 [qP] 40).bind λl18=>
   FU N p0 p1 p2 pM n (Sh.w (k5+1)) l18
  else
   some l6
def Lt (N:Nat)(pM:AP->AE->Int->Option (AE))(p0:AP)(p1:AE)(p2:Int):Option (AE):=
 (FU N p0 p1 p2 pM N 0 []).bind λl7=>
 (Hh N p0 (AE.mk p1.op p1.num l7) p2).bind λqA=>
 some qA
def Gi (N:Nat):Nat->AP->AE->Int->Option (AE)
 | 0,_,_,_=>none
 | n+1,p0,p1,p2=>Lt N (Gi N n) p0 p1 p2
def RK (N:Nat)(p0:AP)(p1:AE)(p2:Int):Option (AE):=Gi N N p0 p1 p2
def GF (N:Nat)(p0:AP):Nat->Int->(List AE)->Option (List AE)
 | 0,_,_=>none
 | n+1,i12,vh=>
  if (decide (i12<(Sh.len p0.funcs)))=true then
   (Sh.get p0.funcs i12).bind λuV=>
   (RK N p0 uV.body (Sh.len uV.params)).bind λqU=>
   (Sh.app vh [qU] 40).bind λzX=>
   GF N p0 n (Sh.w (i12+1)) zX
  else
   some vh
def J3 (N:Nat)(p0:AP):Option (AP×Bool):=
 (Bm N p0).bind λq4=>
 if (!q4)=true then
  some (AP.mk [] [],false)
 else
  (GF N p0 N 0 []).bind λqI=>
  (Hu N p0 qI).bind λqP=>
  some (qP.1,qP.2)
def Me (p0 p1 p2:Int):Option (Int):=
 (
  if (decide (p1<(-999)))=true then
   some true
  else
  if (decide (999<p1))=true then
   some true
  else
  if (decide (p2<(-999)))=true then
   some true
  else
   some (decide (999<p2))
 ).bind λt4=>
 if t4=true then
  some 0
 else
  (
   if (decide (p0=1))=true then
    some (Sh.w (p1+p2))
   else
   if (decide (p0=2))=true then
    some (Sh.w (p1-p2))
   else
   if (decide (p0=3))=true then
    some (Sh.w (p1*p2))
   else
   if (decide (p0=4))=true then
    if (decide (p1<p2))=true then
     some 1
    else
     some 0
   else
    some 0
  ).bind λsd=>
  some (if 999<(if (-999) > sd then (-999) else sd) then 999 else (if (-999) > sd then (-999) else sd))
def JP (N:Nat)(s0:(List AE))(p0:(List AM))(oT ou p2:Int):Option (AE):=
 Sh.cont (
  (
   if (decide (oT=1))=true then
    some true
   else
   if (decide (oT=2))=true then
    some true
   else
   if (decide (oT=3))=true then
    some true
   else
    some (decide (oT=4))
  ).bind λt7=>
  if t7=true then
   (
    Option.bind (Sh.get s0 0) λqx=>
    if (decide (qx.op=0))=true then
     (Sh.get s0 1).bind λtQ=>
     some (decide (tQ.op=0))
    else
     some false
   ).bind λt11=>
   if t11=true then
    (Sh.get s0 0).bind λsu=>
    (Sh.get s0 1).bind λqi=>
    (Me oT su.num qi.num).bind λqP=>
    some (Sum.inl (AE.mk 0 qP []))
   else
    some (Sum.inr ())
  else
  if (decide (oT=7))=true then
   (Sh.get s0 0).bind λza=>
   if (decide (za.op=0))=true then
    if (!decide (za.num=0))=true then
     (Sh.get s0 1).bind λc32=>
     some (Sum.inl c32)
    else
     (Sh.get s0 2).bind λc35=>
     some (Sum.inl c35)
   else
    some (Sum.inr ())
  else
  if (decide (oT=8))=true then
   (Sh.get s0 0).bind λzh=>
   if (decide (zh.op=6))=true then
    (HP N p0 ou).bind λwg=>
    (Fy N wg zh.num).bind λvl=>
    (Sh.get s0 (Sh.w (1+vl))).bind λc46=>
    (Sh.apart 0 (Sh.w (1+vl))).bind λu47=>
    (KY N c46.kids zh.kids c46.op c46.num p2).bind λwC=>
    some (Sum.inl wC)
   else
    some (Sum.inr ())
  else
   some (Sum.inr ())
 ) (id) λ()=>
 some (AE.mk oT ou s0)
def Lx (N:Nat)(oR:(List AM))(oV:(List Ac))(s1:(List AE))(uG uH p1:Int):Option (AE):=
 (JP N s1 oR uG uH p1).bind λq3=>
 some q3
def Cp (N:Nat)(s0:(List AE))(pB:(List AM))(pC:(List Ac))(p0:(List AM))(oT ou p2:Int)(og:(List AE)->(List AM)->(List Ac)->(List AM)->Int->Int->Int->Option (AE)):Nat->Int->(List AE)->Option (List AE)
 | 0,_,_=>none
 | n+1,t4,l5=>
  if (decide (t4<(Sh.len s0)))=true then
   (
    Option.bind (
     if (decide (oT=13))=true then
      some (decide (t4=1))
     else
      some false
    ) λt23=>
    if t23=true then
     some (Sh.w (p2+1))
    else
     (
      if (decide (oT=8))=true then
       some (decide (0<t4))
      else
       some false
     ).bind λt27=>
     if t27=true then
      (HP N p0 ou).bind λtz=>
      (Sh.get tz (Sh.w (t4-1))).bind λzi=>
      (EJ N p0 zi).bind λsq=>
      some (Sh.w (p2+(Sh.len sq)))
     else
      some p2
   ).bind λwF=>
   (Sh.get l5 t4).bind λrL=>
   (og rL.kids pB pC p0 rL.op rL.num wF).bind λqh=>
   Cp N s0 pB pC p0 oT ou p2 og n (Sh.w (t4+1)) (Sh.put l5 t4 qh)
  else
   some l5
def G7 (N:Nat)(og:(List AE)->(List AM)->(List Ac)->(List AM)->Int->Int->Int->Option (AE))(s0:(List AE))(pB:(List AM))(pC:(List Ac))(p0:(List AM))(oT ou p2:Int):Option (AE):=
 (Cp N s0 pB pC p0 oT ou p2 og N 0 s0).bind λl6=>
 (Lx N pB pC l6 oT ou p2).bind λq9=>
 some q9
def DN (N:Nat):Nat->(List AE)->(List AM)->(List Ac)->(List AM)->Int->Int->Int->Option (AE)
 | 0,_,_,_,_,_,_,_=>none
 | n+1,s0,pB,pC,p0,oT,ou,p2=>G7 N (DN N n) s0 pB pC p0 oT ou p2
def Jb (N:Nat)(s0:(List AE))(pB:(List AM))(pC:(List Ac))(p0:(List AM))(oT ou p2:Int):Option (AE):=DN N N s0 pB pC p0 oT ou p2
def Dh (N:Nat)(oR:(List AM))(oV:(List Ac))(p0 q3:AP):Nat->Int->(List Ac)->Option ((AP×Bool) ⊕ (List Ac))
 | 0,_,_=>none
 | n+1,t6,l7=>
  if (decide (t6<(Sh.len q3.funcs)))=true then
   (Sh.get l7 t6).bind λqy=>
   (Jb N qy.body.kids oR oV p0.decls qy.body.op qy.body.num (Sh.len qy.params)).bind λrH=>
   (Sh.get (Sh.put l7 t6 (Ac.mk qy.params qy.result rH)) t6).bind λxZ=>
   (Ib N xZ.body).bind λsB=>
   if (decide (sB<0))=true then
    some (Sum.inl (AP.mk [] [],false))
   else
    Dh N oR oV p0 q3 n (Sh.w (t6+1)) (Sh.put l7 t6 (Ac.mk qy.params qy.result rH))
  else
   some (Sum.inr l7)
def It (N:Nat)(oR:(List AM))(oV:(List Ac))(p0:AP):Option (AP×Bool):=
 (Gy N p0).bind λq3=>
 Sh.cont (Dh N oR oV p0 q3 N 0 q3.funcs) (id) λl8=>
 some (AP.mk q3.decls l8,true)
def II (N:Nat)(p0:AP):Option (AP×Bool):=
 (EE N p0).bind λq4=>
 if (!q4)=true then
  some (AP.mk [] [],false)
 else
  (It N p0.decls p0.funcs p0).bind λqA=>
  some (qA.1,qA.2)
end RC
namespace RC
def EH (p0:(List Int))(p1:(List Int)):Nat->Int->Option ((Bool) ⊕ (Unit))
 | 0,_=>none
 | n+1,i10=>
  if (decide (i10<(Sh.len p0)))=true then
   (Sh.get p0 i10).bind λqx=>
   (Sh.get p1 i10).bind λrL=>
   if (!decide (qx=rL))=true then
    some (Sum.inl false)
   else
    EH p0 p1 n (Sh.w (i10+1))
  else
   some (Sum.inr ())
def G9 (N:Nat)(p0:(List Int))(p1:(List Int)):Option (Bool):=
 if (!decide ((Sh.len p0)=(Sh.len p1)))=true then
  some false
 else
  Sh.cont (EH p0 p1 N 0) (id) λ()=>
  some true
def Dw (N:Nat)(i10:Int)(p0:(List AM))(p1:(List AM)):Nat->Int->Option ((Bool) ⊕ (Unit))
 | 0,_=>none
 | n+1,k24=>
  (Sh.get p0 i10).bind λwE=>
  if (decide (k24<(Sh.len wE.cons)))=true then
   (Sh.get wE.cons k24).bind λc32=>
   (Sh.get p1 i10).bind λvk=>
   (Sh.get vk.cons k24).bind λxW=>
   (G9 N c32.fields xW.fields).bind λsC=>
   if (!sC)=true then
    some (Sum.inl false)
   else
    Dw N i10 p0 p1 n (Sh.w (k24+1))
  else
   some (Sum.inr ())
def Du (N:Nat)(p0:(List AM))(p1:(List AM)):Nat->Int->Option ((Bool) ⊕ (Unit))
 | 0,_=>none
 | n+1,i10=>
  if (decide (i10<(Sh.len p0)))=true then
   (
    Option.bind (Sh.get p0 i10) λxb=>
    (Sh.get p1 i10).bind λxU=>
    if (!decide (xb.from_=xU.from_))=true then
     some true
    else
    if (!decide (xb.to=xU.to))=true then
     some true
    else
     some (!decide ((Sh.len xb.cons)=(Sh.len xU.cons)))
   ).bind λt19=>
   if t19=true then
    some (Sum.inl false)
   else
    Sh.cont (Dw N i10 p0 p1 N 0) (λx=>Sum.inl x) λ()=>
    Du N p0 p1 n (Sh.w (i10+1))
  else
   some (Sum.inr ())
def Hi (N:Nat)(p0:(List AM))(p1:(List AM)):Option (Bool):=
 if (!decide ((Sh.len p0)=(Sh.len p1)))=true then
  some false
 else
  Sh.cont (Du N p0 p1 N 0) (id) λ()=>
  some true
def Di (p0 p1:AE)(pA:AE->AE->Option (Bool)):Nat->Int->Option ((Bool) ⊕ (Unit))
 | 0,_=>none
 | n+1,i10=>
  if (decide (i10<(Sh.len p0.kids)))=true then
   (Sh.get p0.kids i10).bind λqx=>
   (Sh.get p1.kids i10).bind λrL=>
   (pA qx rL).bind λqh=>
   if (!qh)=true then
    some (Sum.inl false)
   else
    Di p0 p1 pA n (Sh.w (i10+1))
  else
   some (Sum.inr ())
def Is (N:Nat)(pA:AE->AE->Option (Bool))(p0 p1:AE):Option (Bool):=
 (
  if (!decide (p0.op=p1.op))=true then
   some true
  else
  if (!decide (p0.num=p1.num))=true then
   some true
  else
   some (!decide ((Sh.len p0.kids)=(Sh.len p1.kids)))
 ).bind λt4=>
 if t4=true then
  some false
 else
  Sh.cont (Di p0 p1 pA N 0) (id) λ()=>
  some true
def E6 (N:Nat):Nat->AE->AE->Option (Bool)
 | 0,_,_=>none
 | n+1,p0,p1=>Is N (E6 N n) p0 p1
def Lb (N:Nat)(p0 p1:AE):Option (Bool):=E6 N N p0 p1
def DQ (N:Nat)(p0 p1:AP):Nat->Int->Option ((Bool) ⊕ (Unit))
 | 0,_=>none
 | n+1,i10=>
  if (decide (i10<(Sh.len p0.funcs)))=true then
   (
    Option.bind (Sh.get p0.funcs i10) λuV=>
    (Sh.get p1.funcs i10).bind λuW=>
    (G9 N uV.params uW.params).bind λuD=>
    if (!uD)=true then
     some true
    else
    if (!decide (uV.result=uW.result))=true then
     some true
    else
     (Lb N uV.body uW.body).bind λri=>
     some (!ri)
   ).bind λt18=>
   if t18=true then
    some (Sum.inl false)
   else
    DQ N p0 p1 n (Sh.w (i10+1))
  else
   some (Sum.inr ())
def FW (N:Nat)(p0 p1:AP):Option (Bool):=
 (
  Option.bind (Hi N p0.decls p1.decls) λqm=>
  if (!qm)=true then
   some true
  else
   some (!decide ((Sh.len p0.funcs)=(Sh.len p1.funcs)))
 ).bind λt4=>
 if t4=true then
  some false
 else
  Sh.cont (DQ N p0 p1 N 0) (id) λ()=>
  some true
end RC
namespace RC
def JG (N:Nat)(p0:(List Int)):Option (AP):=
 (IU p0).bind λq3=>
 (Ht N q3.1 q3.2).bind λq4=>
 some q4.1
def Iq (N:Nat)(p0:(List Int)):Option (Bool):=
 if (decide (1048576<(Sh.len p0)))=true then
  some true
 else
  (JG N p0).bind λq7=>
  (II N q7).bind λq9=>
  (J3 N q7).bind λrM=>
  (
   Option.bind (FW N q9.1 rM.1) λsO=>
   if (!sO)=true then
    some true
   else
   if (q9.2 != rM.2)=true then
    some true
   else
    some (!q9.2)
  ).bind λt14=>
  if t14=true then
   (
    Option.bind (FW N q9.1 rM.1) λqh=>
    if qh=true then
     some (q9.2==rM.2)
    else
     some false
   ).bind λt18=>
   some t18
  else
   (II N q9.1).bind λqU=>
   (
    if qU.2=true then
     (FW N qU.1 q9.1).bind λqm=>
     some qm
    else
     some false
   ).bind λt25=>
   some t25
end RC
