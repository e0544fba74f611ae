import Derived.Test.YtihdgoiebmfapaaGreatGAbsZPToSSDefs
import Derived.Test.YtihdgoiebmfapaaGreatSufC
import Derived.Test.YtihdgoiebmfapaaGreatSufD
import Derived.Test.YtihdgoiebmfapaaGreatSufF
namespace RC
def Yu (p0:(List Int))(p1:Int):Option (Int):=
 if (decide ((Sh.w (p1-(Sh.len p0)))<0))=true then
  some (-1)
 else
  some (Sh.w (p1-(Sh.len p0)))
def DZ (p0 p1 p2:Int):Option (Bool):=
 (
  if (decide (p1<=p0))=true then
   some (decide (p0<=p2))
  else
   some false
 ).bind λt3=>
 some t3
def CQ (p0:(List Int)):Option (List Int):=
 (Sh.app ([]:List Int) p0 8).bind λl6=>
 some l6
end RC
namespace RC
def Zm (p0:De)(p1:Int):Option (Int):=
 (Yu p0.fields p1).bind λq3=>
 if (decide (q3<0))=true then
  some (-1)
 else
  some q3
def Uu (p0:(List De)):Nat->Int->Int->Option ((Int) ⊕ (Int))
 | 0,_,_=>none
 | n+1,left9,i10=>
  if (decide (i10<(Sh.len p0)))=true then
   (Sh.get p0 i10).bind λtJ=>
   (Zm tJ left9).bind λsU=>
   if (decide (sU<0))=true then
    some (Sum.inl (-1))
   else
    Uu p0 n sU (Sh.w (i10+1))
  else
   some (Sum.inr left9)
def FA (p0:(List AN))(p1:(List Int)):Nat->Int->Option ((Bool) ⊕ (Unit))
 | 0,_=>none
 | n+1,i4=>
  if (decide (i4<(Sh.len p1)))=true then
   (Sh.get p1 i4).bind λtY=>
   (DZ tY 0 (Sh.len p0)).bind λrV=>
   if (!rV)=true then
    some (Sum.inl false)
   else
    FA p0 p1 n (Sh.w (i4+1))
  else
   some (Sum.inr ())
def Hy (N:Nat)(p0:(List AN))(p1:(List Int)):Option (Bool):=
 Sh.cont (FA p0 p1 N 0) (id) λ()=>
 some true
def Es (N:Nat)(c3:AN)(p0:(List AN)):Nat->Int->Option ((Bool) ⊕ (Unit))
 | 0,_=>none
 | n+1,i15=>
  if (decide (i15<(Sh.len c3.cons)))=true then
   (
    Option.bind (Sh.get c3.cons i15) λc27=>
    if (decide (3<(Sh.len c27.fields)))=true then
     some true
    else
     (Hy N p0 c27.fields).bind λuz=>
     some (!uz)
   ).bind λt23=>
   if t23=true then
    some (Sum.inl false)
   else
    Es N c3 p0 n (Sh.w (i15+1))
  else
   some (Sum.inr ())
def Ev (c3:AN)(p0:(List AN))(p1:Int):Nat->Int->Option ((Bool) ⊕ (Unit))
 | 0,_=>none
 | n+1,i34=>
  if (decide (i34<p1))=true then
   (
    Option.bind (Sh.get p0 i34) λc51=>
    if (decide ((Sh.len c51.cons)=0))=true then
     if (decide (c51.from_=c3.from_))=true then
      some (decide (c51.to=c3.to))
     else
      some false
    else
     some false
   ).bind λt47=>
   if t47=true then
    some (Sum.inl false)
   else
    Ev c3 p0 p1 n (Sh.w (i34+1))
  else
   some (Sum.inr ())
def Ij (N:Nat)(p0:(List AN))(p1:Int):Option (Bool):=
 (Sh.get p0 p1).bind λc3=>
 if (decide (0<(Sh.len c3.cons)))=true then
  (
   if (decide (3<(Sh.len c3.cons)))=true then
    some true
   else
   if (!decide (c3.from_=0))=true then
    some true
   else
    some (!decide (c3.to=0))
  ).bind λt9=>
  if t9=true then
   some false
  else
   Sh.cont (Es N c3 p0 N 0) (id) λ()=>
   some true
 else
  Sh.cont (Ev c3 p0 p1 N 0) (id) λ()=>
  (
   Option.bind (DZ c3.from_ 0 (Sh.len p0)) λvA=>
   if vA=true then
    (DZ c3.to 0 (Sh.len p0)).bind λwU=>
    some wU
   else
    some false
  ).bind λt37=>
  some t37
def EV (N:Nat)(p0:(List AN)):Nat->Int->Option ((Bool) ⊕ (Unit))
 | 0,_=>none
 | n+1,i8=>
  if (decide (i8<(Sh.len p0)))=true then
   (Ij N p0 i8).bind λsa=>
   if (!sa)=true then
    some (Sum.inl false)
   else
    EV N p0 n (Sh.w (i8+1))
  else
   some (Sum.inr ())
def IM (N:Nat)(p0:(List AN)):Option (Bool):=
 if (decide (4<(Sh.len p0)))=true then
  some false
 else
  Sh.cont (EV N p0 N 0) (id) λ()=>
  some true
def EH (N:Nat)(p0:AP):Nat->Int->Option ((Bool) ⊕ (Unit))
 | 0,_=>none
 | n+1,i10=>
  if (decide (i10<(Sh.len p0.funcs)))=true then
   (Sh.get p0.funcs i10).bind λwV=>
   (
    if (decide (3<(Sh.len wV.params)))=true then
     some true
    else
     (Hy N p0.decls wV.params).bind λuz=>
     if (!uz)=true then
      some true
     else
      (DZ wV.result 0 (Sh.len p0.decls)).bind λyC=>
      some (!yC)
   ).bind λt24=>
   if t24=true then
    some (Sum.inl false)
   else
    EH N p0 n (Sh.w (i10+1))
  else
   some (Sum.inr ())
def HP (N:Nat)(p0:AP):Option (Bool):=
 (
  Option.bind (IM N p0.decls) λvB=>
  if (!vB)=true then
   some true
  else
   (DZ (Sh.len p0.funcs) 1 4).bind λsM=>
   some (!sM)
 ).bind λt4=>
 if t4=true then
  some false
 else
  Sh.cont (EH N p0 N 0) (id) λ()=>
  (
   Option.bind (Sh.get p0.funcs 0) λuM=>
   if (decide ((Sh.len uM.params)=0))=true then
    some (decide (uM.result=0))
   else
    some false
  ).bind λt13=>
  some t13
def Ek (p0:(List AN))(p1:Int):Nat->Int->Int->Option (Int)
 | 0,_,_=>none
 | n+1,n5,i6=>
  if (decide (i6<p1))=true then
   (Sh.get p0 i6).bind λsm=>
   Ek p0 p1 n (Sh.w (n5+(Sh.len sm.cons))) (Sh.w (i6+1))
  else
   some n5
def Gc (N:Nat)(p0:(List AN))(p1:Int):Option (Int):=
 (Ek p0 p1 N 0 0).bind λn7=>
 some n7
def D8 (N:Nat)(p0:(List AN))(p1:Int):Nat->Int->Option ((Int) ⊕ (Unit))
 | 0,_=>none
 | n+1,i4=>
  if (decide (i4<(Sh.len p0)))=true then
   (Gc N p0 i4).bind λsG=>
   (Sh.get p0 i4).bind λsm=>
   (DZ p1 sG (Sh.w ((Sh.w (sG+(Sh.len sm.cons)))-1))).bind λrp=>
   if rp=true then
    some (Sum.inl (Sh.w (i4+1)))
   else
    D8 N p0 p1 n (Sh.w (i4+1))
  else
   some (Sum.inr ())
def GR (N:Nat)(p0:(List AN))(p1:Int):Option (Int):=
 Sh.cont (D8 N p0 p1 N 0) (id) λ()=>
 some (-1)
def Bw (N:Nat)(p0:(List AN))(p1:Int):Option (List Int):=
 (GR N p0 p1).bind λq3=>
 if (decide (q3<1))=true then
  some []
 else
  (Sh.get p0 (Sh.w (q3-1))).bind λc9=>
  (Gc N p0 (Sh.w (q3-1))).bind λri=>
  (Sh.get c9.cons (Sh.w (p1-ri))).bind λc11=>
  some c11.fields
def FQ (N:Nat)(p0:(List AN))(p1:Int):Nat->Int->(List Int)->Option (List Int)
 | 0,_,_=>none
 | n+1,i12,wW=>
  (Sh.get p0 (Sh.w (p1-1))).bind λtJ=>
  if (decide (i12<(Sh.len tJ.cons)))=true then
   (Gc N p0 (Sh.w (p1-1))).bind λtz=>
   (Sh.app wW [Sh.w (tz+i12)] 8).bind λl23=>
   FQ N p0 p1 n (Sh.w (i12+1)) l23
  else
   some wW
def GK (N:Nat)(p0:(List AN))(p1:Int):Option (List Int):=
 (DZ p1 1 (Sh.len p0)).bind λq5=>
 if (!q5)=true then
  some []
 else
  (FQ N p0 p1 N 0 []).bind λrq=>
  some rq
def HW (p0:(List AN))(p1:Int):Option (Bool):=
 (
  if (decide (0<=p1))=true then
   some (decide (p1<=(Sh.len p0)))
  else
   some false
 ).bind λt3=>
 some t3
def FC (p0:(List AN))(p1:(List Int)):Nat->Int->Option ((Bool) ⊕ (Unit))
 | 0,_=>none
 | n+1,t4=>
  if (decide (t4<(Sh.len p1)))=true then
   (Sh.get p1 t4).bind λtY=>
   (HW p0 tY).bind λuX=>
   if (!uX)=true then
    some (Sum.inl false)
   else
    FC p0 p1 n (Sh.w (t4+1))
  else
   some (Sum.inr ())
def HF (N:Nat)(p0:(List AN))(p1:(List Int)):Option (Bool):=
 Sh.cont (FC p0 p1 N 0) (id) λ()=>
 some true
def Du (sV:AN)(l28:(List AN)):Nat->Int->Option ((Bool) ⊕ (Unit))
 | 0,_=>none
 | n+1,t29=>
  if (decide (t29<(Sh.len l28)))=true then
   (Sh.get l28 t29).bind λc36=>
   (
    if (decide ((Sh.len sV.cons)=0))=true then
     if (decide ((Sh.len c36.cons)=0))=true then
      if (decide (c36.from_=sV.from_))=true then
       some (decide (c36.to=sV.to))
      else
       some false
     else
      some false
    else
     some false
   ).bind λt38=>
   if t38=true then
    some (Sum.inl false)
   else
    Du sV l28 n (Sh.w (t29+1))
  else
   some (Sum.inr ())
def D0 (N:Nat)(sV:AN)(p0:(List AN)):Nat->Int->Option ((Bool) ⊕ (Unit))
 | 0,_=>none
 | n+1,t25=>
  if (decide (t25<(Sh.len sV.cons)))=true then
   (Sh.get sV.cons t25).bind λvU=>
   (
    if (decide (3<(Sh.len vU.fields)))=true then
     some true
    else
     (HF N p0 vU.fields).bind λyj=>
     some (!yj)
   ).bind λt52=>
   if t52=true then
    some (Sum.inl false)
   else
    D0 N sV p0 n (Sh.w (t25+1))
  else
   some (Sum.inr ())
def EX (N:Nat)(p0:(List AN)):Nat->Int->Option ((Bool) ⊕ (Unit))
 | 0,_=>none
 | n+1,t8=>
  if (decide (t8<(Sh.len p0)))=true then
   (Sh.get p0 t8).bind λsV=>
   (
    Option.bind (HW p0 sV.from_) λq58=>
    if (!q58)=true then
     some true
    else
     (HW p0 sV.to).bind λq60=>
     if (!q60)=true then
      some true
     else
     if (decide (3<(Sh.len sV.cons)))=true then
      some true
     else
     if (decide (0<(Sh.len sV.cons)))=true then
      if (!decide (sV.from_=0))=true then
       some true
      else
       some (!decide (sV.to=0))
     else
      some false
   ).bind λt19=>
   if t19=true then
    some (Sum.inl false)
   else
    Sh.cont (D0 N sV p0 N 0) (λx=>Sum.inl x) λ()=>
    (Sh.sl p0 0 t8).bind λl28=>
    Sh.cont (Du sV l28 N 0) (λx=>Sum.inl x) λ()=>
    EX N p0 n (Sh.w (t8+1))
  else
   some (Sum.inr ())
def IK (N:Nat)(p0:(List AN)):Option (Bool):=
 if (decide (4<(Sh.len p0)))=true then
  some false
 else
  Sh.cont (EX N p0 N 0) (id) λ()=>
  some true
def EG (sn:Bv):Nat->Int->Option ((Bool) ⊕ (Unit))
 | 0,_=>none
 | n+1,t26=>
  if (decide (t26<(Sh.len sn.F6)))=true then
   (Sh.get sn.F6 t26).bind λxe=>
   (
    if (decide (xe<0))=true then
     some true
    else
    if (decide ((Sh.len sn.params)<=xe))=true then
     some true
    else
     (Sh.get sn.params xe).bind λyD=>
     if (decide (yD=0))=true then
      some true
     else
     if (decide (0<t26))=true then
      (Sh.get sn.F6 (Sh.w (t26-1))).bind λc44=>
      some (decide (xe<=c44))
     else
      some false
   ).bind λt35=>
   if t35=true then
    some (Sum.inl false)
   else
    EG sn n (Sh.w (t26+1))
  else
   some (Sum.inr ())
def EI (N:Nat)(p0:(List AN))(p1:(List Bv)):Nat->Int->Option ((Bool) ⊕ (Unit))
 | 0,_=>none
 | n+1,t10=>
  if (decide (t10<(Sh.len p1)))=true then
   (Sh.get p1 t10).bind λsn=>
   (
    if (decide (3<(Sh.len sn.params)))=true then
     some true
    else
     (HF N p0 sn.params).bind λq46=>
     if (!q46)=true then
      some true
     else
      (HW p0 sn.result).bind λyE=>
      some (!yE)
   ).bind λt21=>
   if t21=true then
    some (Sum.inl false)
   else
    Sh.cont (EG sn N 0) (λx=>Sum.inl x) λ()=>
    EI N p0 p1 n (Sh.w (t10+1))
  else
   some (Sum.inr ())
def Ik (N:Nat)(p0:(List AN))(p1:(List Bv)):Option (Bool):=
 (
  Option.bind (IK N p0) λuY=>
  if (!uY)=true then
   some true
  else
  if (decide ((Sh.len p1)<1))=true then
   some true
  else
  if (decide (4<(Sh.len p1)))=true then
   some true
  else
   (Sh.get p1 0).bind λc53=>
   if (decide (0<(Sh.len c53.params)))=true then
    some true
   else
    some (!decide (c53.result=0))
 ).bind λt4=>
 if t4=true then
  some false
 else
  Sh.cont (EI N p0 p1 N 0) (id) λ()=>
  some true
def Eo (p0:(List AN)):Nat->Int->Int->Option (Int)
 | 0,_,_=>none
 | n+1,n5,t6=>
  if (decide (t6<(Sh.len p0)))=true then
   (Sh.get p0 t6).bind λuM=>
   Eo p0 n (Sh.w (n5+(Sh.len uM.cons))) (Sh.w (t6+1))
  else
   some n5
def JQ (N:Nat)(p0:(List AN)):Option (Int):=
 (Eo p0 N 0 0).bind λn7=>
 some n7
def FX (sm:AN)(ri:Int):Nat->Int->(List Int)->Option (List Int)
 | 0,_,_=>none
 | n+1,t15,yk=>
  if (decide (t15<(Sh.len sm.cons)))=true then
   (Sh.app yk [Sh.w (ri+t15)] 8).bind λl25=>
   FX sm ri n (Sh.w (t15+1)) l25
  else
   some yk
def HS (N:Nat)(p0:(List AN))(p1:Int):Option (List Int):=
 (
  if (decide (p1<1))=true then
   some true
  else
   some (decide ((Sh.len p0)<p1))
 ).bind λt4=>
 if t4=true then
  some []
 else
  (Sh.sl p0 0 (Sh.w (p1-1))).bind λl9=>
  (JQ N l9).bind λri=>
  (Sh.get p0 (Sh.w (p1-1))).bind λsm=>
  (FX sm ri N 0 []).bind λl17=>
  some l17
def FO (p0:(List AN)):Nat->Int->Int->Option ((Int×De) ⊕ (Unit))
 | 0,_,_=>none
 | n+1,c4,t5=>
  if (decide (t5<(Sh.len p0)))=true then
   (Sh.get p0 t5).bind λyF=>
   (
    if (decide (0<=c4))=true then
     some (decide (c4<(Sh.len yF.cons)))
    else
     some false
   ).bind λt16=>
   if t16=true then
    (Sh.get yF.cons c4).bind λvV=>
    some (Sum.inl (Sh.w (t5+1),vV))
   else
    FO p0 n (Sh.w (c4-(Sh.len yF.cons))) (Sh.w (t5+1))
  else
   some (Sum.inr ())
def IQ (N:Nat)(p0:(List AN))(p1:Int):Option (Int×De):=
 Sh.cont (FO p0 N p1 0) (id) λ()=>
 some (-1,De.mk [])
def EO (N:Nat)(p0:(List AN))(p1:Int):Option (List Int):=
 (IQ N p0 p1).bind λq3=>
 some q3.2.fields
end RC
namespace RC
end RC
namespace RC
def Nt (p0:(List AE))(rD:AE->Int->Option (Int)):Nat->Int->Int->Option ((Int) ⊕ (Int))
 | 0,_,_=>none
 | n+1,left9,i10=>
  if (decide (i10<(Sh.len p0)))=true then
   (Sh.get p0 i10).bind λtJ=>
   (rD tJ left9).bind λsU=>
   if (decide (sU<0))=true then
    some (Sum.inl (-1))
   else
    Nt p0 rD n sU (Sh.w (i10+1))
  else
   some (Sum.inr left9)
def XY (N:Nat)(rD:AE->Int->Option (Int))(p0:(List AE))(p1:Int):Option (Int):=
 if (decide ((Sh.w (p1-(Sh.len p0)))<0))=true then
  some (-1)
 else
  Sh.cont (Nt p0 rD N (Sh.w (p1-(Sh.len p0))) 0) (id) λvW=>
  some vW
def WV (N:Nat)(rD:AE->Int->Option (Int))(p0:AE)(p1:Int):Option (Int):=
 (XY N rD p0.kids p1).bind λq3=>
 if (decide (q3<0))=true then
  some (-1)
 else
  some q3
def Vd (N:Nat):Nat->AE->Int->Option (Int)
 | 0,_,_=>none
 | n+1,p0,p1=>WV N (Vd N n) p0 p1
def Di (p0:AE)(qn:AE->Int->Option (Int)):Nat->Int->Int->Option ((Int) ⊕ (Int))
 | 0,_,_=>none
 | n+1,left9,i10=>
  if (decide (i10<(Sh.len p0.kids)))=true then
   (Sh.get p0.kids i10).bind λtJ=>
   (qn tJ left9).bind λsU=>
   if (decide (sU<0))=true then
    some (Sum.inl (-1))
   else
    Di p0 qn n sU (Sh.w (i10+1))
  else
   some (Sum.inr left9)
def I3 (N:Nat)(qn:AE->Int->Option (Int))(p0:AE)(p1:Int):Option (Int):=
 if (decide (p1<1))=true then
  some (-1)
 else
  Sh.cont (Di p0 qn N (Sh.w (p1-1)) 0) (id) λvW=>
  some vW
def FD (N:Nat):Nat->AE->Int->Option (Int)
 | 0,_,_=>none
 | n+1,p0,p1=>I3 N (FD N n) p0 p1
def Lv (N:Nat)(p0:AE)(p1:Int):Option (Int):=FD N N p0 p1
def G1 (N:Nat)(p0:AE):Option (Int):=
 (Lv N p0 30).bind λq3=>
 if (decide (q3<0))=true then
  some (-1)
 else
  some (Sh.w (30-q3))
def Ff (p0:AP)(p1:(List Int))(p2:(List AE))(p3:Int)(qW:AP->(List Int)->AE->Option (Int)):Nat->Int->Option ((Bool) ⊕ (Unit))
 | 0,_=>none
 | n+1,i10=>
  if (decide (i10<p3))=true then
   (Sh.get p2 i10).bind λsn=>
   (qW p0 p1 sn).bind λsR=>
   if (!decide (sR=0))=true then
    some (Sum.inl false)
   else
    Ff p0 p1 p2 p3 qW n (Sh.w (i10+1))
  else
   some (Sum.inr ())
def Iu (N:Nat)(qW:AP->(List Int)->AE->Option (Int))(p0:AP)(p1:(List Int))(p2:(List AE))(p3:Int):Option (Bool):=
 if (!decide ((Sh.len p2)=p3))=true then
  some false
 else
  Sh.cont (Ff p0 p1 p2 p3 qW N 0) (id) λ()=>
  some true
def Gb (p0:AP)(p1:(List Int))(p2:(List AE))(p3:(List Int))(qW:AP->(List Int)->AE->Option (Int)):Nat->Int->Option ((Bool) ⊕ (Unit))
 | 0,_=>none
 | n+1,i10=>
  if (decide (i10<(Sh.len p3)))=true then
   (Sh.get p2 i10).bind λsn=>
   (qW p0 p1 sn).bind λsR=>
   (Sh.get p3 i10).bind λvV=>
   if (!decide (sR=vV))=true then
    some (Sum.inl false)
   else
    Gb p0 p1 p2 p3 qW n (Sh.w (i10+1))
  else
   some (Sum.inr ())
def JD (N:Nat)(qW:AP->(List Int)->AE->Option (Int))(p0:AP)(p1:(List Int))(p2:(List AE))(p3:(List Int)):Option (Bool):=
 if (!decide ((Sh.len p2)=(Sh.len p3)))=true then
  some false
 else
  Sh.cont (Gb p0 p1 p2 p3 qW N 0) (id) λ()=>
  some true
def FJ (p0:(List Int)):Option (List Int):=
 (Sh.app ([]:List Int) p0 8).bind λl3=>
 some l3
def Ef (p0:(List Int))(p1:(List Int)):Option (List Int):=
 (FJ p0).bind λq3=>
 (Sh.app q3 p1 8).bind λl4=>
 some l4
def EJ (N:Nat)(p0:AP)(p1:(List Int))(p2:AE)(rp:Int)(q3:(List Int))(qW:AP->(List Int)->AE->Option (Int)):Nat->Int->Option ((Int) ⊕ (Unit))
 | 0,_=>none
 | n+1,i18=>
  if (decide (i18<(Sh.len q3)))=true then
   (Sh.get q3 i18).bind λzZ=>
   (Bw N p0.decls zZ).bind λtd=>
   (Ef p1 td).bind λsq=>
   (Sh.get p2.kids (Sh.w (1+i18))).bind λc29=>
   (qW p0 sq c29).bind λvC=>
   if (!decide (vC=rp))=true then
    some (Sum.inl (-1))
   else
    EJ N p0 p1 p2 rp q3 qW n (Sh.w (i18+1))
  else
   some (Sum.inr ())
def J3 (N:Nat)(qW:AP->(List Int)->AE->Option (Int))(p0:AP)(p1:(List Int))(p2:AE):Option (Int):=
 (GK N p0.decls p2.num).bind λq3=>
 (
  if (decide ((Sh.len q3)=0))=true then
   some true
  else
  if (!decide ((Sh.len p2.kids)=(Sh.w (1+(Sh.len q3)))))=true then
   some true
  else
   (Sh.get p2.kids 0).bind λc37=>
   (qW p0 p1 c37).bind λtq=>
   some (!decide (tq=p2.num))
 ).bind λt6=>
 if t6=true then
  some (-1)
 else
  (Sh.get q3 0).bind λc11=>
  (Bw N p0.decls c11).bind λsG=>
  (Ef p1 sG).bind λrV=>
  (Sh.get p2.kids 1).bind λsm=>
  (qW p0 rV sm).bind λrp=>
  Sh.cont (EJ N p0 p1 p2 rp q3 qW N 1) (id) λ()=>
  some rp
def E5 (p0:(List AN))(p1 p2:Int):Nat->Int->Option ((Int) ⊕ (Unit))
 | 0,_=>none
 | n+1,i4=>
  if (decide (i4<(Sh.len p0)))=true then
   (
    Option.bind (Sh.get p0 i4) λsV=>
    if (decide ((Sh.len sV.cons)=0))=true then
     if (decide (sV.from_=p1))=true then
      some (decide (sV.to=p2))
     else
      some false
    else
     some false
   ).bind λt12=>
   if t12=true then
    some (Sum.inl (Sh.w (i4+1)))
   else
    E5 p0 p1 p2 n (Sh.w (i4+1))
  else
   some (Sum.inr ())
def Iq (N:Nat)(p0:(List AN))(p1 p2:Int):Option (Int):=
 Sh.cont (E5 p0 p1 p2 N 0) (id) λ()=>
 some (-1)
def Ft (N:Nat)(qW:AP->(List Int)->AE->Option (Int))(p0:AP)(p1:(List Int))(p2:AE):Option (Int):=
 (DZ p2.num 0 (Sh.w ((Sh.len p0.funcs)-1))).bind λq4=>
 if (!q4)=true then
  some (-1)
 else
  (Sh.get p0.funcs p2.num).bind λvD=>
  if (decide (p2.op=9))=true then
   (JD N qW p0 p1 p2.kids vD.params).bind λsD=>
   if (!sD)=true then
    some (-1)
   else
    some vD.result
  else
   (
    if (decide ((Sh.len vD.params)=0))=true then
     some true
    else
     (Sh.sl vD.params 0 (Sh.w ((Sh.len vD.params)-1))).bind λl33=>
     (JD N qW p0 p1 p2.kids l33).bind λsM=>
     some (!sM)
   ).bind λt25=>
   if t25=true then
    some (-1)
   else
    (Sh.get vD.params (Sh.w ((Sh.len vD.params)-1))).bind λym=>
    (Iq N p0.decls ym vD.result).bind λyC=>
    some yC
def G0 (p0:(List AN))(p1:Int):Option (Bool):=
 (
  Option.bind (DZ p1 1 (Sh.len p0)) λq5=>
  if q5=true then
   (Sh.get p0 (Sh.w (p1-1))).bind λc7=>
   some (decide ((Sh.len c7.cons)=0))
  else
   some false
 ).bind λt3=>
 some t3
def Bn (N:Nat)(qW:AP->(List Int)->AE->Option (Int))(p0:AP)(p1:(List Int))(p2:AE):Option (Int):=
 Sh.cont (
  if (decide (p2.op=0))=true then
   (
    if (decide ((Sh.len p2.kids)=0))=true then
     (DZ p2.num (-999) 999).bind λrp=>
     some rp
    else
     some false
   ).bind λt10=>
   if t10=true then
    some (Sum.inl 0)
   else
    some (Sum.inr ())
  else
  if (decide (p2.op=12))=true then
   (
    if (decide ((Sh.len p2.kids)=0))=true then
     (DZ p2.num 0 (Sh.w ((Sh.len p1)-1))).bind λuN=>
     some uN
    else
     some false
   ).bind λt19=>
   if t19=true then
    (Sh.get p1 p2.num).bind λwX=>
    some (Sum.inl wX)
   else
    some (Sum.inr ())
  else
   (
    if (decide (p2.op=1))=true then
     some true
    else
    if (decide (p2.op=2))=true then
     some true
    else
    if (decide (p2.op=3))=true then
     some true
    else
     some (decide (p2.op=4))
   ).bind λt27=>
   if t27=true then
    (
     if (decide (p2.num=0))=true then
      (Iu N qW p0 p1 p2.kids 2).bind λxD=>
      some xD
     else
      some false
    ).bind λt31=>
    if t31=true then
     some (Sum.inl 0)
    else
     some (Sum.inr ())
   else
   if (decide (p2.op=5))=true then
    (
     if (decide (p2.num=0))=true then
      (Iu N qW p0 p1 p2.kids 1).bind λxE=>
      some xE
     else
      some false
    ).bind λt40=>
    if t40=true then
     some (Sum.inl 0)
    else
     some (Sum.inr ())
   else
   if (decide (p2.op=6))=true then
    (
     Option.bind (GR N p0.decls p2.num) λxF=>
     if (decide (0<xF))=true then
      (Bw N p0.decls p2.num).bind λvz=>
      (JD N qW p0 p1 p2.kids vz).bind λyj=>
      some yj
     else
      some false
    ).bind λt49=>
    if t49=true then
     (GR N p0.decls p2.num).bind λwA=>
     some (Sum.inl wA)
    else
     some (Sum.inr ())
   else
   if (decide (p2.op=13))=true then
    (
     if (decide (p2.num=0))=true then
      some (decide ((Sh.len p2.kids)=2))
     else
      some false
    ).bind λt61=>
    if t61=true then
     (Sh.get p2.kids 0).bind λc65=>
     (qW p0 p1 c65).bind λq66=>
     if (decide (0<=q66))=true then
      (Ef p1 [q66]).bind λq70=>
      (Sh.get p2.kids 1).bind λc71=>
      (qW p0 q70 c71).bind λq72=>
      some (Sum.inl q72)
     else
      some (Sum.inr ())
    else
     some (Sum.inr ())
   else
   if (decide (p2.op=7))=true then
    (
     if (decide (p2.num=0))=true then
      if (decide ((Sh.len p2.kids)=3))=true then
       (Sh.get p2.kids 0).bind λc90=>
       (qW p0 p1 c90).bind λq91=>
       some (decide (q91=0))
      else
       some false
     else
      some false
    ).bind λt77=>
    if t77=true then
     (Sh.get p2.kids 1).bind λc81=>
     (qW p0 p1 c81).bind λq82=>
     (Sh.get p2.kids 2).bind λc84=>
     (qW p0 p1 c84).bind λq85=>
     if (decide (q85=q82))=true then
      some (Sum.inl q82)
     else
      some (Sum.inr ())
    else
     some (Sum.inr ())
   else
   if (decide (p2.op=8))=true then
    (J3 N qW p0 p1 p2).bind λq95=>
    some (Sum.inl q95)
   else
    (
     if (decide (p2.op=9))=true then
      some true
     else
      some (decide (p2.op=10))
    ).bind λt97=>
    if t97=true then
     (Ft N qW p0 p1 p2).bind λq101=>
     some (Sum.inl q101)
    else
    if (decide (p2.op=11))=true then
     (
      if (decide (p2.num=0))=true then
       some (decide ((Sh.len p2.kids)=2))
      else
       some false
     ).bind λt105=>
     if t105=true then
      (Sh.get p2.kids 0).bind λc109=>
      (qW p0 p1 c109).bind λwC=>
      (
       Option.bind (G0 p0.decls wC) λq117=>
       if q117=true then
        (Sh.get p2.kids 1).bind λc119=>
        (qW p0 p1 c119).bind λq120=>
        (Sh.get p0.decls (Sh.w (wC-1))).bind λc121=>
        some (decide (q120=c121.from_))
       else
        some false
      ).bind λt112=>
      if t112=true then
       (Sh.get p0.decls (Sh.w (wC-1))).bind λc116=>
       some (Sum.inl c116.to)
      else
       some (Sum.inr ())
     else
      some (Sum.inr ())
    else
     some (Sum.inr ())
 ) (id) λ()=>
 some (-1)
def Ci (N:Nat):Nat->AP->(List Int)->AE->Option (Int)
 | 0,_,_,_=>none
 | n+1,p0,p1,p2=>Bn N (Ci N n) p0 p1 p2
def Jj (N:Nat)(p0:AP)(p1:(List Int))(p2:AE):Option (Int):=Ci N N p0 p1 p2
def Bp (N:Nat)(p0:AP):Nat->Int->Option ((Bool) ⊕ (Unit))
 | 0,_=>none
 | n+1,i11=>
  if (decide (i11<(Sh.len p0.funcs)))=true then
   (
    Option.bind (Sh.get p0.funcs i11) λwX=>
    (G1 N wX.body).bind λwD=>
    if (decide (wD<0))=true then
     some true
    else
     (Jj N p0 wX.params wX.body).bind λvX=>
     some (!decide (vX=wX.result))
   ).bind λt19=>
   if t19=true then
    some (Sum.inl false)
   else
    Bp N p0 n (Sh.w (i11+1))
  else
   some (Sum.inr ())
def Be (N:Nat)(p0:AP):Option (Bool):=
 (HP N p0).bind λq4=>
 if (!q4)=true then
  some false
 else
  Sh.cont (Bp N p0 N 0) (id) λ()=>
  some true
def Dn (p0:AP):Nat->Int->(List Bv)->Option (List Bv)
 | 0,_,_=>none
 | n+1,t9,l10=>
  if (decide (t9<(Sh.len p0.funcs)))=true then
   (Sh.get p0.funcs t9).bind λvV=>
   (Sh.app l10 ([Bv.mk vV.params [] vV.result]) 56).bind λl21=>
   Dn p0 n (Sh.w (t9+1)) l21
  else
   some l10
def HL (N:Nat)(p0:AP):Option (Bool):=
 if (decide (4<(Sh.len p0.funcs)))=true then
  some false
 else
  (Dn p0 N 0 []).bind λl11=>
  (Ik N p0.decls l11).bind λuX=>
  some uX
def DS (p0:AE)(qm:Int->AE->Option (Bool×Int)):Nat->Int->Int->Option ((Bool×Int) ⊕ (Int))
 | 0,_,_=>none
 | n+1,t9,f10=>
  if (decide (t9<(Sh.len p0.kids)))=true then
   (Sh.get p0.kids t9).bind λtJ=>
   (qm f10 tJ).bind λrG=>
   if (!rG.1)=true then
    some (Sum.inl (false,rG.2))
   else
    DS p0 qm n (Sh.w (t9+1)) rG.2
  else
   some (Sum.inr f10)
def IX (N:Nat)(qm:Int->AE->Option (Bool×Int))(qT:Int)(p0:AE):Option (Bool×Int):=
 if (decide (30<(Sh.w (qT+1))))=true then
  some (false,Sh.w (qT+1))
 else
  Sh.cont (DS p0 qm N 0 (Sh.w (qT+1))) (id) λf11=>
  some (true,f11)
def Er (N:Nat):Nat->Int->AE->Option (Bool×Int)
 | 0,_,_=>none
 | n+1,qT,p0=>IX N (Er N n) qT p0
def LH (N:Nat)(qT:Int)(p0:AE):Option (Bool×Int):=Er N N qT p0
def Iv (N:Nat)(p0:AE):Option (Int):=
 (LH N 0 p0).bind λq5=>
 if (!q5.1)=true then
  some (-1)
 else
  some q5.2
def FU (p0:AP):Nat->Int->(List Bv)->Option (List Bv)
 | 0,_,_=>none
 | n+1,t5,l6=>
  if (decide (t5<(Sh.len p0.funcs)))=true then
   (Sh.get p0.funcs t5).bind λuM=>
   (Sh.app l6 ([Bv.mk uM.params [] uM.result]) 56).bind λyk=>
   FU p0 n (Sh.w (t5+1)) yk
  else
   some l6
def Ke (N:Nat)(p0:AP):Option (BQ):=
 (FU p0 N 0 []).bind λl7=>
 some (BQ.mk p0.decls l7)
def Ge (p1:Int):Option (List Int):=
 if (decide (p1<0))=true then
  none
 else
  (
   if (decide (0<(Sh.w (p1-(Sh.w (0-0))))))=true then
    (Sh.mk 0 (Sh.w (p1-(Sh.w (0-0)))) 8).bind λwY=>
    (Sh.hi wY 0).bind λwW=>
    some wW
   else
    some []
  ).bind λl6=>
  some l6
def Cf (p0:(List (List Int))):Nat->Int->(List Int)->Option (List Int)
 | 0,_,_=>none
 | n+1,t13,rq=>
  if (decide (t13<(Sh.len p0)))=true then
   (Sh.get p0 t13).bind λwX=>
   (Sh.app rq wX 8).bind λl24=>
   Cf p0 n (Sh.w (t13+1)) l24
  else
   some rq
def Ch (p0:(List (List Int))):Nat->Int->Int->Option (Int)
 | 0,_,_=>none
 | n+1,size5,t6=>
  if (decide (t6<(Sh.len p0)))=true then
   (Sh.get p0 t6).bind λym=>
   if (decide ((Sh.w (size5+(Sh.len ym)))<0))=true then
    none
   else
    Ch p0 n (Sh.w (size5+(Sh.len ym))) (Sh.w (t6+1))
  else
   some size5
def Fu (N:Nat)(p0:(List (List Int))):Option (List Int):=
 (Ch p0 N 0 0).bind λsize7=>
 (Ge size7).bind λri=>
 (Cf p0 N 0 ri).bind λxG=>
 some xG
def Bl (N:Nat)(p0:BQ)(p1:(List Int))(p2:(List AE))(p3:(List (List Int)))(qY:(List Int)->BQ->AE->Option (Int)):Nat->Int->Int->Option ((Int) ⊕ (Int))
 | 0,_,_=>none
 | n+1,qy,t6=>
  if (decide (t6<(Sh.len p2)))=true then
   (Sh.get p2 t6).bind λuM=>
   (Sh.get p3 t6).bind λsb=>
   (Fu N [p1,sb]).bind λtF=>
   (qY tF p0 uM).bind λsR=>
   (
    if (decide (sR<0))=true then
     some true
    else
    if (decide (0<t6))=true then
     some (!decide (sR=qy))
    else
     some false
   ).bind λt23=>
   if t23=true then
    some (Sum.inl (-1))
   else
    Bl N p0 p1 p2 p3 qY n sR (Sh.w (t6+1))
  else
   some (Sum.inr qy)
def ES (N:Nat)(qY:(List Int)->BQ->AE->Option (Int))(p0:BQ)(p1:(List Int))(p2:(List AE))(p3:(List (List Int))):Option (Int):=
 Sh.cont (Bl N p0 p1 p2 p3 qY N (-1) 0) (id) λsH=>
 some sH
def Jv (p0:(List AN))(p1:Int):Option (AN×Bool):=
 (
  if (decide (p1<1))=true then
   some true
  else
  if (decide ((Sh.len p0)<p1))=true then
   some true
  else
   (Sh.get p0 (Sh.w (p1-1))).bind λtY=>
   some (decide (0<(Sh.len tY.cons)))
 ).bind λt4=>
 if t4=true then
  some (AN.mk 0 0 [],false)
 else
  (Sh.get p0 (Sh.w (p1-1))).bind λc9=>
  some (c9,true)
def DE (p0:(List Int))(p1:(List Int)):Nat->Int->Option ((Bool) ⊕ (Unit))
 | 0,_=>none
 | n+1,t10=>
  if (decide (t10<(Sh.len p0)))=true then
   (Sh.get p0 t10).bind λtJ=>
   (Sh.get p1 t10).bind λvV=>
   if (!decide (tJ=vV))=true then
    some (Sum.inl false)
   else
    DE p0 p1 n (Sh.w (t10+1))
  else
   some (Sum.inr ())
def DP (N:Nat)(p0:(List Int))(p1:(List Int)):Option (Bool):=
 if (!decide ((Sh.len p0)=(Sh.len p1)))=true then
  some false
 else
  Sh.cont (DE p0 p1 N 0) (id) λ()=>
  some true
def E2 (p0:(List AN))(p1 p2:Int):Nat->Int->Option ((Int) ⊕ (Unit))
 | 0,_=>none
 | n+1,t4=>
  if (decide (t4<(Sh.len p0)))=true then
   (Sh.get p0 t4).bind λtY=>
   (
    if (decide ((Sh.len tY.cons)=0))=true then
     if (decide (tY.from_=p1))=true then
      some (decide (tY.to=p2))
     else
      some false
    else
     some false
   ).bind λt14=>
   if t14=true then
    some (Sum.inl (Sh.w (t4+1)))
   else
    E2 p0 p1 p2 n (Sh.w (t4+1))
  else
   some (Sum.inr ())
def J2 (N:Nat)(p0:(List AN))(p1 p2:Int):Option (Int):=
 Sh.cont (E2 p0 p1 p2 N 0) (id) λ()=>
 some (-1)
def BK (N:Nat)(p0:BQ)(p1 p2:Int)(p3:(List Int)):Option (Int×Bool):=
 Sh.cont (
  if (decide (p1=0))=true then
   (
    if (decide ((-999)<=p2))=true then
     if (decide (p2<=999))=true then
      some (decide ((Sh.len p3)=0))
     else
      some false
    else
     some false
   ).bind λt15=>
   some (Sum.inl (0,t15))
  else
   (
    if (decide (p1=1))=true then
     some true
    else
    if (decide (p1=2))=true then
     some true
    else
    if (decide (p1=3))=true then
     some true
    else
     some (decide (p1=4))
   ).bind λt20=>
   if t20=true then
    some (Sum.inr [(0:Int),0])
   else
   if (decide (p1=5))=true then
    some (Sum.inr [(0:Int)])
   else
   if (decide (p1=11))=true then
    if (!decide ((Sh.len p3)=2))=true then
     some (Sum.inl (-1,false))
    else
     (Sh.get p3 0).bind λza=>
     (Jv p0.decls za).bind λuA=>
     (
      if uA.2=true then
       (Sh.get p3 1).bind λyD=>
       if (decide (yD=uA.1.from_))=true then
        some (decide (p2=0))
       else
        some false
      else
       some false
     ).bind λt38=>
     some (Sum.inl (uA.1.to,t38))
   else
   if (decide (p1=6))=true then
    (IQ N p0.decls p2).bind λwE=>
    (
     if (decide (0<=wE.1))=true then
      (DP N p3 wE.2.fields).bind λxE=>
      some xE
     else
      some false
    ).bind λt42=>
    some (Sum.inl (wE.1,t42))
   else
    (
     if (decide (p1=9))=true then
      some true
     else
      some (decide (p1=10))
    ).bind λt47=>
    if t47=true then
     (
      if (decide (p2<0))=true then
       some true
      else
       some (decide ((Sh.len p0.funcs)<=p2))
     ).bind λt52=>
     if t52=true then
      some (Sum.inl (-1,false))
     else
      (Sh.get p0.funcs p2).bind λwF=>
      if (decide (p1=9))=true then
       (DP N p3 wF.params).bind λq62=>
       some (Sum.inl (wF.result,q62))
      else
      if (decide ((Sh.w ((Sh.len wF.params)-1))<0))=true then
       some (Sum.inl (-1,false))
      else
       (Sh.get wF.params (Sh.w ((Sh.len wF.params)-1))).bind λc69=>
       (J2 N p0.decls c69 wF.result).bind λq70=>
       (
        if (decide (0<=q70))=true then
         (Sh.sl wF.params 0 (Sh.w ((Sh.len wF.params)-1))).bind λl75=>
         (DP N p3 l75).bind λq76=>
         some q76
        else
         some false
       ).bind λt72=>
       some (Sum.inl (q70,t72))
    else
     some (Sum.inl (-1,false))
 ) (id) λl4=>
 (
  if (decide (p2=0))=true then
   (DP N p3 l4).bind λri=>
   some ri
  else
   some false
 ).bind λt7=>
 some (0,t7)
def CJ (N:Nat)(p0:BQ)(vz:(List Int)):Nat->Int->(List (List Int))->Option (List (List Int))
 | 0,_,_=>none
 | n+1,t67,zb=>
  if (decide (t67<(Sh.len vz)))=true then
   (Sh.get vz t67).bind λc79=>
   (EO N p0.decls c79).bind λq80=>
   (Sh.get zb t67).bind λc81=>
   CJ N p0 vz n (Sh.w (t67+1)) (Sh.put zb t67 q80)
  else
   some zb
def CI (s0:(List Int))(p0:BQ)(p2:AE)(qY:(List Int)->BQ->AE->Option (Int)):Nat->Int->(List Int)->Option ((Int) ⊕ (List Int))
 | 0,_,_=>none
 | n+1,t90,l91=>
  if (decide (t90<(Sh.len p2.kids)))=true then
   (Sh.get p2.kids t90).bind λc108=>
   (qY s0 p0 c108).bind λwC=>
   (Sh.get l91 t90).bind λc111=>
   (Sh.get (Sh.put l91 t90 wC) t90).bind λc113=>
   if (decide (c113<0))=true then
    some (Sum.inl (-1))
   else
    CI s0 p0 p2 qY n (Sh.w (t90+1)) (Sh.put l91 t90 wC)
  else
   some (Sum.inr l91)
def Ap (N:Nat)(qY:(List Int)->BQ->AE->Option (Int))(s0:(List Int))(p0:BQ)(p2:AE):Option (Int):=
 if (decide (p2.op=12))=true then
  (
   if (decide (0<(Sh.len p2.kids)))=true then
    some true
   else
   if (decide (p2.num<0))=true then
    some true
   else
    some (decide ((Sh.len s0)<=p2.num))
  ).bind λt8=>
  if t8=true then
   some (-1)
  else
   (Sh.get s0 p2.num).bind λyF=>
   some yF
 else
 if (decide (p2.op=13))=true then
  (
   if (!decide ((Sh.len p2.kids)=2))=true then
    some true
   else
    some (!decide (p2.num=0))
  ).bind λt20=>
  if t20=true then
   some (-1)
  else
   (Sh.get p2.kids 0).bind λc25=>
   (qY s0 p0 c25).bind λvX=>
   if (decide (vX<0))=true then
    some (-1)
   else
    (Sh.app s0 [vX] 8).bind λl32=>
    (Sh.get p2.kids 1).bind λxe=>
    (qY l32 p0 xe).bind λsM=>
    some sM
 else
 if (decide (p2.op=7))=true then
  (
   if (!decide ((Sh.len p2.kids)=3))=true then
    some true
   else
   if (!decide (p2.num=0))=true then
    some true
   else
    (Sh.get p2.kids 0).bind λc51=>
    (qY s0 p0 c51).bind λq52=>
    some (!decide (q52=0))
  ).bind λt41=>
  if t41=true then
   some (-1)
  else
   (Sh.sl p2.kids 1 (Sh.len p2.kids)).bind λl46=>
   (Sh.mk [] 2 24).bind λl47=>
   (ES N qY p0 s0 l46 l47).bind λyE=>
   some yE
 else
 if (decide (p2.op=8))=true then
  (HS N p0.decls p2.num).bind λvz=>
  (
   if (decide ((Sh.len vz)=0))=true then
    some true
   else
   if (!decide ((Sh.len p2.kids)=(Sh.w (1+(Sh.len vz)))))=true then
    some true
   else
    (Sh.get p2.kids 0).bind λc84=>
    (qY s0 p0 c84).bind λq85=>
    some (!decide (q85=p2.num))
  ).bind λt59=>
  if t59=true then
   some (-1)
  else
   (Sh.mk [] (Sh.len vz) 24).bind λl64=>
   (CJ N p0 vz N 0 l64).bind λl69=>
   (Sh.sl p2.kids 1 (Sh.len p2.kids)).bind λl72=>
   (ES N qY p0 s0 l72 l69).bind λq73=>
   some q73
 else
  (Sh.mk 0 (Sh.len p2.kids) 8).bind λl87=>
  Sh.cont (CI s0 p0 p2 qY N 0 l87) (id) λl92=>
  (BK N p0 p2.op p2.num l92).bind λq95=>
  if (!q95.2)=true then
   some (-1)
  else
   some q95.1
def Bf (N:Nat):Nat->(List Int)->BQ->AE->Option (Int)
 | 0,_,_,_=>none
 | n+1,s0,p0,p2=>Ap N (Bf N n) s0 p0 p2
def IH (N:Nat)(s0:(List Int))(p0:BQ)(p2:AE):Option (Int):=Bf N N s0 p0 p2
def MH (N:Nat)(p0:AP)(p1:(List Int))(p2:AE):Option (Int):=
 (
  Option.bind (HL N p0) λrV=>
  if (!rV)=true then
   some true
  else
   (Iv N p2).bind λrp=>
   if (decide (rp<0))=true then
    some true
   else
    (HF N p0.decls p1).bind λsD=>
    some (!sD)
 ).bind λt4=>
 if t4=true then
  some (-1)
 else
  (Ke N p0).bind λq9=>
  (CQ p1).bind λri=>
  (IH N ri q9 p2).bind λsx=>
  some sx
def Dt (N:Nat)(p0:AP):Nat->Int->Option ((Bool) ⊕ (Unit))
 | 0,_=>none
 | n+1,t11=>
  if (decide (t11<(Sh.len p0.funcs)))=true then
   (Sh.get p0.funcs t11).bind λtJ=>
   (MH N p0 tJ.params tJ.body).bind λrG=>
   if (!decide (rG=tJ.result))=true then
    some (Sum.inl false)
   else
    Dt N p0 n (Sh.w (t11+1))
  else
   some (Sum.inr ())
def Cw (N:Nat)(p0:AP):Option (Bool):=
 (HL N p0).bind λq4=>
 if (!q4)=true then
  some false
 else
  Sh.cont (Dt N p0 N 0) (id) λ()=>
  some true
end RC
namespace RC
end RC
namespace RC
end RC
namespace RC
end RC
namespace RC
def PA (p0:(List Int))(p1:Int):Nat->Bool->Int->(List Int)->Option (Bool×(List Int))
 | 0,_,_,_=>none
 | n+1,done6,i7,l8=>
  if (decide (i7<(Sh.len p0)))=true then
   (
    Option.bind (
     if (!done6)=true then
      (Sh.get p0 i7).bind λc43=>
      some (decide (p1<=c43))
     else
      some false
    ) λt32=>
    if t32=true then
     (
      Option.bind (Sh.get p0 i7) λze=>
      if (decide (p1<ze))=true then
       (Sh.app l8 [p1] 8).bind λyn=>
       some yn
      else
       some l8
     ).bind λl36=>
     some (true,l36)
    else
     some (done6,l8)
   ).bind λ(zh,l27)=>
   (Sh.get p0 i7).bind λc29=>
   (Sh.app l27 [c29] 8).bind λl30=>
   PA p0 p1 n zh (Sh.w (i7+1)) l30
  else
   some (done6,l8)
def Yi (N:Nat)(p0:(List Int))(p1:Int):Option (List Int):=
 (PA p0 p1 N false 0 []).bind λ(done9,l10)=>
 (
  if (!done9)=true then
   (Sh.app l10 [p1] 8).bind λyG=>
   some yG
  else
   some l10
 ).bind λwW=>
 some wW
end RC
namespace RC
def GM (p0:(List Int))(p1:Int):Nat->Int->Option ((Bool) ⊕ (Unit))
 | 0,_=>none
 | n+1,i4=>
  if (decide (i4<(Sh.len p0)))=true then
   (Sh.get p0 i4).bind λtY=>
   if (decide (tY=p1))=true then
    some (Sum.inl true)
   else
    GM p0 p1 n (Sh.w (i4+1))
  else
   some (Sum.inr ())
def KA (N:Nat)(p0:(List Int))(p1:Int):Option (Bool):=
 Sh.cont (GM p0 p1 N 0) (id) λ()=>
 some false
def PU (N:Nat)(vC:(List Int)):Nat->Int->(List Int)->Option (List Int)
 | 0,_,_=>none
 | n+1,k33,yH=>
  if (decide (k33<(Sh.len vC)))=true then
   (Sh.get vC k33).bind λyD=>
   (Yi N yH yD).bind λq42=>
   PU N vC n (Sh.w (k33+1)) q42
  else
   some yH
def I1 (s1:(List Bool))(p0:AE):Option (List Bool):=
 (
  if (decide (p0.op=9))=true then
   some true
  else
   some (decide (p0.op=10))
 ).bind λt3=>
 if t3=true then
  (Sh.get s1 p0.num).bind λc6=>
  some (Sh.put s1 p0.num true)
 else
  some s1
def Em (p0:AE)(qv:(List Bool)->AE->Option (List Bool)):Nat->Int->(List Bool)->Option (List Bool)
 | 0,_,_=>none
 | n+1,t6,l7=>
  if (decide (t6<(Sh.len p0.kids)))=true then
   (Sh.get p0.kids t6).bind λuM=>
   (qv l7 uM).bind λsa=>
   Em p0 qv n (Sh.w (t6+1)) sa
  else
   some l7
def KY (N:Nat)(qv:(List Bool)->AE->Option (List Bool))(s1:(List Bool))(p0:AE):Option (List Bool):=
 (I1 s1 p0).bind λq3=>
 (Em p0 qv N 0 q3).bind λl8=>
 some l8
def GX (N:Nat):Nat->(List Bool)->AE->Option (List Bool)
 | 0,_,_=>none
 | n+1,s1,p0=>KY N (GX N n) s1 p0
def Oo (N:Nat)(s1:(List Bool))(p0:AE):Option (List Bool):=GX N N s1 p0
def Ii (N:Nat)(p0:AP)(p1:Int):Option (List Bool):=
 (Sh.mk false (Sh.len p0.funcs) 1).bind λl3=>
 (Sh.get p0.funcs p1).bind λc5=>
 (Oo N l3 c5.body).bind λq6=>
 some q6
def EC (p0:(List Bool)):Nat->Int->(List Int)->Option (List Int)
 | 0,_,_=>none
 | n+1,t5,l6=>
  if (decide (t5<(Sh.len p0)))=true then
   (
    Option.bind (Sh.get p0 t5) λsb=>
    if sb=true then
     (Sh.app l6 [t5] 8).bind λl20=>
     some l20
    else
     some l6
   ).bind λrq=>
   EC p0 n (Sh.w (t5+1)) rq
  else
   some l6
def HM (N:Nat)(p0:(List Bool)):Option (List Int):=
 (EC p0 N 0 []).bind λl7=>
 some l7
def HR (N:Nat)(p0:AP)(p1:Int):Option (List Int):=
 (
  Option.bind (Cw N p0) λsx=>
  if (!sx)=true then
   some true
  else
  if (decide (p1<0))=true then
   some true
  else
   some (decide ((Sh.len p0.funcs)<=p1))
 ).bind λt4=>
 if t4=true then
  some []
 else
  (Ii N p0 p1).bind λq9=>
  (HM N q9).bind λri=>
  some ri
def DD (p0:(List Int))(p1:Int):Nat->Int->Option ((Int) ⊕ (Unit))
 | 0,_=>none
 | n+1,t4=>
  if (decide (t4<(Sh.len p0)))=true then
   (Sh.get p0 t4).bind λyF=>
   if (decide (p1=yF))=true then
    some (Sum.inl t4)
   else
    DD p0 p1 n (Sh.w (t4+1))
  else
   some (Sum.inr ())
def GA (N:Nat)(p0:(List Int))(p1:Int):Option (Int):=
 Sh.cont (DD p0 p1 N 0) (id) λ()=>
 some (-1)
end RC
namespace RC
def Db (p0:(List AN)):Option (List AN):=
 (Sh.app ([]:List AN) p0 40).bind λl6=>
 some l6
def DA (p0:(List De)):Option (List De):=
 (Sh.app ([]:List De) p0 24).bind λl6=>
 some l6
end RC
namespace RC
def EW (cs:List De):Nat->Int->List De->Option (List De)
 | 0,_,_=>none
 | n+1,i,q=>
  if decide (i<Sh.len cs)=true then
   (Sh.get cs i).bind λc=>
   (CQ c.fields).bind λf=>
   (Sh.get q i).bind λ_=>
   EW cs n (Sh.w (i+1)) (Sh.put q i (De.mk f))
  else some q
def EU (N:Nat)(m:Int):Nat->Int->List AN->Option (List AN)
 | 0,_,_=>none
 | n+1,t,l=>
  if decide (t<m)=true then
   (Sh.get l t).bind λd=>
   (DA d.cons).bind λrG=>
   (EW d.cons N 0 rG).bind λq=>
   EU N m n (Sh.w (t+1)) (Sh.put l t (AN.mk d.from_ d.to q))
  else some l
def IB (N:Nat)(p0:List AN):Option (List AN):=
 (Db p0).bind λq9=>
 (EU N (Sh.len q9) N 0 q9).bind λl=>
 some l
end RC
namespace RC
def ED (i5:Int)(p0:(List AN)):Nat->Int->(List De)->Option (List De)
 | 0,_,_=>none
 | n+1,k17,l18=>
  (Sh.get p0 i5).bind λc25=>
  if (decide (k17<(Sh.len c25.cons)))=true then
   (Sh.get c25.cons k17).bind λyI=>
   (FJ yI.fields).bind λuz=>
   (Sh.app l18 [De.mk uz] 24).bind λl30=>
   ED i5 p0 n (Sh.w (k17+1)) l30
  else
   some l18
def Ex (N:Nat)(p0:(List AN)):Nat->Int->(List AN)->Option (List AN)
 | 0,_,_=>none
 | n+1,i5,l6=>
  if (decide (i5<(Sh.len p0)))=true then
   (ED i5 p0 N 0 []).bind λyG=>
   (Sh.get p0 i5).bind λzi=>
   (Sh.app l6 [AN.mk zi.from_ zi.to yG] 40).bind λl22=>
   Ex N p0 n (Sh.w (i5+1)) l22
  else
   some l6
def Io (N:Nat)(p0:(List AN)):Option (List AN):=
 (Ex N p0 N 0 []).bind λl7=>
 some l7
end RC
namespace RC
def Ib (p0:(List Int)):Option ((List Int)×Int):=
 (
  if (decide (2000<(Sh.len p0)))=true then
   (Sh.sl p0 0 2000).bind λl8=>
   some l8
  else
   some p0
 ).bind λcode3=>
 some (code3,0)
def FG (p0:(List Int)):Option (De):=
 some (De.mk p0)
def BB (qT:(List Int))(qX p1:Int):Option (Int×Int):=
 (
  if (decide (p1<1))=true then
   some true
  else
   some (decide ((Sh.len qT)=0))
 ).bind λt5=>
 if t5=true then
  some (0,Sh.w (qX+1))
 else
 if (decide ((Sh.w ((Sh.w (qX+1))-1))<(Sh.len qT)))=true then
  (Sh.get qT (Sh.w ((Sh.w (qX+1))-1))).bind λsm=>
  (Sh.rem (Sh.wk .i64 sm) p1).bind λd15=>
  some (d15,Sh.w (qX+1))
 else
  (Sh.rem (Sh.w ((Sh.w (qX+1))-1)) (Sh.len qT)).bind λd17=>
  (Sh.get qT d17).bind λsn=>
  (Sh.rem (Sh.w ((Sh.w ((Sh.w ((Sh.w (qX+1))-1))*7))+3)) (Sh.len qT)).bind λd19=>
  (Sh.get qT d19).bind λvV=>
  (Sh.quo (Sh.w ((Sh.w (qX+1))-1)) (Sh.len qT)).bind λd21=>
  (Sh.rem (Sh.xor (Sh.w ((Sh.w ((Sh.w ((Sh.w ((Sh.wk .i64 sn)*131))+(Sh.w ((Sh.wk .i64 vV)*1117))))+(Sh.w ((Sh.w ((Sh.w (qX+1))-1))*29))))+(Sh.w (d21*53)))) (Sh.w (Int.tdiv (Sh.w ((Sh.w ((Sh.w ((Sh.w ((Sh.wk .i64 sn)*131))+(Sh.w ((Sh.wk .i64 vV)*1117))))+(Sh.w ((Sh.w ((Sh.w (qX+1))-1))*29))))+(Sh.w (d21*53)))) 64))) p1).bind λd24=>
  some (d24,Sh.w (qX+1))
def HQ (qT:(List Int))(qX:Int):Option ((List AN)×Int):=
 (FG ([]:List Int)).bind λq3=>
 (FG [(0:Int),1]).bind λq4=>
 (FG ([]:List Int)).bind λq6=>
 (FG [(3:Int),0,3]).bind λq7=>
 (FG [(1:Int),3]).bind λq9=>
 (FG [(1:Int),1,0]).bind λri=>
 (FG [(0:Int)]).bind λsx=>
 (FG [(3:Int)]).bind λsG=>
 (BB qT qX 5).bind λrp=>
 (
  if (decide (rp.1<4))=true then
   (Sh.get ([AN.mk 0 0 [q9],AN.mk 1 0 [],AN.mk 0 0 [ri,sx,sG],AN.mk 0 1 []]) rp.1).bind λwV=>
   (Sh.app ([AN.mk 0 0 [q3,q4],AN.mk 0 0 [],AN.mk 0 0 [q6,q7]]) [wV] 40).bind λl23=>
   some l23
  else
   some ([AN.mk 0 0 [q3,q4],AN.mk 0 0 [],AN.mk 0 0 [q6,q7]])
 ).bind λl17=>
 some (l17,rp.2)
def E1 (p0:(List Int))(p1:Int):Option (Ac):=
 some (Ac.mk p0 p1 (AE.mk 0 0 []))
def CC (qT:(List Int))(qX:Int)(p1:(List Int)):Option (Int×Int):=
 (BB qT qX (Sh.len p1)).bind λq3=>
 (Sh.get p1 q3.1).bind λc4=>
 some (c4,q3.2)
def Ez (p0:(List Int))(p1:Int):Nat->Int->Option ((Int) ⊕ (Unit))
 | 0,_=>none
 | n+1,i4=>
  if (decide (i4<(Sh.len p0)))=true then
   (Sh.get p0 i4).bind λtY=>
   if (decide (tY=p1))=true then
    some (Sum.inl i4)
   else
    Ez p0 p1 n (Sh.w (i4+1))
  else
   some (Sum.inr ())
def Jw (N:Nat)(p0:(List Int))(p1:Int):Option (Int):=
 Sh.cont (Ez p0 p1 N 0) (id) λ()=>
 some (-1)
def FK (p0:Int):Option (AE):=
 some (AE.mk 0 p0 [])
def D1 (p0:(List Int))(p1:Int):Nat->Int->(List Int)->Option (List Int)
 | 0,_,_=>none
 | n+1,i5,l6=>
  if (decide (i5<(Sh.len p0)))=true then
   (
    Option.bind (Sh.get p0 i5) λsb=>
    if (decide (sb=p1))=true then
     (Sh.app l6 [i5] 8).bind λyG=>
     some yG
    else
     some l6
   ).bind λrq=>
   D1 p0 p1 n (Sh.w (i5+1)) rq
  else
   some l6
def IG (N:Nat)(p0:(List Int))(p1:Int):Option (List Int):=
 (D1 p0 p1 N 0 []).bind λl7=>
 some l7
def Ed (N:Nat)(p0:AP)(p1:Int):Nat->Int->(List Int)->Option (List Int)
 | 0,_,_=>none
 | n+1,f5,l6=>
  if (decide (f5<(Sh.len p0.funcs)))=true then
   (
    Option.bind (Sh.get p0.funcs f5) λsb=>
    (
     if (decide (0<(Sh.len sb.params)))=true then
      (Sh.get sb.params (Sh.w ((Sh.len sb.params)-1))).bind λc24=>
      (Iq N p0.decls c24 sb.result).bind λuN=>
      some (decide (uN=p1))
     else
      some false
    ).bind λt19=>
    if t19=true then
     (Sh.app l6 [f5] 8).bind λl22=>
     some l22
    else
     some l6
   ).bind λrq=>
   Ed N p0 p1 n (Sh.w (f5+1)) rq
  else
   some l6
def IF (N:Nat)(p0:AP)(p1:Int):Option (List Int):=
 (Ed N p0 p1 N 0 []).bind λl7=>
 some l7
def Gw (N:Nat)(p0:AP)(p1:(List Int))(p2:Int):Option (Bool):=
 (
  Option.bind (G0 p0.decls p2) λq5=>
  if (!q5)=true then
   some true
  else
   (IF N p0 p2).bind λq7=>
   if (decide (0<(Sh.len q7)))=true then
    some true
   else
    (KA N p1 p2).bind λq9=>
    some q9
 ).bind λt3=>
 some t3
def Ca (p0:Int):Option (AE):=
 some (AE.mk 12 p0 [])
def Bj (p0 p1:Int)(p2:(List AE)):Option (AE):=
 some (AE.mk p0 p1 p2)
def It (qT:(List Int))(qX:Int):Option (Int×Int):=
 (BB qT qX 6).bind λq3=>
 (BB qT q3.2 6).bind λq4=>
 (BB qT q4.2 40).bind λq5=>
 (CC qT q5.2 [q3.1,q4.1,0,1,2,-1,3,q5.1,999,-998]).bind λq6=>
 some (q6.1,q6.2)
def C9 (qT:(List Int))(s1:(List Ac))(qV:(List AN))(tF:(List Int))(qf:(List Int)->Int->(List Ac)->(List AN)->Int->Option (AE×Int)):Nat->Int->Int->(List AE)->Option (Int×(List AE))
 | 0,_,_,_=>none
 | n+1,i21,f22,l23=>
  if (decide (i21<(Sh.len tF)))=true then
   (Sh.get tF i21).bind λxe=>
   (qf qT f22 s1 qV xe).bind λsM=>
   (Sh.app l23 [sM.1] 40).bind λl35=>
   C9 qT s1 qV tF qf n (Sh.w (i21+1)) sM.2 l35
  else
   some (f22,l23)
def Dv (c59:Ac)(qT:(List Int))(s1:(List Ac))(qV:(List AN))(qf:(List Int)->Int->(List Ac)->(List AN)->Int->Option (AE×Int)):Nat->Int->Int->(List AE)->Option (Int×(List AE))
 | 0,_,_,_=>none
 | n+1,i63,f64,l65=>
  if (decide ((Sh.w (i63+1))<(Sh.len c59.params)))=true then
   (Sh.get c59.params i63).bind λc75=>
   (qf qT f64 s1 qV c75).bind λq76=>
   (Sh.app l65 [q76.1] 40).bind λl77=>
   Dv c59 qT s1 qV qf n (Sh.w (i63+1)) q76.2 l77
  else
   some (f64,l65)
def IA (N:Nat)(qf:(List Int)->Int->(List Ac)->(List AN)->Int->Option (AE×Int))(qT:(List Int))(qX:Int)(s1:(List Ac))(qV:(List AN))(p2:Int):Option (AE×Int):=
 (GK N qV p2).bind λq3=>
 if (decide (0<(Sh.len q3)))=true then
  (Sh.get q3 0).bind λc8=>
  (
   Option.bind (
    if (decide (1<(Sh.len q3)))=true then
     (BB qT qX 4).bind λwZ=>
     some (decide (wZ.1=0),wZ.2)
    else
     some (false,qX)
   ) λ(t41,f42)=>
   if t41=true then
    (Sh.get q3 1).bind λc45=>
    some (c45,f42)
   else
    some (c8,f42)
  ).bind λ(vD,f11)=>
  (
   Option.bind (Bw N qV vD) λxf=>
   (KA N xf p2).bind λtq=>
   if tq=true then
    some c8
   else
    some vD
  ).bind λsm=>
  (Bw N qV sm).bind λtF=>
  (C9 qT s1 qV tF qf N 0 f11 []).bind λ(f24,l25)=>
  (Bj 6 sm l25).bind λsq=>
  some (sq,f24)
 else
  (IF N (AP.mk qV s1) p2).bind λuY=>
  (
   if (decide (0<p2))=true then
    some (decide (0<(Sh.len uY)))
   else
    some false
  ).bind λt52=>
  if t52=true then
   (BB qT qX (Sh.len uY)).bind λvz=>
   (Sh.get uY vz.1).bind λwF=>
   (Sh.get s1 wF).bind λc59=>
   (Dv c59 qT s1 qV qf N 0 vz.2 []).bind λ(f66,l67)=>
   (Bj 10 wF l67).bind λq70=>
   some (q70,f66)
  else
   (It qT qX).bind λq79=>
   (FK q79.1).bind λq80=>
   some (q80,q79.2)
def Dg (N:Nat):Nat->(List Int)->Int->(List Ac)->(List AN)->Int->Option (AE×Int)
 | 0,_,_,_,_,_=>none
 | n+1,qT,qX,s1,qV,p2=>IA N (Dg N n) qT qX s1 qV p2
def Mn (N:Nat)(qT:(List Int))(qX:Int)(s1:(List Ac))(qV:(List AN))(p2:Int):Option (AE×Int):=Dg N N qT qX s1 qV p2
def Hm (N:Nat)(qT:(List Int))(qX:Int)(s1:(List Ac))(qV:(List AN))(p2:(List Int))(p3:Int):Option (AE×Int):=
 (IG N p2 p3).bind λq3=>
 (
  if (decide (0<(Sh.len q3)))=true then
   (BB qT qX 6).bind λsD=>
   if (decide (0<sD.1))=true then
    some (true,sD.2)
   else
    (Gw N (AP.mk qV s1) ([]:List Int) p3).bind λsR=>
    some (!sR,sD.2)
  else
   some (false,qX)
 ).bind λ(t6,f7)=>
 if t6=true then
  (BB qT f7 (Sh.len q3)).bind λsx=>
  (Sh.get q3 sx.1).bind λtY=>
  (Ca tY).bind λrV=>
  some (rV,sx.2)
 else
  (Mn N qT f7 s1 qV p3).bind λrp=>
  some (rp.1,rp.2)
def Jx (N:Nat)(qT:(List Int))(qX:Int)(s1:(List Ac))(qV:(List AN))(p2:(List Int)):Option (Int×Int):=
 (CC qT qX [(1:Int),1,3,0,2,4,3]).bind λq3=>
 (
  if (decide ((Sh.len qV)<q3.1))=true then
   some true
  else
   (Gw N (AP.mk qV s1) p2 q3.1).bind λsG=>
   some (!sG)
 ).bind λt6=>
 if t6=true then
  some (1,q3.2)
 else
  some (q3.1,q3.2)
def FV (qT:(List Int))(s1:(List Ac))(qV:(List AN))(p2:(List Int))(p3:(List Int))(p4:Int)(qZ:(List Int)->Int->(List Ac)->(List AN)->(List Int)->Int->Int->Option (AE×Int)):Nat->Int->Int->(List AE)->Option (Int×(List AE))
 | 0,_,_,_=>none
 | n+1,i5,f6,l7=>
  if (decide (i5<(Sh.len p3)))=true then
   (Sh.get p3 i5).bind λsV=>
   (Sh.quo p4 (Sh.len p3)).bind λd17=>
   (qZ qT f6 s1 qV p2 sV d17).bind λtF=>
   (Sh.app l7 [tF.1] 40).bind λyG=>
   FV qT s1 qV p2 p3 p4 qZ n (Sh.w (i5+1)) tF.2 yG
  else
   some (f6,l7)
def Fp (N:Nat)(qZ:(List Int)->Int->(List Ac)->(List AN)->(List Int)->Int->Int->Option (AE×Int))(qT:(List Int))(qX:Int)(s1:(List Ac))(qV:(List AN))(p2:(List Int))(p3:(List Int))(p4:Int):Option ((List AE)×Int):=
 (FV qT s1 qV p2 p3 p4 qZ N 0 qX []).bind λ(f8,l9)=>
 some (l9,f8)
def EA (N:Nat)(qT:(List Int))(s1:(List Ac))(qV:(List AN))(p2:(List Int))(p3 p4:Int)(q8:(List Int))(qZ:(List Int)->Int->(List Ac)->(List AN)->(List Int)->Int->Int->Option (AE×Int)):Nat->Int->Int->(List AE)->Option (Int×(List AE))
 | 0,_,_,_=>none
 | n+1,i13,f14,xG=>
  if (decide (i13<(Sh.len q8)))=true then
   (Sh.get q8 i13).bind λc25=>
   (Bw N qV c25).bind λvX=>
   (Ef p2 vX).bind λtd=>
   (Sh.quo (Sh.w (p4-2)) (Sh.len q8)).bind λd28=>
   (qZ qT f14 s1 qV td p3 d28).bind λuz=>
   (Sh.app xG [uz.1] 40).bind λl30=>
   EA N qT s1 qV p2 p3 p4 q8 qZ n (Sh.w (i13+1)) uz.2 l30
  else
   some (f14,xG)
def JN (N:Nat)(qZ:(List Int)->Int->(List Ac)->(List AN)->(List Int)->Int->Int->Option (AE×Int))(qT:(List Int))(qX:Int)(s1:(List Ac))(qV:(List AN))(p2:(List Int))(p3 p4:Int):Option (AE×Int):=
 (CC qT qX [(1:Int),1,3,4]).bind λq3=>
 (
  Option.bind (
   if (decide ((Sh.len qV)<q3.1))=true then
    some true
   else
    (G0 qV q3.1).bind λxD=>
    some xD
  ) λt32=>
  if t32=true then
   some 1
  else
   some q3.1
 ).bind λd5=>
 (GK N qV d5).bind λq8=>
 (Hm N qT q3.2 s1 qV p2 d5).bind λri=>
 (EA N qT s1 qV p2 p3 p4 q8 qZ N 0 ri.2 [ri.1]).bind λ(f16,l17)=>
 (Bj 8 d5 l17).bind λsU=>
 some (sU,f16)
def Ej (N:Nat)(sb:Ac)(p0:AP):Nat->Bool->Int->Option (Bool)
 | 0,_,_=>none
 | n+1,ok20,i21=>
  if (decide (i21<(Sh.len sb.params)))=true then
   (
    if ok20=true then
     (Sh.get sb.params i21).bind λza=>
     (Gw N p0 ([]:List Int) za).bind λuA=>
     some uA
    else
     some false
   ).bind λok31=>
   Ej N sb p0 n ok31 (Sh.w (i21+1))
  else
   some ok20
def Ei (N:Nat)(p0:AP)(p1:Int):Nat->Int->(List Int)->Option (List Int)
 | 0,_,_=>none
 | n+1,f5,l6=>
  if (decide (f5<(Sh.len p0.funcs)))=true then
   (
    Option.bind (Sh.get p0.funcs f5) λsb=>
    (Ej N sb p0 N (decide (sb.result=p1)) 0).bind λok22=>
    if ok22=true then
     (Sh.app l6 [f5] 8).bind λl26=>
     some l26
    else
     some l6
   ).bind λrq=>
   Ei N p0 p1 n (Sh.w (f5+1)) rq
  else
   some l6
def JV (N:Nat)(p0:AP)(p1:Int):Option (List Int):=
 (Ei N p0 p1 N 1 []).bind λl7=>
 some l7
def Ec (N:Nat)(qT:(List Int))(s1:(List Ac))(qV:(List AN))(p2:(List Int))(p3 p4:Int)(sM:Int×Int)(qZ:(List Int)->Int->(List Ac)->(List AN)->(List Int)->Int->Int->Option (AE×Int)):Nat->Int->Option ((AE×Int) ⊕ (Unit))
 | 0,_=>none
 | n+1,vY=>
  if (decide (vY<=(Sh.len qV)))=true then
   (
    Option.bind (G0 qV vY) λwA=>
    if wA=true then
     (Sh.get qV (Sh.w (vY-1))).bind λc55=>
     if (decide (c55.to=p3))=true then
      (Gw N (AP.mk qV s1) p2 vY).bind λyj=>
      some yj
     else
      some false
    else
     some false
   ).bind λt45=>
   if t45=true then
    (Hm N qT sM.2 s1 qV p2 vY).bind λuY=>
    (Sh.get qV (Sh.w (vY-1))).bind λvU=>
    (qZ qT uY.2 s1 qV p2 vU.from_ (Sh.w (p4-2))).bind λq51=>
    (Bj 11 0 [uY.1,q51.1]).bind λq52=>
    some (Sum.inl (q52,q51.2))
   else
    Ec N qT s1 qV p2 p3 p4 sM qZ n (Sh.w (vY+1))
  else
   some (Sum.inr ())
def JM (N:Nat)(qZ:(List Int)->Int->(List Ac)->(List AN)->(List Int)->Int->Int->Option (AE×Int))(qT:(List Int))(qX:Int)(s1:(List Ac))(qV:(List AN))(p2:(List Int))(p3 p4:Int):Option (AE×Int):=
 Sh.cont (
  (BB qT qX 4).bind λsM=>
  if (decide (sM.1=0))=true then
   Sh.cont (Ec N qT s1 qV p2 p3 p4 sM qZ N 1) (λx=>Sum.inl x) λ()=>
   some (Sum.inr sM.2)
  else
   some (Sum.inr sM.2)
 ) (id) λf3=>
 (GK N qV p3).bind λq6=>
 if (decide (0<(Sh.len q6)))=true then
  (BB qT f3 (Sh.len q6)).bind λsx=>
  (Sh.get q6 sx.1).bind λtY=>
  (Bw N qV tY).bind λuX=>
  (Fp N qZ qT sx.2 s1 qV p2 uX (Sh.w (p4-1))).bind λrp=>
  (Bj 6 tY rp.1).bind λsa=>
  some (sa,rp.2)
 else
 if (decide (0<p3))=true then
  (Hm N qT f3 s1 qV p2 p3).bind λrG=>
  some (rG.1,rG.2)
 else
  (BB qT f3 3).bind λwD=>
  if (decide (wD.1=0))=true then
   (Fp N qZ qT wD.2 s1 qV p2 [(0:Int)] (Sh.w (p4-1))).bind λtd=>
   (Bj 5 0 td.1).bind λsq=>
   some (sq,td.2)
  else
   (CC qT wD.2 [(1:Int),2,3,4]).bind λvC=>
   (Fp N qZ qT vC.2 s1 qV p2 [(0:Int),0] (Sh.w (p4-1))).bind λyC=>
   (Bj vC.1 0 yC.1).bind λvB=>
   some (vB,yC.2)
def LX (N:Nat)(qZ:(List Int)->Int->(List Ac)->(List AN)->(List Int)->Int->Int->Option (AE×Int))(qT:(List Int))(qX:Int)(s1:(List Ac))(qV:(List AN))(p2:(List Int))(p3 p4:Int):Option (AE×Int):=
 if (decide (p4<3))=true then
  (Hm N qT qX s1 qV p2 p3).bind λq6=>
  some (q6.1,q6.2)
 else
  Sh.cont (
   (BB qT qX 12).bind λrV=>
   if (decide (rV.1=0))=true then
    (Hm N qT rV.2 s1 qV p2 p3).bind λsD=>
    some (Sum.inl (sD.1,sD.2))
   else
    (
     if (decide (rV.1=1))=true then
      some true
     else
      some (decide (rV.1=2))
    ).bind λt19=>
    if t19=true then
     (Jx N qT rV.2 s1 qV p2).bind λsW=>
     (qZ qT sW.2 s1 qV p2 sW.1 (Sh.w (Int.tdiv p4 2))).bind λuN=>
     (Ef p2 [sW.1]).bind λvX=>
     (qZ qT uN.2 s1 qV vX p3 (Sh.w (Int.tdiv p4 2))).bind λtd=>
     (Bj 13 0 [uN.1,td.1]).bind λsq=>
     some (Sum.inl (sq,td.2))
    else
    if (decide (rV.1=3))=true then
     (Fp N qZ qT rV.2 s1 qV p2 [0,p3,p3] (Sh.w (p4-1))).bind λvB=>
     (Bj 7 0 vB.1).bind λuZ=>
     some (Sum.inl (uZ,vB.2))
    else
     (
      if (decide (rV.1=4))=true then
       some true
      else
      if (decide (rV.1=5))=true then
       some true
      else
       some (decide (rV.1=6))
     ).bind λt35=>
     if t35=true then
      (JN N qZ qT rV.2 s1 qV p2 p3 p4).bind λvA=>
      some (Sum.inl (vA.1,vA.2))
     else
      (
       if (decide (rV.1=7))=true then
        some true
       else
        some (decide (rV.1=8))
      ).bind λt41=>
      if t41=true then
       (JV N (AP.mk qV s1) p3).bind λxE=>
       if (decide (0<(Sh.len xE)))=true then
        (BB qT rV.2 (Sh.len xE)).bind λuY=>
        (Sh.get xE uY.1).bind λvU=>
        (Sh.get s1 vU).bind λc52=>
        (Fp N qZ qT uY.2 s1 qV p2 c52.params (Sh.w (p4-1))).bind λwA=>
        (Bj 9 vU wA.1).bind λxF=>
        some (Sum.inl (xF,wA.2))
       else
        some (Sum.inr rV.2)
      else
       some (Sum.inr rV.2)
  ) (id) λf8=>
  (JM N qZ qT f8 s1 qV p2 p3 p4).bind λsx=>
  some (sx.1,sx.2)
def JO (N:Nat):Nat->(List Int)->Int->(List Ac)->(List AN)->(List Int)->Int->Int->Option (AE×Int)
 | 0,_,_,_,_,_,_,_=>none
 | n+1,qT,qX,s1,qV,p2,p3,p4=>LX N (JO N n) qT qX s1 qV p2 p3 p4
def G5 (N:Nat)(qT:(List Int))(qX:Int)(s1:(List Ac))(qV:(List AN))(p2:(List Int))(p3 p4:Int):Option (AE×Int):=JO N N qT qX s1 qV p2 p3 p4
def Fh (qT:(List Int)):Nat->Int->Int->Int->Int->(List AE)->Option (Int×Int×Int×(List AE))
 | 0,_,_,_,_,_=>none
 | n+1,n21,f22,f23,f24,f25=>
  if (decide (0<n21))=true then
   (It qT f22).bind λxD=>
   (FK xD.1).bind λxf=>
   (Bj 6 1 [xf,AE.mk f23 f24 f25]).bind λtq=>
   Fh qT n (Sh.w (n21-1)) xD.2 tq.op tq.num tq.kids
  else
   some (f22,f23,f24,f25)
def Jy (N:Nat)(qT:(List Int))(qX p1:Int):Option (AE×Int):=
 (Bj 6 0 ([]:List AE)).bind λq3=>
 if (decide (p1=3))=true then
  (Bj 6 2 ([]:List AE)).bind λq8=>
  (BB qT qX 9).bind λri=>
  (FK ri.1).bind λsx=>
  (Bj 6 3 [q8,sx,q8]).bind λsG=>
  (BB qT ri.2 9).bind λuX=>
  (FK uX.1).bind λrp=>
  (Bj 6 3 [sG,rp,q8]).bind λsa=>
  some (sa,uX.2)
 else
  (BB qT qX 3).bind λsU=>
  (Fh qT N (Sh.w (1+sU.1)) sU.2 q3.op q3.num q3.kids).bind λ(f26,f27,f28,f29)=>
  some (AE.mk f27 f28 f29,f26)
def JS (N:Nat)(qT:(List Int))(qX:Int)(s1:(List Ac))(qV:(List AN)):Option (AE×Int):=
 (CC qT qX [(1:Int),1,3]).bind λq3=>
 (G5 N qT q3.2 s1 qV [q3.1] 0 16).bind λq5=>
 (
  Option.bind (BB qT q5.2 3) λsa=>
  if (decide (sa.1=0))=true then
   (Bj 5 0 [q5.1]).bind λtF=>
   some (sa.2,tF.op,tF.num,tF.kids)
  else
   some (sa.2,q5.1.op,q5.1.num,q5.1.kids)
 ).bind λ(f7,f8,f9,f10)=>
 (Jy N qT f7 q3.1).bind λrV=>
 (Bj 13 0 [rV.1,AE.mk f8 f9 f10]).bind λuX=>
 some (uX,rV.2)
def En (c3:Ac)(qT:(List Int))(p3:Int):Nat->Int->Int->(List AE)->Option (Int×(List AE))
 | 0,_,_,_=>none
 | n+1,i10,f11,wY=>
  if (decide (i10<(Sh.len c3.params)))=true then
   (
    if (decide (i10=p3))=true then
     (Ca (Sh.w ((Sh.len c3.params)+1))).bind λq67=>
     (Sh.app wY [q67] 40).bind λzb=>
     some (f11,zb)
    else
     (
      Option.bind (Sh.get c3.params i10) λc80=>
      if (decide (c80=0))=true then
       (BB qT f11 2).bind λq82=>
       some (decide (q82.1=0),q82.2)
      else
       some (false,f11)
     ).bind λ(t70,f71)=>
     if t70=true then
      (Ca i10).bind λq74=>
      (Ca (Sh.len c3.params)).bind λq75=>
      (Bj 1 0 [q74,q75]).bind λq76=>
      (Sh.app wY [q76] 40).bind λl77=>
      some (f71,l77)
     else
      (Ca i10).bind λq78=>
      (Sh.app wY [q78] 40).bind λl79=>
      some (f71,l79)
   ).bind λ(f62,l63)=>
   En c3 qT p3 n (Sh.w (i10+1)) f62 l63
  else
   some (f11,wY)
def JH (N:Nat)(qT:(List Int))(qX:Int)(s1:(List Ac))(qV:(List AN))(p2 p3:Int):Option (AE×Int):=
 (Sh.get s1 p2).bind λc3=>
 (Ef c3.params [(0:Int),1]).bind λq6=>
 (En c3 qT p3 N 0 qX []).bind λ(f13,rq)=>
 (Bj 9 p2 rq).bind λsD=>
 (
  Option.bind (
   if (decide (c3.result=1))=true then
    (BB qT f13 5).bind λyj=>
    some (decide (0<yj.1),yj.2)
   else
    some (false,f13)
  ) λ(t30,f31)=>
  if t30=true then
   (G5 N qT f31 s1 qV q6 0 4).bind λuA=>
   (
    Option.bind (
     if (decide (1<(Sh.len c3.params)))=true then
      (Sh.get c3.params 0).bind λvU=>
      some (decide (vU=2))
     else
      some false
    ) λt43=>
    if t43=true then
     (Ca 0).bind λq46=>
     (Ca (Sh.len c3.params)).bind λwZ=>
     (Bj 11 0 [q46,wZ]).bind λyE=>
     some (yE.op,yE.num,yE.kids)
    else
     some (uA.1.op,uA.1.num,uA.1.kids)
   ).bind λ(f37,f38,f39)=>
   (Bj 6 1 [AE.mk f37 f38 f39,sD]).bind λwU=>
   some (uA.2,wU.op,wU.num,wU.kids)
  else
  if (decide (c3.result=0))=true then
   (CC qT f31 [(1:Int),2]).bind λwA=>
   (G5 N qT wA.2 s1 qV q6 0 4).bind λxF=>
   (Bj wA.1 0 [xF.1,sD]).bind λq55=>
   some (xF.2,q55.op,q55.num,q55.kids)
  else
   some (f31,sD.op,sD.num,sD.kids)
 ).bind λ(f20,f21,f22,f23)=>
 (Ca p3).bind λvX=>
 (G5 N qT f20 s1 qV c3.params c3.result 4).bind λtd=>
 (Bj 8 1 [vX,td.1,AE.mk f21 f22 f23]).bind λsq=>
 some (sq,td.2)
def Eb (c3:Ac):Nat->Int->(List AE)->(List AE)->Option ((List AE)×(List AE))
 | 0,_,_,_=>none
 | n+1,i11,wY,wW=>
  if (decide (i11<(Sh.len c3.params)))=true then
   (Ca i11).bind λwZ=>
   (Sh.app wY [wZ] 40).bind λl48=>
   (Ca i11).bind λuY=>
   (Sh.app wW [uY] 40).bind λl50=>
   Eb c3 n (Sh.w (i11+1)) l48 l50
  else
   some (wY,wW)
def JE (N:Nat)(qT:(List Int))(qX:Int)(s1:(List Ac))(qV:(List AN))(p2:Int):Option (AE×Int):=
 (Sh.get s1 p2).bind λc3=>
 (Ca (Sh.len c3.params)).bind λq6=>
 (Ca (Sh.w ((Sh.len c3.params)+2))).bind λq8=>
 (Eb c3 N 1 [q6] [q8]).bind λ(rq,xG)=>
 (Bj 9 p2 rq).bind λtF=>
 (Bj 9 p2 xG).bind λsU=>
 (Ef c3.params [(3:Int),0,3]).bind λtz=>
 (G5 N qT qX s1 qV tz 0 4).bind λsW=>
 (Bj 1 0 [sW.1,sU]).bind λwD=>
 (Bj 1 0 [tF,wD]).bind λuN=>
 (
  if (decide (c3.result=3))=true then
   (Ef c3.params [(3:Int),0,3]).bind λtq=>
   (G5 N qT sW.2 s1 qV tq 0 4).bind λvA=>
   (Ca (Sh.w ((Sh.len c3.params)+2))).bind λwE=>
   (Bj 6 3 [tF,vA.1,wE]).bind λwU=>
   some (vA.2,wU.op,wU.num,wU.kids)
  else
   some (sW.2,uN.op,uN.num,uN.kids)
 ).bind λ(f27,f28,f29,f30)=>
 (Ca 0).bind λuZ=>
 (G5 N qT f27 s1 qV c3.params c3.result 4).bind λsM=>
 (Bj 8 3 [uZ,sM.1,AE.mk f28 f29 f30]).bind λuA=>
 some (uA,sM.2)
def Eg (N:Nat)(c3:Ac)(qT:(List Int))(s1:(List Ac))(qV:(List AN)):Nat->Int->Int->(List AE)->Option (Int×(List AE))
 | 0,_,_,_=>none
 | n+1,i10,f11,wY=>
  if (decide (i10<(Sh.len c3.params)))=true then
   (Sh.get c3.params i10).bind λze=>
   (Hm N qT f11 s1 qV c3.params ze).bind λwE=>
   (Sh.app wY [wE.1] 40).bind λyn=>
   Eg N c3 qT s1 qV n (Sh.w (i10+1)) wE.2 yn
  else
   some (f11,wY)
def JC (N:Nat)(qT:(List Int))(qX:Int)(s1:(List Ac))(qV:(List AN))(p2:Int):Option (AE×Int):=
 (Sh.get s1 p2).bind λc3=>
 (Ca 0).bind λq5=>
 (FK 1).bind λq6=>
 (Bj 2 0 [q5,q6]).bind λq7=>
 (Eg N c3 qT s1 qV N 1 qX [q7]).bind λ(f13,rq)=>
 (Bj 9 p2 rq).bind λsD=>
 (
  if (decide (c3.result=1))=true then
   (G5 N qT f13 s1 qV c3.params 0 3).bind λuZ=>
   (Bj 6 1 [uZ.1,sD]).bind λsM=>
   some (uZ.2,sM.op,sM.num,sM.kids)
  else
   some (f13,sD.op,sD.num,sD.kids)
 ).bind λ(f19,f20,f21,f22)=>
 (FK 0).bind λuN=>
 (Ca 0).bind λvX=>
 (Bj 4 0 [uN,vX]).bind λtd=>
 (G5 N qT f19 s1 qV c3.params c3.result 4).bind λuz=>
 (Bj 7 0 [td,AE.mk f20 f21 f22,uz.1]).bind λvC=>
 some (vC,uz.2)
def GG (N:Nat)(qT:(List Int))(s1:(List Ac))(qV:(List AN))(p2:(List Int))(p3:Int):Nat->Int->Int->Int->Int->(List AE)->Option (Int×Int×Int×(List AE))
 | 0,_,_,_,_,_=>none
 | n+1,budget5,f6,f7,f8,f9=>
  (
   Option.bind (G1 N (AE.mk f7 f8 f9)) λsW=>
   if (decide (sW<0))=true then
    some (decide (2<budget5))
   else
    some false
  ).bind λt18=>
  if t18=true then
   (G5 N qT f6 s1 qV p2 p3 (Sh.w (Int.tdiv budget5 2))).bind λtz=>
   GG N qT s1 qV p2 p3 n (Sh.w (Int.tdiv budget5 2)) tz.2 tz.1.op tz.1.num tz.1.kids
  else
   some (f6,f7,f8,f9)
def Ir (N:Nat)(qT:(List Int))(qX:Int)(s1:(List Ac))(qV:(List AN))(p2:(List Int))(p3 p4:Int):Option (AE×Int):=
 (G5 N qT qX s1 qV p2 p3 p4).bind λq3=>
 (GG N qT s1 qV p2 p3 N p4 q3.2 q3.1.op q3.1.num q3.1.kids).bind λ(f10,f11,f12,f13)=>
 some (AE.mk f11 f12 f13,f10)
def Ko (N:Nat)(qT:(List Int))(qX:Int)(s1:(List Ac))(qV:(List AN))(p2:Int):Option (AE×Int):=
 (Sh.get s1 p2).bind λc3=>
 (Jw N c3.params 1).bind λq6=>
 (FK 0).bind λq8=>
 (BB qT qX 4).bind λri=>
 (
  Option.bind (
   if (decide (ri.1<3))=true then
    some (decide (p2=0))
   else
    some false
  ) λt25=>
  if t25=true then
   (JS N qT ri.2 s1 qV).bind λsq=>
   some (sq.2,sq.1.op,sq.1.num,sq.1.kids)
  else
   (
    if (decide (ri.1<3))=true then
     if (decide (0<=q6))=true then
      if (decide (c3.result=0))=true then
       some true
      else
       some (decide (c3.result=1))
     else
      some false
    else
     some false
   ).bind λt30=>
   if t30=true then
    (JH N qT ri.2 s1 qV p2 q6).bind λuZ=>
    some (uZ.2,uZ.1.op,uZ.1.num,uZ.1.kids)
   else
    (
     if (decide (ri.1<3))=true then
      if (decide (0<(Sh.len c3.params)))=true then
       (Sh.get c3.params 0).bind λc52=>
       if (decide (c52=3))=true then
        if (decide (c3.result=0))=true then
         some true
        else
         some (decide (c3.result=3))
       else
        some false
      else
       some false
     else
      some false
    ).bind λt35=>
    if t35=true then
     (JE N qT ri.2 s1 qV p2).bind λtq=>
     some (tq.2,tq.1.op,tq.1.num,tq.1.kids)
    else
     (
      if (decide (ri.1<3))=true then
       if (decide (0<(Sh.len c3.params)))=true then
        (Sh.get c3.params 0).bind λc47=>
        if (decide (c47=0))=true then
         if (decide (c3.result=0))=true then
          some true
         else
          some (decide (c3.result=1))
        else
         some false
       else
        some false
      else
       some false
     ).bind λt40=>
     if t40=true then
      (JC N qT ri.2 s1 qV p2).bind λyp=>
      some (yp.2,yp.1.op,yp.1.num,yp.1.kids)
     else
      (Ir N qT ri.2 s1 qV c3.params c3.result 18).bind λxg=>
      some (xg.2,xg.1.op,xg.1.num,xg.1.kids)
 ).bind λ(f12,f13,f14,f15)=>
 (G1 N (AE.mk f13 f14 f15)).bind λsR=>
 if (decide (sR<0))=true then
  (Ir N qT f12 s1 qV c3.params c3.result 12).bind λtz=>
  some (tz.1,tz.2)
 else
  some (AE.mk f13 f14 f15,f12)
def EB (N:Nat)(qT:(List Int))(q3:(List AN)×Int):Nat->Int->Int->(List Ac)->Option (Int×(List Ac))
 | 0,_,_,_=>none
 | n+1,f37,f38,l39=>
  if (decide (0<=f37))=true then
   (Ko N qT f38 l39 q3.1 f37).bind λuY=>
   (Sh.get l39 f37).bind λvU=>
   EB N qT q3 n (Sh.w (f37-1)) uY.2 (Sh.put l39 f37 (Ac.mk vU.params vU.result uY.1))
  else
   some (f38,l39)
def He (N:Nat)(qT:(List Int))(qX:Int):Option (AP×Int):=
 (HQ qT qX).bind λq3=>
 (E1 [(1:Int)] 0).bind λq5=>
 (E1 [(1:Int),1] 1).bind λq6=>
 (E1 [(1:Int)] 1).bind λq7=>
 (E1 [(1:Int),0] 1).bind λq8=>
 (E1 [(2:Int),1] 1).bind λq9=>
 (E1 [(1:Int),1] 0).bind λri=>
 (E1 [(3:Int)] 0).bind λsG=>
 (E1 [(0:Int)] 1).bind λrV=>
 (E1 [(0:Int),1] 1).bind λuX=>
 (E1 [(3:Int),0] 3).bind λrp=>
 (E1 [(3:Int)] 1).bind λsa=>
 (E1 [(1:Int),3,0] 0).bind λsD=>
 (E1 [(0:Int)] 0).bind λsR=>
 (E1 [(0:Int),0] 0).bind λsU=>
 (E1 [(1:Int),0] 0).bind λrG=>
 (E1 [(0:Int)] 1).bind λtz=>
 (E1 ([]:List Int) 0).bind λwD=>
 (BB qT q3.2 (Sh.len [q5,q6,q7,q8,q9,ri])).bind λuN=>
 (Sh.get [q5,q6,q7,q8,q9,ri] uN.1).bind λzZ=>
 (BB qT uN.2 (Sh.len [sG,rV,uX,rp,sa,sD])).bind λtd=>
 (Sh.get [sG,rV,uX,rp,sa,sD] td.1).bind λyI=>
 (BB qT td.2 (Sh.len [sR,sU,rG,tz])).bind λuz=>
 (Sh.get [sR,sU,rG,tz] uz.1).bind λym=>
 (CC qT uz.2 [(4:Int),4,3,2,4]).bind λvB=>
 (Sh.hi [wD,zZ,yI,ym] vB.1).bind λyH=>
 (EB N qT q3 N (Sh.w (vB.1-1)) vB.2 yH).bind λ(f40,yn)=>
 some (AP.mk q3.1 yn,f40)
def JL (qe:(List AE)->Option (List AE))(p0:AE):Option (AE):=
 (qe p0.kids).bind λq3=>
 some (AE.mk p0.op p0.num q3)
def CV (p0:(List AE))(qe:(List AE)->Option (List AE)):Nat->Int->(List AE)->Option (List AE)
 | 0,_,_=>none
 | n+1,i5,l6=>
  if (decide (i5<(Sh.len p0)))=true then
   (Sh.get p0 i5).bind λsm=>
   (JL qe sm).bind λrp=>
   (Sh.app l6 [rp] 40).bind λyk=>
   CV p0 qe n (Sh.w (i5+1)) yk
  else
   some l6
def Hf (N:Nat)(qe:(List AE)->Option (List AE))(p0:(List AE)):Option (List AE):=
 (CV p0 qe N 0 []).bind λl7=>
 some l7
def DI (N:Nat):Nat->(List AE)->Option (List AE)
 | 0,_=>none
 | n+1,p0=>Hf N (DI N n) p0
def HJ (N:Nat)(p0:(List AE)):Option (List AE):=DI N N p0
def MF (N:Nat)(rT:(List Int)->Int->AE->Option (AE×Int))(qT:(List Int))(qX:Int)(p1:AE):Option (AE×Int):=
 (
  if (decide (0<(Sh.len p1.kids)))=true then
   (BB qT qX 3).bind λwZ=>
   some (decide (0<wZ.1),wZ.2)
  else
   some (false,qX)
 ).bind λ(t4,f5)=>
 if t4=true then
  (HJ N p1.kids).bind λq9=>
  (BB qT f5 (Sh.len q9)).bind λsx=>
  (Sh.get q9 sx.1).bind λyF=>
  (rT qT sx.2 yF).bind λuX=>
  (Bj p1.op p1.num (Sh.put q9 sx.1 uX.1)).bind λsa=>
  some (sa,uX.2)
 else
  (BB qT f5 5).bind λsR=>
  if (decide (sR.1=0))=true then
   (BB qT sR.2 15).bind λsW=>
   (Bj sW.1 p1.num p1.kids).bind λwD=>
   some (wD,sW.2)
  else
  if (decide (sR.1=1))=true then
   (CC qT sR.2 [(1:Int),-1,1000,2]).bind λsq=>
   (Bj p1.op (Sh.w (p1.num+sq.1)) p1.kids).bind λuz=>
   some (uz,sq.2)
  else
  if (decide (sR.1=2))=true then
   (HJ N p1.kids).bind λuZ=>
   (FK 1).bind λsM=>
   (Sh.app uZ [sM] 40).bind λl35=>
   (Bj p1.op p1.num l35).bind λxD=>
   some (xD,sR.2)
  else
  if (decide (sR.1=3))=true then
   (CC qT sR.2 [(0:Int),1,2,5,100,-1]).bind λwU=>
   (Ca wU.1).bind λq42=>
   some (q42,wU.2)
  else
   (CC qT sR.2 [(0:Int),1000,-1000,5]).bind λxg=>
   (FK xg.1).bind λxE=>
   some (xE,xg.2)
def Ja (N:Nat):Nat->(List Int)->Int->AE->Option (AE×Int)
 | 0,_,_,_=>none
 | n+1,qT,qX,p1=>MF N (Ja N n) qT qX p1
def RY (N:Nat)(qT:(List Int))(qX:Int)(p1:AE):Option (AE×Int):=Ja N N qT qX p1
def JY (qT:(List Int))(qX:Int):Option ((List AN)×Int):=
 (HQ qT qX).bind λq3=>
 (BB qT q3.2 (Sh.len q3.1)).bind λq5=>
 (
  Option.bind (BB qT q5.2 14) λsG=>
  if (decide (sG.1=0))=true then
   (CC qT sG.2 [(-1:Int),5,0,2]).bind λrp=>
   (CC qT rp.2 [(0:Int),1,5]).bind λsa=>
   (Sh.get q3.1 q5.1).bind λsb=>
   some (sa.2,Sh.put q3.1 q5.1 (AN.mk rp.1 sa.1 []))
  else
  if (decide (sG.1=1))=true then
   (CC qT sG.2 [(-1:Int),0,4,5]).bind λsU=>
   (FG [sU.1]).bind λrG=>
   (FG [(0:Int),0,0,0]).bind λtz=>
   (FG ([]:List Int)).bind λsW=>
   (Sh.get q3.1 q5.1).bind λc24=>
   some (sU.2,Sh.put q3.1 q5.1 (AN.mk 0 0 [rG,tz,sW]))
  else
  if (decide (sG.1=2))=true then
   (FG [Sh.w (q5.1+1)]).bind λtd=>
   (Sh.get q3.1 q5.1).bind λyI=>
   some (sG.2,Sh.put q3.1 q5.1 (AN.mk 0 0 [td]))
  else
  if (decide (sG.1=3))=true then
   (CC qT sG.2 [(0:Int),2,1]).bind λyC=>
   (Sh.app q3.1 ([AN.mk 2 yC.1 []]) 40).bind λl32=>
   some (yC.2,l32)
  else
  if (decide (sG.1=4))=true then
   (BB qT sG.2 2).bind λuA=>
   (FG ([]:List Int)).bind λxD=>
   (FG [(2:Int)]).bind λxf=>
   (FG ([]:List Int)).bind λtq=>
   (FG ([]:List Int)).bind λvA=>
   (BB qT uA.2 3).bind λwE=>
   (Sh.sl [xD,xf,tq,vA] wE.1 (Sh.len [xD,xf,tq,vA])).bind λyn=>
   (Sh.get q3.1 q5.1).bind λc42=>
   some (wE.2,Sh.put q3.1 q5.1 (AN.mk uA.1 0 yn))
  else
  if (decide (sG.1=5))=true then
   (Sh.app q3.1 ([AN.mk 0 0 [],AN.mk 3 0 []]) 40).bind λl45=>
   some (sG.2,l45)
  else
   some (sG.2,q3.1)
 ).bind λ(f7,l8)=>
 some (l8,f7)
def HD (N:Nat)(qT:(List Int))(qX:Int)(s1:(List Ac))(qV:(List AN)):Option (AP×Int):=
 (BB qT qX (Sh.len s1)).bind λq3=>
 (Sh.get s1 q3.1).bind λc5=>
 (
  Option.bind (BB qT q3.2 24) λrV=>
  if (decide (rV.1=0))=true then
   (RY N qT rV.2 c5.body).bind λsa=>
   some (sa.2,Sh.put s1 q3.1 (Ac.mk c5.params c5.result sa.1),qV)
  else
  if (decide (rV.1=1))=true then
   (CC qT rV.2 [(0:Int),1,9,-1]).bind λsR=>
   (Ef c5.params [sR.1]).bind λsU=>
   some (sR.2,Sh.put s1 q3.1 (Ac.mk sU c5.result c5.body),qV)
  else
  if (decide (rV.1=2))=true then
   (CC qT rV.2 [(0:Int),1,3,5,-1]).bind λsW=>
   some (sW.2,Sh.put s1 q3.1 (Ac.mk c5.params sW.1 c5.body),qV)
  else
  if (decide (rV.1=3))=true then
   (JY qT rV.2).bind λvX=>
   some (vX.2,s1,vX.1)
  else
  if (decide (rV.1=4))=true then
   (Sh.app s1 [c5] 72).bind λl29=>
   some (rV.2,l29,qV)
  else
   some (rV.2,s1,qV)
 ).bind λ(f7,l8,f9)=>
 some (AP.mk f9 l8,f7)
def II (N:Nat)(qT:(List Int))(qX:Int):Option (AP×Int):=
 (He N qT qX).bind λq3=>
 (HD N qT q3.2 q3.1.funcs q3.1.decls).bind λq4=>
 some (q4.1,q4.2)
def GS (p0:(List Int))(p1:Int):Nat->Int->Option ((Bool) ⊕ (Unit))
 | 0,_=>none
 | n+1,i4=>
  if (decide (i4<(Sh.len p0)))=true then
   (Sh.get p0 i4).bind λtY=>
   if (decide (tY=p1))=true then
    some (Sum.inl true)
   else
    GS p0 p1 n (Sh.w (i4+1))
  else
   some (Sum.inr ())
def MV (N:Nat)(p0:(List Int))(p1:Int):Option (Bool):=
 Sh.cont (GS p0 p1 N 0) (id) λ()=>
 some false
end RC
namespace RC
end RC
namespace RC
def To (p0:AE)(sE:AE->Option (AE)):Nat->Int->(List AE)->Option (List AE)
 | 0,_,_=>none
 | n+1,k5,l6=>
  if (decide (k5<(Sh.len p0.kids)))=true then
   (Sh.get p0.kids k5).bind λc27=>
   (sE c27).bind λsq=>
   (Sh.app l6 [sq] 40).bind λl29=>
   To p0 sE n (Sh.w (k5+1)) l29
  else
   some l6
def H9 (N:Nat)(p0:AE):Option (AE):=
 (HJ N p0.kids).bind λq3=>
 some (AE.mk p0.op p0.num q3)
def Dw (N:Nat)(p0:AP)(p1:(List AE)):Nat->Int->(List Ac)->Option ((AP×Bool) ⊕ (List Ac))
 | 0,_,_=>none
 | n+1,i6,l7=>
  if (decide (i6<(Sh.len p0.funcs)))=true then
   (Sh.get p1 i6).bind λsb=>
   (G1 N sb).bind λtF=>
   if (decide (tF<0))=true then
    some (Sum.inl (AP.mk [] [],false))
   else
    (Sh.get p0.funcs i6).bind λzi=>
    (FJ zi.params).bind λtz=>
    (H9 N sb).bind λsW=>
    (Sh.app l7 [Ac.mk tz zi.result sW] 72).bind λl24=>
    Dw N p0 p1 n (Sh.w (i6+1)) l24
  else
   some (Sum.inr l7)
def IJ (N:Nat)(p0:AP)(p1:(List AE)):Option (AP×Bool):=
 (Io N p0.decls).bind λq3=>
 Sh.cont (Dw N p0 p1 N 0 []) (id) λl8=>
 some (AP.mk q3 l8,true)
def Co (p0:AE)(p1 p2:Int)(qs:AE->Int->Int->Option (AE)):Nat->Int->(List AE)->Option (List AE)
 | 0,_,_=>none
 | n+1,t9,l10=>
  if (decide (t9<(Sh.len p0.kids)))=true then
   (Sh.get p0.kids t9).bind λtJ=>
   (qs tJ p1 p2).bind λsU=>
   (Sh.app l10 [sU] 40).bind λl21=>
   Co p0 p1 p2 qs n (Sh.w (t9+1)) l21
  else
   some l10
def Ie (N:Nat)(qs:AE->Int->Int->Option (AE))(p0:AE)(p1 p2:Int):Option (AE):=
 (
  Option.bind (
   if (decide (p0.op=12))=true then
    some (decide (p1<=p0.num))
   else
    some false
  ) λt25=>
  if t25=true then
   some (Sh.w (p0.num+p2))
  else
   some p0.num
 ).bind λf3=>
 (Co p0 p1 p2 qs N 0 []).bind λl11=>
 some (AE.mk p0.op f3 l11)
def D3 (N:Nat):Nat->AE->Int->Int->Option (AE)
 | 0,_,_,_=>none
 | n+1,p0,p1,p2=>Ie N (D3 N n) p0 p1 p2
def Gx (N:Nat)(p0:AE)(p1 p2:Int):Option (AE):=D3 N N p0 p1 p2
def IZ (N:Nat)(p0:AE):Option (AE):=
 (Gx N p0 0 0).bind λq3=>
 some q3
def DQ (N:Nat)(p0:AP):Nat->Int->(List Ac)->Option (List Ac)
 | 0,_,_=>none
 | n+1,t6,l7=>
  if (decide (t6<(Sh.len p0.funcs)))=true then
   (Sh.get p0.funcs t6).bind λsV=>
   (CQ sV.params).bind λsD=>
   (IZ N sV.body).bind λtF=>
   (Sh.app l7 [Ac.mk sD sV.result tF] 72).bind λyG=>
   DQ N p0 n (Sh.w (t6+1)) yG
  else
   some l7
def HB (N:Nat)(p0:AP):Option (AP):=
 (IB N p0.decls).bind λq3=>
 (DQ N p0 N 0 []).bind λl8=>
 some (AP.mk q3 l8)
end RC
namespace RC
def F7 (N:Nat)(p0:List AE)(p2:Int):Nat->AE->Option AE
 | 0,b=>some b
 | i+1,b=>
  (Sh.get p0 (i:Int)).bind λx=>
  (Gx N x p2 (i:Int)).bind λq=>
  F7 N p0 p2 i (AE.mk 13 0 [q,b])
def KZ (N:Nat)(s0 p0:List AE)(qV ql p2:Int):Option AE:=
 if p0.length<=1048576 then F7 N p0 p2 p0.length (AE.mk qV ql s0) else none
theorem Qz {N:Nat}{p0:List AE}{p2:Int}:∀(n:Nat) {b r:AE},F7 N p0 p2 n b=some r->
  ∃bs:Nat->AE,bs n=b/\bs 0=r/\∀i,i<n->∃x q,Sh.get p0 (i:Int)=some x/\Gx N x p2 (i:Int)=some q/\bs i=AE.mk 13 0 [q,bs (i+1)]
 | 0,b,r,h=>by
  rw[F7]at h;cases h;exact⟨λ_=>b,rfl,rfl,λi hi=>by omega⟩
 | n+1,b,r,h=>by
  rw[F7]at h;obtain⟨x,h1,h⟩:=Sh.bind_some h;obtain⟨q,h2,h⟩:=Sh.bind_some h;obtain⟨bs,e1,e2,e3⟩:=Qz n h;refine⟨λi=>if i=n+1 then b else bs i,by simp,by simp[e2],λi hi=>?_⟩;by_cases rY:i=n
  ·subst rY;refine⟨x,q,h1,h2,?_⟩;simp[e1]
  ·obtain⟨x',q',g1,g2,g3⟩:=e3 i (by omega);refine⟨x',q',g1,g2,?_⟩;have n1:¬ i=n+1:=by omega
   have n2:¬ i+1=n+1:=by omega
   simp only[n1,n2,mC];exact g3
end RC
namespace RC
def J0 (N:Nat)(p0:AP)(p1:AE)(p2 p3:Int):Option (Int):=
 if (decide (p2=0))=true then
  some p3
 else
 if (decide (p1.op=13))=true then
  some (Sh.w (p3+1))
 else
 if (decide (p1.op=8))=true then
  (GK N p0.decls p1.num).bind λuX=>
  (Sh.get uX (Sh.w (p2-1))).bind λuM=>
  (Bw N p0.decls uM).bind λsa=>
  some (Sh.w (p3+(Sh.len sa)))
 else
  some p3
def JU (p0:Int):Option (Int):=
 some (if (if p0<999 then p0 else 999) > (-999) then (if p0<999 then p0 else 999) else (-999))
def MW (p0 p1 p2:Int):Option (Int):=
 if (decide (p0=1))=true then
  (JU (Sh.w (p1+p2))).bind λq7=>
  some q7
 else
 if (decide (p0=2))=true then
  (JU (Sh.w (p1-p2))).bind λsx=>
  some sx
 else
 if (decide (p0=3))=true then
  (JU (Sh.w (p1*p2))).bind λrp=>
  some rp
 else
  (
   if (decide (p0=4))=true then
    some (decide (p1<p2))
   else
    some false
  ).bind λt18=>
  if t18=true then
   some 1
  else
   some 0
def Ep (p0:(List AE))(p1 p2:Int)(qk:AE->Int->Int->Option (AE)):Nat->Int->(List AE)->Option (List AE)
 | 0,_,_=>none
 | n+1,i5,l6=>
  if (decide (i5<(Sh.len p0)))=true then
   (Sh.get p0 i5).bind λsm=>
   (qk sm p1 p2).bind λrp=>
   (Sh.app l6 [rp] 40).bind λyk=>
   Ep p0 p1 p2 qk n (Sh.w (i5+1)) yk
  else
   some l6
def Kh (N:Nat)(qk:AE->Int->Int->Option (AE))(p0:(List AE))(p1 p2:Int):Option (List AE):=
 (Ep p0 p1 p2 qk N 0 []).bind λl7=>
 some l7
def LN (N:Nat)(qk:AE->Int->Int->Option (AE))(p0:AE)(p1 p2:Int):Option (AE):=
 (
  Option.bind (
   if (decide (p0.op=12))=true then
    some (decide (p1<=p0.num))
   else
    some false
  ) λt9=>
  if t9=true then
   some (Sh.w (p0.num+p2))
  else
   some p0.num
 ).bind λvE=>
 (Kh N qk p0.kids p1 p2).bind λq7=>
 some (AE.mk p0.op vE q7)
def Gy (N:Nat):Nat->AE->Int->Int->Option (AE)
 | 0,_,_,_=>none
 | n+1,p0,p1,p2=>LN N (Gy N n) p0 p1 p2
def NQ (N:Nat)(p0:AE)(p1 p2:Int):Option (AE):=Gy N N p0 p1 p2
def Gv (N:Nat)(p0:(List AE))(p2:Int):Nat->Int->Int->Int->(List AE)->Option (Int×Int×(List AE))
 | 0,_,_,_,_=>none
 | n+1,k5,f6,f7,f8=>
  if (decide (0<=k5))=true then
   (Sh.get p0 k5).bind λsn=>
   (NQ N sn p2 k5).bind λsR=>
   Gv N p0 p2 n (Sh.w (k5-1)) 13 0 [sR,AE.mk f6 f7 f8]
  else
   some (f6,f7,f8)
def Mg (N:Nat)(p0:(List AE))(p1:AE)(p2:Int):Option (AE):=
 (Gv N p0 p2 N (Sh.w ((Sh.len p0)-1)) p1.op p1.num p1.kids).bind λ(f9,f10,f11)=>
 some (AE.mk f9 f10 f11)
def H7 (N:Nat)(p0:AP)(p1:AE)(p2:Int):Option (AE):=
 Sh.cont (
  (
   if (decide (p1.op=1))=true then
    some true
   else
   if (decide (p1.op=2))=true then
    some true
   else
   if (decide (p1.op=3))=true then
    some true
   else
    some (decide (p1.op=4))
  ).bind λt7=>
  if t7=true then
   (
    Option.bind (Sh.get p1.kids 0) λsn=>
    if (decide (sn.op=0))=true then
     (Sh.get p1.kids 1).bind λvV=>
     some (decide (vV.op=0))
    else
     some false
   ).bind λt11=>
   if t11=true then
    (Sh.get p1.kids 0).bind λuM=>
    (Sh.get p1.kids 1).bind λsV=>
    (MW p1.op uM.num sV.num).bind λsD=>
    some (Sum.inl (AE.mk 0 sD []))
   else
    some (Sum.inr ())
  else
  if (decide (p1.op=7))=true then
   (
    Option.bind (Sh.get p1.kids 0) λc35=>
    if (decide (c35.op=0))=true then
     some (!decide (c35.num=0))
    else
     some false
   ).bind λt25=>
   if t25=true then
    (Sh.get p1.kids 1).bind λc29=>
    some (Sum.inl c29)
   else
    (Sh.get p1.kids 0).bind λc31=>
    if (decide (c31.op=0))=true then
     (Sh.get p1.kids 2).bind λza=>
     some (Sum.inl za)
    else
     some (Sum.inr ())
  else
  if (decide (p1.op=8))=true then
   (Sh.get p1.kids 0).bind λzj=>
   if (decide (zj.op=6))=true then
    (Gc N p0.decls (Sh.w (p1.num-1))).bind λyp=>
    (Sh.get p1.kids (Sh.w ((Sh.w (1+zj.num))-yp))).bind λc44=>
    (Mg N zj.kids c44 p2).bind λxE=>
    some (Sum.inl xE)
   else
    some (Sum.inr ())
  else
   some (Sum.inr ())
 ) (id) λ()=>
 some p1
def FY (N:Nat)(p0:AP)(p1:AE)(p2:Int)(rB:AP->AE->Int->Option (AE)):Nat->Int->(List AE)->Option (List AE)
 | 0,_,_=>none
 | n+1,k5,l6=>
  if (decide (k5<(Sh.len p1.kids)))=true then
   (Sh.get p1.kids k5).bind λuM=>
   (J0 N p0 p1 k5 p2).bind λsa=>
   (rB p0 uM sa).bind λsD=>
   (Sh.app l6 [sD] 40).bind λl18=>
   FY N p0 p1 p2 rB n (Sh.w (k5+1)) l18
  else
   some l6
def MI (N:Nat)(rB:AP->AE->Int->Option (AE))(p0:AP)(p1:AE)(p2:Int):Option (AE):=
 (FY N p0 p1 p2 rB N 0 []).bind λl7=>
 (H7 N p0 (AE.mk p1.op p1.num l7) p2).bind λri=>
 some ri
def Gs (N:Nat):Nat->AP->AE->Int->Option (AE)
 | 0,_,_,_=>none
 | n+1,p0,p1,p2=>MI N (Gs N n) p0 p1 p2
def Ro (N:Nat)(p0:AP)(p1:AE)(p2:Int):Option (AE):=Gs N N p0 p1 p2
def GV (N:Nat)(p0:AP):Nat->Int->(List AE)->Option (List AE)
 | 0,_,_=>none
 | n+1,i12,wW=>
  if (decide (i12<(Sh.len p0.funcs)))=true then
   (Sh.get p0.funcs i12).bind λwV=>
   (Ro N p0 wV.body (Sh.len wV.params)).bind λsW=>
   (Sh.app wW [sW] 40).bind λl24=>
   GV N p0 n (Sh.w (i12+1)) l24
  else
   some wW
def KD (N:Nat)(p0:AP):Option (AP×Bool):=
 (Be N p0).bind λq4=>
 if (!q4)=true then
  some (AP.mk [] [],false)
 else
  (GV N p0 N 0 []).bind λrq=>
  (IJ N p0 rq).bind λsD=>
  some (sD.1,sD.2)
def Mx (p0 p1 p2:Int):Option (Int):=
 (
  if (decide (p1<(-999)))=true then
   some true
  else
  if (decide (999<p1))=true then
   some true
  else
  if (decide (p2<(-999)))=true then
   some true
  else
   some (decide (999<p2))
 ).bind λt4=>
 if t4=true then
  some 0
 else
  (
   if (decide (p0=1))=true then
    some (Sh.w (p1+p2))
   else
   if (decide (p0=2))=true then
    some (Sh.w (p1-p2))
   else
   if (decide (p0=3))=true then
    some (Sh.w (p1*p2))
   else
   if (decide (p0=4))=true then
    if (decide (p1<p2))=true then
     some 1
    else
     some 0
   else
    some 0
  ).bind λue=>
  some (if 999<(if (-999) > ue then (-999) else ue) then 999 else (if (-999) > ue then (-999) else ue))
def Je (N:Nat)(s0:(List AE))(p0:(List AN))(qV ql p2:Int):Option (AE):=
 Sh.cont (
  (
   if (decide (qV=1))=true then
    some true
   else
   if (decide (qV=2))=true then
    some true
   else
   if (decide (qV=3))=true then
    some true
   else
    some (decide (qV=4))
  ).bind λt7=>
  if t7=true then
   (
    Option.bind (Sh.get s0 0) λsn=>
    if (decide (sn.op=0))=true then
     (Sh.get s0 1).bind λvV=>
     some (decide (vV.op=0))
    else
     some false
   ).bind λt11=>
   if t11=true then
    (Sh.get s0 0).bind λuM=>
    (Sh.get s0 1).bind λsV=>
    (Mx qV uM.num sV.num).bind λsD=>
    some (Sum.inl (AE.mk 0 sD []))
   else
    some (Sum.inr ())
  else
  if (decide (qV=7))=true then
   (Sh.get s0 0).bind λc24=>
   if (decide (c24.op=0))=true then
    if (!decide (c24.num=0))=true then
     (Sh.get s0 1).bind λc32=>
     some (Sum.inl c32)
    else
     (Sh.get s0 2).bind λc35=>
     some (Sum.inl c35)
   else
    some (Sum.inr ())
  else
  if (decide (qV=8))=true then
   (Sh.get s0 0).bind λze=>
   if (decide (ze.op=6))=true then
    (HS N p0 ql).bind λyp=>
    (GA N yp ze.num).bind λxg=>
    (Sh.get s0 (Sh.w (1+xg))).bind λc46=>
    (Sh.apart 0 (Sh.w (1+xg))).bind λu47=>
    (KZ N c46.kids ze.kids c46.op c46.num p2).bind λyE=>
    some (Sum.inl yE)
   else
    some (Sum.inr ())
  else
   some (Sum.inr ())
 ) (id) λ()=>
 some (AE.mk qV ql s0)
def L8 (N:Nat)(qT:(List AN))(qX:(List Ac))(s1:(List AE))(wG wH p1:Int):Option (AE):=
 (Je N s1 qT wG wH p1).bind λq3=>
 some q3
def Cp (N:Nat)(s0:(List AE))(qp:(List AN))(qq:(List Ac))(p0:(List AN))(qV ql p2:Int)(qh:(List AE)->(List AN)->(List Ac)->(List AN)->Int->Int->Int->Option (AE)):Nat->Int->(List AE)->Option (List AE)
 | 0,_,_=>none
 | n+1,t4,l5=>
  if (decide (t4<(Sh.len s0)))=true then
   (
    Option.bind (
     if (decide (qV=13))=true then
      some (decide (t4=1))
     else
      some false
    ) λt23=>
    if t23=true then
     some (Sh.w (p2+1))
    else
     (
      if (decide (qV=8))=true then
       some (decide (0<t4))
      else
       some false
     ).bind λt27=>
     if t27=true then
      (HS N p0 ql).bind λvC=>
      (Sh.get vC (Sh.w (t4-1))).bind λc31=>
      (EO N p0 c31).bind λvB=>
      some (Sh.w (p2+(Sh.len vB)))
     else
      some p2
   ).bind λyJ=>
   (Sh.get l5 t4).bind λtJ=>
   (qh tJ.kids qp qq p0 tJ.op tJ.num yJ).bind λsU=>
   Cp N s0 qp qq p0 qV ql p2 qh n (Sh.w (t4+1)) (Sh.put l5 t4 sU)
  else
   some l5
def HH (N:Nat)(qh:(List AE)->(List AN)->(List Ac)->(List AN)->Int->Int->Int->Option (AE))(s0:(List AE))(qp:(List AN))(qq:(List Ac))(p0:(List AN))(qV ql p2:Int):Option (AE):=
 (Cp N s0 qp qq p0 qV ql p2 qh N 0 s0).bind λl6=>
 (L8 N qp qq l6 qV ql p2).bind λq9=>
 some q9
def DT (N:Nat):Nat->(List AE)->(List AN)->(List Ac)->(List AN)->Int->Int->Int->Option (AE)
 | 0,_,_,_,_,_,_,_=>none
 | n+1,s0,qp,qq,p0,qV,ql,p2=>HH N (DT N n) s0 qp qq p0 qV ql p2
def Jp (N:Nat)(s0:(List AE))(qp:(List AN))(qq:(List Ac))(p0:(List AN))(qV ql p2:Int):Option (AE):=DT N N s0 qp qq p0 qV ql p2
def Dj (N:Nat)(qT:(List AN))(qX:(List Ac))(p0 q3:AP):Nat->Int->(List Ac)->Option ((AP×Bool) ⊕ (List Ac))
 | 0,_,_=>none
 | n+1,t6,l7=>
  if (decide (t6<(Sh.len q3.funcs)))=true then
   (Sh.get l7 t6).bind λsb=>
   (Jp N sb.body.kids qT qX p0.decls sb.body.op sb.body.num (Sh.len sb.params)).bind λtF=>
   (Sh.get (Sh.put l7 t6 (Ac.mk sb.params sb.result tF)) t6).bind λzi=>
   (Iv N zi.body).bind λtz=>
   if (decide (tz<0))=true then
    some (Sum.inl (AP.mk [] [],false))
   else
    Dj N qT qX p0 q3 n (Sh.w (t6+1)) (Sh.put l7 t6 (Ac.mk sb.params sb.result tF))
  else
   some (Sum.inr l7)
def I5 (N:Nat)(qT:(List AN))(qX:(List Ac))(p0:AP):Option (AP×Bool):=
 (HB N p0).bind λq3=>
 Sh.cont (Dj N qT qX p0 q3 N 0 q3.funcs) (id) λl8=>
 some (AP.mk q3.decls l8,true)
def JI (N:Nat)(p0:AP):Option (AP×Bool):=
 (Cw N p0).bind λq4=>
 if (!q4)=true then
  some (AP.mk [] [],false)
 else
  (I5 N p0.decls p0.funcs p0).bind λri=>
  some (ri.1,ri.2)
end RC
namespace RC
def EK (p0:(List Int))(p1:(List Int)):Nat->Int->Option ((Bool) ⊕ (Unit))
 | 0,_=>none
 | n+1,i10=>
  if (decide (i10<(Sh.len p0)))=true then
   (Sh.get p0 i10).bind λsn=>
   (Sh.get p1 i10).bind λtJ=>
   if (!decide (sn=tJ))=true then
    some (Sum.inl false)
   else
    EK p0 p1 n (Sh.w (i10+1))
  else
   some (Sum.inr ())
def HO (N:Nat)(p0:(List Int))(p1:(List Int)):Option (Bool):=
 if (!decide ((Sh.len p0)=(Sh.len p1)))=true then
  some false
 else
  Sh.cont (EK p0 p1 N 0) (id) λ()=>
  some true
def Dx (N:Nat)(i10:Int)(p0:(List AN))(p1:(List AN)):Nat->Int->Option ((Bool) ⊕ (Unit))
 | 0,_=>none
 | n+1,k24=>
  (Sh.get p0 i10).bind λyI=>
  if (decide (k24<(Sh.len yI.cons)))=true then
   (Sh.get yI.cons k24).bind λc32=>
   (Sh.get p1 i10).bind λxe=>
   (Sh.get xe.cons k24).bind λza=>
   (HO N c32.fields za.fields).bind λuA=>
   if (!uA)=true then
    some (Sum.inl false)
   else
    Dx N i10 p0 p1 n (Sh.w (k24+1))
  else
   some (Sum.inr ())
def Dy (N:Nat)(p0:(List AN))(p1:(List AN)):Nat->Int->Option ((Bool) ⊕ (Unit))
 | 0,_=>none
 | n+1,i10=>
  if (decide (i10<(Sh.len p0)))=true then
   (
    Option.bind (Sh.get p0 i10) λzj=>
    (Sh.get p1 i10).bind λyD=>
    if (!decide (zj.from_=yD.from_))=true then
     some true
    else
    if (!decide (zj.to=yD.to))=true then
     some true
    else
     some (!decide ((Sh.len zj.cons)=(Sh.len yD.cons)))
   ).bind λt19=>
   if t19=true then
    some (Sum.inl false)
   else
    Sh.cont (Dx N i10 p0 p1 N 0) (λx=>Sum.inl x) λ()=>
    Dy N p0 p1 n (Sh.w (i10+1))
  else
   some (Sum.inr ())
def H4 (N:Nat)(p0:(List AN))(p1:(List AN)):Option (Bool):=
 if (!decide ((Sh.len p0)=(Sh.len p1)))=true then
  some false
 else
  Sh.cont (Dy N p0 p1 N 0) (id) λ()=>
  some true
def Dk (p0 p1:AE)(qo:AE->AE->Option (Bool)):Nat->Int->Option ((Bool) ⊕ (Unit))
 | 0,_=>none
 | n+1,i10=>
  if (decide (i10<(Sh.len p0.kids)))=true then
   (Sh.get p0.kids i10).bind λsn=>
   (Sh.get p1.kids i10).bind λtJ=>
   (qo sn tJ).bind λsU=>
   if (!sU)=true then
    some (Sum.inl false)
   else
    Dk p0 p1 qo n (Sh.w (i10+1))
  else
   some (Sum.inr ())
def I7 (N:Nat)(qo:AE->AE->Option (Bool))(p0 p1:AE):Option (Bool):=
 (
  if (!decide (p0.op=p1.op))=true then
   some true
  else
  if (!decide (p0.num=p1.num))=true then
   some true
  else
   some (!decide ((Sh.len p0.kids)=(Sh.len p1.kids)))
 ).bind λt4=>
 if t4=true then
  some false
 else
  Sh.cont (Dk p0 p1 qo N 0) (id) λ()=>
  some true
def FB (N:Nat):Nat->AE->AE->Option (Bool)
 | 0,_,_=>none
 | n+1,p0,p1=>I7 N (FB N n) p0 p1
def Ly (N:Nat)(p0 p1:AE):Option (Bool):=FB N N p0 p1
def DR (N:Nat)(p0 p1:AP):Nat->Int->Option ((Bool) ⊕ (Unit))
 | 0,_=>none
 | n+1,i10=>
  if (decide (i10<(Sh.len p0.funcs)))=true then
   (
    Option.bind (Sh.get p0.funcs i10) λwV=>
    (Sh.get p1.funcs i10).bind λwX=>
    (HO N wV.params wX.params).bind λwD=>
    if (!wD)=true then
     some true
    else
    if (!decide (wV.result=wX.result))=true then
     some true
    else
     (Ly N wV.body wX.body).bind λtd=>
     some (!td)
   ).bind λt18=>
   if t18=true then
    some (Sum.inl false)
   else
    DR N p0 p1 n (Sh.w (i10+1))
  else
   some (Sum.inr ())
def GJ (N:Nat)(p0 p1:AP):Option (Bool):=
 (
  Option.bind (H4 N p0.decls p1.decls) λsq=>
  if (!sq)=true then
   some true
  else
   some (!decide ((Sh.len p0.funcs)=(Sh.len p1.funcs)))
 ).bind λt4=>
 if t4=true then
  some false
 else
  Sh.cont (DR N p0 p1 N 0) (id) λ()=>
  some true
end RC
namespace RC
def JT (N:Nat)(p0:(List Int)):Option (AP):=
 (Ib p0).bind λq3=>
 (II N q3.1 q3.2).bind λq4=>
 some q4.1
end RC
namespace RC
def FW (N:Nat)(p0:(List Int))(p1:(List Int)):Nat->Int->Option ((Bool) ⊕ (Unit))
 | 0,_=>none
 | n+1,i4=>
  if (decide (i4<(Sh.len p0)))=true then
   (Sh.get p0 i4).bind λtY=>
   (MV N p1 tY).bind λrV=>
   if (!rV)=true then
    some (Sum.inl false)
   else
    FW N p0 p1 n (Sh.w (i4+1))
  else
   some (Sum.inr ())
def Kg (N:Nat)(p0:(List Int))(p1:(List Int)):Option (Bool):=
 Sh.cont (FW N p0 p1 N 0) (id) λ()=>
 some true
def DB (N:Nat)(q7:AP)(q9:AP×Bool):Nat->Int->Option ((Bool) ⊕ (Unit))
 | 0,_=>none
 | n+1,f24=>
  if (decide (f24<(Sh.len q7.funcs)))=true then
   (
    if (decide ((Sh.len q9.1.funcs)<=f24))=true then
     some true
    else
     (HR N q9.1 f24).bind λxf=>
     (HR N q7 f24).bind λtq=>
     (Kg N xf tq).bind λvA=>
     some (!vA)
   ).bind λt32=>
   if t32=true then
    some (Sum.inl false)
   else
    DB N q7 q9 n (Sh.w (f24+1))
  else
   some (Sum.inr ())
def Hv (N:Nat)(p0:(List Int)):Option (Bool):=
 if (decide (1048576<(Sh.len p0)))=true then
  some true
 else
  (JT N p0).bind λq7=>
  (JI N q7).bind λq9=>
  (KD N q7).bind λsx=>
  (
   Option.bind (GJ N q9.1 sx.1) λwE=>
   if (!wE)=true then
    some true
   else
   if (q9.2 != sx.2)=true then
    some true
   else
    some (!q9.2)
  ).bind λt14=>
  if t14=true then
   (
    Option.bind (GJ N q9.1 sx.1) λsU=>
    if sU=true then
     some (q9.2==sx.2)
    else
     some false
   ).bind λt18=>
   some t18
  else
   Sh.cont (DB N q7 q9 N 0) (id) λ()=>
   some (decide ((Sh.len q9.1.funcs)=(Sh.len q7.funcs)))
end RC
