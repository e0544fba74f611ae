import Derived.Test.YtccficmcdkcpnaaGreatSufF
set_option linter.all false
namespace RC
def Gn (p0:(List Int))(p1:Int):Option (Int):=
 if (decide ((Sh.w (p1-(Sh.len p0)))<0))=true then
  some (-1)
 else
  some (Sh.w (p1-(Sh.len p0)))
def Et (p0:(List Int)):Nat->Int->(List Int)->Option (List Int)
 | 0,_,_=>none
 | n+1,i6,l7=>
  if (decide (i6<(Sh.len p0)))=true then
   (Sh.get p0 i6).bind λtP=>
   (Sh.get l7 i6).bind λrn=>
   Et p0 n (Sh.w (i6+1)) (Sh.put l7 i6 tP)
  else
   some l7
def Gq (N:Nat)(p0:(List Int)):Option (List Int):=
 (Sh.mk 0 (Sh.len p0) 8).bind λl3=>
 (Et p0 N 0 l3).bind λl8=>
 some l8
def BO (p0 p1 p2:Int):Option (Bool):=
 (
  if (decide (p1<=p0))=true then
   some (decide (p0<=p2))
  else
   some false
 ).bind λt3=>
 some t3
def S3 (p0:(List Int)):Nat->Int->Option ((Bool) ⊕ (Unit))
 | 0,_=>none
 | n+1,i4=>
  if (decide (i4<(Sh.len p0)))=true then
   (Sh.get p0 i4).bind λvB=>
   if (!decide (vB=0))=true then
    some (Sum.inl false)
   else
    S3 p0 n (Sh.w (i4+1))
  else
   some (Sum.inr ())
def Bf (p0:(List Int)):Option (List Int):=
 (Sh.app ([]:List Int) p0 8).bind λl6=>
 some l6
def Ev (p0:(List Int))(p1:(List Int)):Nat->Int->Option ((Bool) ⊕ (Unit))
 | 0,_=>none
 | n+1,i10=>
  if (decide (i10<(Sh.len p0)))=true then
   (Sh.get p0 i10).bind λtF=>
   (Sh.get p1 i10).bind λsN=>
   if (!decide (tF=sN))=true then
    some (Sum.inl false)
   else
    Ev p0 p1 n (Sh.w (i10+1))
  else
   some (Sum.inr ())
def Gr (N:Nat)(p0:(List Int))(p1:(List Int)):Option (Bool):=
 if (!decide ((Sh.len p0)=(Sh.len p1)))=true then
  some false
 else
  Sh.cont (Ev p0 p1 N 0) (id) λ()=>
  some true
end RC
namespace RC
def LJ (p0:BN)(p1:Int):Option (Int):=
 (Gn p0.fields p1).bind λq3=>
 if (decide (q3<0))=true then
  some (-1)
 else
  some q3
def FO (p0:(List BN)):Nat->Int->Int->Option ((Int) ⊕ (Int))
 | 0,_,_=>none
 | n+1,left9,i10=>
  if (decide (i10<(Sh.len p0)))=true then
   (Sh.get p0 i10).bind λsN=>
   (LJ sN left9).bind λtJ=>
   if (decide (tJ<0))=true then
    some (Sum.inl (-1))
   else
    FO p0 n tJ (Sh.w (i10+1))
  else
   some (Sum.inr left9)
def J0 (N:Nat)(p0:(List BN))(p1:Int):Option (Int):=
 if (decide ((Sh.w (p1-(Sh.len p0)))<0))=true then
  some (-1)
 else
  Sh.cont (FO p0 N (Sh.w (p1-(Sh.len p0))) 0) (id) λsq=>
  some sq
def Jv (N:Nat)(p0:AR)(p1:Int):Option (Int):=
 (J0 N p0.cons p1).bind λq3=>
 if (decide (q3<0))=true then
  some (-1)
 else
  some q3
def E8 (N:Nat)(p0:(List AR)):Nat->Int->Int->Option ((Int) ⊕ (Int))
 | 0,_,_=>none
 | n+1,left9,i10=>
  if (decide (i10<(Sh.len p0)))=true then
   (Sh.get p0 i10).bind λsN=>
   (Jv N sN left9).bind λtJ=>
   if (decide (tJ<0))=true then
    some (Sum.inl (-1))
   else
    E8 N p0 n tJ (Sh.w (i10+1))
  else
   some (Sum.inr left9)
def JE (N:Nat)(p0:(List AR))(p1:Int):Option (Int):=
 if (decide ((Sh.w (p1-(Sh.len p0)))<0))=true then
  some (-1)
 else
  Sh.cont (E8 N p0 N (Sh.w (p1-(Sh.len p0))) 0) (id) λsq=>
  some sq
def LK (N:Nat)(p0:BN):Option (BN):=
 (Gq N p0.fields).bind λq4=>
 some (BN.mk q4)
def FP (N:Nat)(p0:(List BN)):Nat->Int->(List BN)->Option (List BN)
 | 0,_,_=>none
 | n+1,i6,l7=>
  if (decide (i6<(Sh.len p0)))=true then
   (Sh.get p0 i6).bind λtP=>
   (LK N tP).bind λvS=>
   (Sh.get l7 i6).bind λtd=>
   FP N p0 n (Sh.w (i6+1)) (Sh.put l7 i6 vS)
  else
   some l7
def KF (N:Nat)(p0:(List BN)):Option (List BN):=
 (Sh.mk (BN.mk []) (Sh.len p0) 24).bind λl3=>
 (FP N p0 N 0 l3).bind λl8=>
 some l8
def J5 (N:Nat)(p0:AR):Option (AR):=
 (KF N p0.cons).bind λq6=>
 some (AR.mk p0.from_ p0.to q6)
def E6 (N:Nat)(p0:(List AR)):Nat->Int->(List AR)->Option (List AR)
 | 0,_,_=>none
 | n+1,i6,l7=>
  if (decide (i6<(Sh.len p0)))=true then
   (Sh.get p0 i6).bind λtP=>
   (J5 N tP).bind λvS=>
   (Sh.get l7 i6).bind λtd=>
   E6 N p0 n (Sh.w (i6+1)) (Sh.put l7 i6 vS)
  else
   some l7
def I8 (N:Nat)(p0:(List AR)):Option (List AR):=
 (Sh.mk (AR.mk 0 0 []) (Sh.len p0) 40).bind λl3=>
 (E6 N p0 N 0 l3).bind λl8=>
 some l8
def EV (p0:(List AR))(p1:(List Int)):Nat->Int->Option ((Bool) ⊕ (Unit))
 | 0,_=>none
 | n+1,i4=>
  if (decide (i4<(Sh.len p1)))=true then
   (Sh.get p1 i4).bind λvB=>
   (BO vB 0 (Sh.len p0)).bind λyQ=>
   if (!yQ)=true then
    some (Sum.inl false)
   else
    EV p0 p1 n (Sh.w (i4+1))
  else
   some (Sum.inr ())
def HO (N:Nat)(p0:(List AR))(p1:(List Int)):Option (Bool):=
 Sh.cont (EV p0 p1 N 0) (id) λ()=>
 some true
def EB (N:Nat)(c3:AR)(p0:(List AR)):Nat->Int->Option ((Bool) ⊕ (Unit))
 | 0,_=>none
 | n+1,i15=>
  if (decide (i15<(Sh.len c3.cons)))=true then
   (
    Option.bind (Sh.get c3.cons i15) λwV=>
    if (decide (3<(Sh.len wV.fields)))=true then
     some true
    else
     (HO N p0 wV.fields).bind λwL=>
     some (!wL)
   ).bind λt23=>
   if t23=true then
    some (Sum.inl false)
   else
    EB N c3 p0 n (Sh.w (i15+1))
  else
   some (Sum.inr ())
def EC (c3:AR)(p0:(List AR))(p1:Int):Nat->Int->Option ((Bool) ⊕ (Unit))
 | 0,_=>none
 | n+1,i34=>
  if (decide (i34<p1))=true then
   (
    Option.bind (Sh.get p0 i34) λc51=>
    if (decide ((Sh.len c51.cons)=0))=true then
     if (decide (c51.from_=c3.from_))=true then
      some (decide (c51.to=c3.to))
     else
      some false
    else
     some false
   ).bind λt47=>
   if t47=true then
    some (Sum.inl false)
   else
    EC c3 p0 p1 n (Sh.w (i34+1))
  else
   some (Sum.inr ())
def Hf (N:Nat)(p0:(List AR))(p1:Int):Option (Bool):=
 (Sh.get p0 p1).bind λc3=>
 if (decide (0<(Sh.len c3.cons)))=true then
  (
   if (decide (3<(Sh.len c3.cons)))=true then
    some true
   else
   if (!decide (c3.from_=0))=true then
    some true
   else
    some (!decide (c3.to=0))
  ).bind λt9=>
  if t9=true then
   some false
  else
   Sh.cont (EB N c3 p0 N 0) (id) λ()=>
   some true
 else
  Sh.cont (EC c3 p0 p1 N 0) (id) λ()=>
  (
   Option.bind (BO c3.from_ 0 (Sh.len p0)) λq39=>
   if q39=true then
    (BO c3.to 0 (Sh.len p0)).bind λq41=>
    some q41
   else
    some false
  ).bind λt37=>
  some t37
def Dj (N:Nat)(p0:(List AR)):Nat->Int->Option ((Bool) ⊕ (Unit))
 | 0,_=>none
 | n+1,i8=>
  if (decide (i8<(Sh.len p0)))=true then
   (Hf N p0 i8).bind λvS=>
   if (!vS)=true then
    some (Sum.inl false)
   else
    Dj N p0 n (Sh.w (i8+1))
  else
   some (Sum.inr ())
def HE (N:Nat)(p0:(List AR)):Option (Bool):=
 if (decide (4<(Sh.len p0)))=true then
  some false
 else
  Sh.cont (Dj N p0 N 0) (id) λ()=>
  some true
def DT (N:Nat)(p0:Dg):Nat->Int->Option ((Bool) ⊕ (Unit))
 | 0,_=>none
 | n+1,i10=>
  if (decide (i10<(Sh.len p0.funcs)))=true then
   (Sh.get p0.funcs i10).bind λuB=>
   (
    if (decide (3<(Sh.len uB.params)))=true then
     some true
    else
     (HO N p0.decls uB.params).bind λwL=>
     if (!wL)=true then
      some true
     else
      (BO uB.result 0 (Sh.len p0.decls)).bind λwz=>
      some (!wz)
   ).bind λt24=>
   if t24=true then
    some (Sum.inl false)
   else
    DT N p0 n (Sh.w (i10+1))
  else
   some (Sum.inr ())
def Hv (N:Nat)(p0:Dg):Option (Bool):=
 (
  Option.bind (HE N p0.decls) λvN=>
  if (!vN)=true then
   some true
  else
   (BO (Sh.len p0.funcs) 1 4).bind λyR=>
   some (!yR)
 ).bind λt4=>
 if t4=true then
  some false
 else
  Sh.cont (DT N p0 N 0) (id) λ()=>
  (
   Option.bind (Sh.get p0.funcs 0) λtP=>
   if (decide ((Sh.len tP.params)=0))=true then
    some (decide (tP.result=0))
   else
    some false
  ).bind λt13=>
  some t13
def ED (p0:(List Int))(p1:(List Int)):Nat->Int->Option ((Bool) ⊕ (Unit))
 | 0,_=>none
 | n+1,i4=>
  if (decide (i4<(Sh.len p1)))=true then
   (
    Option.bind (Sh.get p1 i4) λrn=>
    (BO rn 0 (Sh.w ((Sh.len p0)-1))).bind λuC=>
    if (!uC)=true then
     some true
    else
     (Sh.get p0 rn).bind λsN=>
     if (decide (sN=0))=true then
      some true
     else
     if (decide (0<i4))=true then
      (Sh.get p1 (Sh.w (i4-1))).bind λuB=>
      some (decide (rn<=uB))
     else
      some false
   ).bind λt12=>
   if t12=true then
    some (Sum.inl false)
   else
    ED p0 p1 n (Sh.w (i4+1))
  else
   some (Sum.inr ())
def Hq (N:Nat)(p0:(List Int))(p1:(List Int)):Option (Bool):=
 Sh.cont (ED p0 p1 N 0) (id) λ()=>
 some true
def Gv (p0:Int):Option (Bool):=
 (BO p0 0 11).bind λq3=>
 some q3
def D4 (p0:(List AR))(p1:Int):Nat->Int->Int->Option (Int)
 | 0,_,_=>none
 | n+1,n5,i6=>
  if (decide (i6<p1))=true then
   (Sh.get p0 i6).bind λtk=>
   D4 p0 p1 n (Sh.w (n5+(Sh.len tk.cons))) (Sh.w (i6+1))
  else
   some n5
def GU (N:Nat)(p0:(List AR))(p1:Int):Option (Int):=
 (D4 p0 p1 N 0 0).bind λn7=>
 some n7
def DF (N:Nat)(p0:(List AR))(p1:Int):Nat->Int->Option ((Int) ⊕ (Unit))
 | 0,_=>none
 | n+1,i4=>
  if (decide (i4<(Sh.len p0)))=true then
   (GU N p0 i4).bind λq12=>
   (Sh.get p0 i4).bind λtk=>
   (BO p1 q12 (Sh.w ((Sh.w (q12+(Sh.len tk.cons)))-1))).bind λtl=>
   if tl=true then
    some (Sum.inl (Sh.w (i4+1)))
   else
    DF N p0 p1 n (Sh.w (i4+1))
  else
   some (Sum.inr ())
def Cx (N:Nat)(p0:(List AR))(p1:Int):Option (Int):=
 Sh.cont (DF N p0 p1 N 0) (id) λ()=>
 some (-1)
def B5 (N:Nat)(p0:(List AR))(p1:Int):Option (List Int):=
 (Cx N p0 p1).bind λq3=>
 if (decide (q3<1))=true then
  some []
 else
  (Sh.get p0 (Sh.w (q3-1))).bind λc9=>
  (GU N p0 (Sh.w (q3-1))).bind λuN=>
  (Sh.get c9.cons (Sh.w (p1-uN))).bind λc11=>
  some c11.fields
def Es (N:Nat)(p0:(List AR))(p1:Int):Nat->Int->(List Int)->Option (List Int)
 | 0,_,_=>none
 | n+1,i12,l13=>
  (Sh.get p0 (Sh.w (p1-1))).bind λsN=>
  if (decide (i12<(Sh.len sN.cons)))=true then
   (GU N p0 (Sh.w (p1-1))).bind λyS=>
   (Sh.app l13 [Sh.w (yS+i12)] 8).bind λvz=>
   Es N p0 p1 n (Sh.w (i12+1)) vz
  else
   some l13
def J2 (N:Nat)(p0:(List AR))(p1:Int):Option (List Int):=
 (BO p1 1 (Sh.len p0)).bind λq5=>
 if (!q5)=true then
  some []
 else
  (Es N p0 p1 N 0 []).bind λvd=>
  some vd
def Gl (p0:(List AR))(p1:Int):Option (Bool):=
 (
  if (decide (0<=p1))=true then
   some (decide (p1<=(Sh.len p0)))
  else
   some false
 ).bind λt3=>
 some t3
def Eg (p0:(List AR))(p1:(List Int)):Nat->Int->Option ((Bool) ⊕ (Unit))
 | 0,_=>none
 | n+1,t4=>
  if (decide (t4<(Sh.len p1)))=true then
   (Sh.get p1 t4).bind λvB=>
   (Gl p0 vB).bind λq14=>
   if (!q14)=true then
    some (Sum.inl false)
   else
    Eg p0 p1 n (Sh.w (t4+1))
  else
   some (Sum.inr ())
def HF (N:Nat)(p0:(List AR))(p1:(List Int)):Option (Bool):=
 Sh.cont (Eg p0 p1 N 0) (id) λ()=>
 some true
def DC (rn:AR)(l28:(List AR)):Nat->Int->Option ((Bool) ⊕ (Unit))
 | 0,_=>none
 | n+1,t29=>
  if (decide (t29<(Sh.len l28)))=true then
   (Sh.get l28 t29).bind λc36=>
   (
    if (decide ((Sh.len rn.cons)=0))=true then
     if (decide ((Sh.len c36.cons)=0))=true then
      if (decide (c36.from_=rn.from_))=true then
       some (decide (c36.to=rn.to))
      else
       some false
     else
      some false
    else
     some false
   ).bind λt38=>
   if t38=true then
    some (Sum.inl false)
   else
    DC rn l28 n (Sh.w (t29+1))
  else
   some (Sum.inr ())
def DA (N:Nat)(rn:AR)(p0:(List AR)):Nat->Int->Option ((Bool) ⊕ (Unit))
 | 0,_=>none
 | n+1,t25=>
  if (decide (t25<(Sh.len rn.cons)))=true then
   (Sh.get rn.cons t25).bind λc50=>
   (
    if (decide (3<(Sh.len c50.fields)))=true then
     some true
    else
     (HF N p0 c50.fields).bind λq57=>
     some (!q57)
   ).bind λt52=>
   if t52=true then
    some (Sum.inl false)
   else
    DA N rn p0 n (Sh.w (t25+1))
  else
   some (Sum.inr ())
def Dq (N:Nat)(p0:(List AR)):Nat->Int->Option ((Bool) ⊕ (Unit))
 | 0,_=>none
 | n+1,t8=>
  if (decide (t8<(Sh.len p0)))=true then
   (Sh.get p0 t8).bind λrn=>
   (
    Option.bind (Gl p0 rn.from_) λq58=>
    if (!q58)=true then
     some true
    else
     (Gl p0 rn.to).bind λzU=>
     if (!zU)=true then
      some true
     else
     if (decide (3<(Sh.len rn.cons)))=true then
      some true
     else
     if (decide (0<(Sh.len rn.cons)))=true then
      if (!decide (rn.from_=0))=true then
       some true
      else
       some (!decide (rn.to=0))
     else
      some false
   ).bind λt19=>
   if t19=true then
    some (Sum.inl false)
   else
    Sh.cont (DA N rn p0 N 0) (λx=>Sum.inl x) λ()=>
    (Sh.sl p0 0 t8).bind λl28=>
    Sh.cont (DC rn l28 N 0) (λx=>Sum.inl x) λ()=>
    Dq N p0 n (Sh.w (t8+1))
  else
   some (Sum.inr ())
def HN (N:Nat)(p0:(List AR)):Option (Bool):=
 if (decide (4<(Sh.len p0)))=true then
  some false
 else
  Sh.cont (Dq N p0 N 0) (id) λ()=>
  some true
def DR (tF:BM):Nat->Int->Option ((Bool) ⊕ (Unit))
 | 0,_=>none
 | n+1,t26=>
  if (decide (t26<(Sh.len tF.Ao)))=true then
   (Sh.get tF.Ao t26).bind λc33=>
   (
    if (decide (c33<0))=true then
     some true
    else
    if (decide ((Sh.len tF.params)<=c33))=true then
     some true
    else
     (Sh.get tF.params c33).bind λc41=>
     if (decide (c41=0))=true then
      some true
     else
     if (decide (0<t26))=true then
      (Sh.get tF.Ao (Sh.w (t26-1))).bind λc44=>
      some (decide (c33<=c44))
     else
      some false
   ).bind λt35=>
   if t35=true then
    some (Sum.inl false)
   else
    DR tF n (Sh.w (t26+1))
  else
   some (Sum.inr ())
def DV (N:Nat)(p0:(List AR))(p1:(List BM)):Nat->Int->Option ((Bool) ⊕ (Unit))
 | 0,_=>none
 | n+1,t10=>
  if (decide (t10<(Sh.len p1)))=true then
   (Sh.get p1 t10).bind λtF=>
   (
    if (decide (3<(Sh.len tF.params)))=true then
     some true
    else
     (HF N p0 tF.params).bind λxh=>
     if (!xh)=true then
      some true
     else
      (Gl p0 tF.result).bind λq48=>
      some (!q48)
   ).bind λt21=>
   if t21=true then
    some (Sum.inl false)
   else
    Sh.cont (DR tF N 0) (λx=>Sum.inl x) λ()=>
    DV N p0 p1 n (Sh.w (t10+1))
  else
   some (Sum.inr ())
def Hl (N:Nat)(p0:(List AR))(p1:(List BM)):Option (Bool):=
 (
  Option.bind (HN N p0) λq49=>
  if (!q49)=true then
   some true
  else
  if (decide ((Sh.len p1)<1))=true then
   some true
  else
  if (decide (4<(Sh.len p1)))=true then
   some true
  else
   (Sh.get p1 0).bind λc53=>
   if (decide (0<(Sh.len c53.params)))=true then
    some true
   else
    some (!decide (c53.result=0))
 ).bind λt4=>
 if t4=true then
  some false
 else
  Sh.cont (DV N p0 p1 N 0) (id) λ()=>
  some true
def D2 (p0:(List AR)):Nat->Int->Int->Option (Int)
 | 0,_,_=>none
 | n+1,n5,t6=>
  if (decide (t6<(Sh.len p0)))=true then
   (Sh.get p0 t6).bind λtP=>
   D2 p0 n (Sh.w (n5+(Sh.len tP.cons))) (Sh.w (t6+1))
  else
   some n5
def IN (N:Nat)(p0:(List AR)):Option (Int):=
 (D2 p0 N 0 0).bind λn7=>
 some n7
def Eu (tk:AR)(uN:Int):Nat->Int->(List Int)->Option (List Int)
 | 0,_,_=>none
 | n+1,t15,l16=>
  if (decide (t15<(Sh.len tk.cons)))=true then
   (Sh.app l16 [Sh.w (uN+t15)] 8).bind λl25=>
   Eu tk uN n (Sh.w (t15+1)) l25
  else
   some l16
def J9 (N:Nat)(p0:(List AR))(p1:Int):Option (List Int):=
 (
  if (decide (p1<1))=true then
   some true
  else
   some (decide ((Sh.len p0)<p1))
 ).bind λt4=>
 if t4=true then
  some []
 else
  (Sh.sl p0 0 (Sh.w (p1-1))).bind λl9=>
  (IN N l9).bind λuN=>
  (Sh.get p0 (Sh.w (p1-1))).bind λtk=>
  (Eu tk uN N 0 []).bind λl17=>
  some l17
def Eo (p0:(List AR)):Nat->Int->Int->Option ((Int×BN) ⊕ (Unit))
 | 0,_,_=>none
 | n+1,c4,t5=>
  if (decide (t5<(Sh.len p0)))=true then
   (Sh.get p0 t5).bind λvC=>
   (
    if (decide (0<=c4))=true then
     some (decide (c4<(Sh.len vC.cons)))
    else
     some false
   ).bind λt16=>
   if t16=true then
    (Sh.get vC.cons c4).bind λtm=>
    some (Sum.inl (Sh.w (t5+1),tm))
   else
    Eo p0 n (Sh.w (c4-(Sh.len vC.cons))) (Sh.w (t5+1))
  else
   some (Sum.inr ())
def HR (N:Nat)(p0:(List AR))(p1:Int):Option (Int×BN):=
 Sh.cont (Eo p0 N p1 0) (id) λ()=>
 some (-1,BN.mk [])
def GZ (N:Nat)(p0:(List AR))(p1:Int):Option (List Int):=
 (HR N p0 p1).bind λq3=>
 some q3.2.fields
def LL (N:Nat)(p0 p1:BN):Option (Bool):=
 (Gr N p0.fields p1.fields).bind λq4=>
 if (!q4)=true then
  some false
 else
  some true
def FN (N:Nat)(p0:(List BN))(p1:(List BN)):Nat->Int->Option ((Bool) ⊕ (Unit))
 | 0,_=>none
 | n+1,i10=>
  if (decide (i10<(Sh.len p0)))=true then
   (Sh.get p0 i10).bind λtF=>
   (Sh.get p1 i10).bind λsN=>
   (LL N tF sN).bind λtJ=>
   if (!tJ)=true then
    some (Sum.inl false)
   else
    FN N p0 p1 n (Sh.w (i10+1))
  else
   some (Sum.inr ())
def Js (N:Nat)(p0:(List BN))(p1:(List BN)):Option (Bool):=
 if (!decide ((Sh.len p0)=(Sh.len p1)))=true then
  some false
 else
  Sh.cont (FN N p0 p1 N 0) (id) λ()=>
  some true
def Jl (N:Nat)(p0 p1:AR):Option (Bool):=
 if (!decide (p0.from_=p1.from_))=true then
  some false
 else
 if (!decide (p0.to=p1.to))=true then
  some false
 else
  (Js N p0.cons p1.cons).bind λvS=>
  if (!vS)=true then
   some false
  else
   some true
def E5 (N:Nat)(p0:(List AR))(p1:(List AR)):Nat->Int->Option ((Bool) ⊕ (Unit))
 | 0,_=>none
 | n+1,i10=>
  if (decide (i10<(Sh.len p0)))=true then
   (Sh.get p0 i10).bind λtF=>
   (Sh.get p1 i10).bind λsN=>
   (Jl N tF sN).bind λtJ=>
   if (!tJ)=true then
    some (Sum.inl false)
   else
    E5 N p0 p1 n (Sh.w (i10+1))
  else
   some (Sum.inr ())
def JC (N:Nat)(p0:(List AR))(p1:(List AR)):Option (Bool):=
 if (!decide ((Sh.len p0)=(Sh.len p1)))=true then
  some false
 else
  Sh.cont (E5 N p0 p1 N 0) (id) λ()=>
  some true
end RC
namespace RC
end RC
namespace RC
def D1 (p0:(List Block))(rH:Block->Int->Option (Int)):Nat->Int->Int->Option ((Int) ⊕ (Int))
 | 0,_,_=>none
 | n+1,left9,i10=>
  if (decide (i10<(Sh.len p0)))=true then
   (Sh.get p0 i10).bind λsN=>
   (rH sN left9).bind λtJ=>
   if (decide (tJ<0))=true then
    some (Sum.inl (-1))
   else
    D1 p0 rH n tJ (Sh.w (i10+1))
  else
   some (Sum.inr left9)
def IK (N:Nat)(rH:Block->Int->Option (Int))(p0:(List Block))(p1:Int):Option (Int):=
 if (decide ((Sh.w (p1-(Sh.len p0)))<0))=true then
  some (-1)
 else
  Sh.cont (D1 p0 rH N (Sh.w (p1-(Sh.len p0))) 0) (id) λsq=>
  some sq
def Jp (N:Nat)(rH:Block->Int->Option (Int))(p0:Step)(p1:Int):Option (Int):=
 (Gn p0.args p1).bind λq3=>
 if (decide (q3<0))=true then
  some (-1)
 else
  (IK N rH p0.kids q3).bind λq9=>
  if (decide (q9<0))=true then
   some (-1)
  else
   some q9
def EM (N:Nat)(p0:(List Step))(rH:Block->Int->Option (Int)):Nat->Int->Int->Option ((Int) ⊕ (Int))
 | 0,_,_=>none
 | n+1,left9,i10=>
  if (decide (i10<(Sh.len p0)))=true then
   (Sh.get p0 i10).bind λsN=>
   (Jp N rH sN left9).bind λtJ=>
   if (decide (tJ<0))=true then
    some (Sum.inl (-1))
   else
    EM N p0 rH n tJ (Sh.w (i10+1))
  else
   some (Sum.inr left9)
def Ko (N:Nat)(rH:Block->Int->Option (Int))(p0:(List Step))(p1:Int):Option (Int):=
 if (decide ((Sh.w (p1-(Sh.len p0)))<0))=true then
  some (-1)
 else
  Sh.cont (EM N p0 rH N (Sh.w (p1-(Sh.len p0))) 0) (id) λsq=>
  some sq
def JP (N:Nat)(rH:Block->Int->Option (Int))(p0:Block)(p1:Int):Option (Int):=
 (Ko N rH p0.steps p1).bind λq3=>
 if (decide (q3<0))=true then
  some (-1)
 else
  some q3
def F6 (N:Nat):Nat->Block->Int->Option (Int)
 | 0,_,_=>none
 | n+1,p0,p1=>JP N (F6 N n) p0 p1
def Km (N:Nat)(p0:Block)(p1:Int):Option (Int):=F6 N N p0 p1
def Dt (p0:(List Block))(rI:Block->Option (Block)):Nat->Int->(List Block)->Option (List Block)
 | 0,_,_=>none
 | n+1,i6,l7=>
  if (decide (i6<(Sh.len p0)))=true then
   (Sh.get p0 i6).bind λtP=>
   (rI tP).bind λvS=>
   (Sh.get l7 i6).bind λtd=>
   Dt p0 rI n (Sh.w (i6+1)) (Sh.put l7 i6 vS)
  else
   some l7
def Ju (N:Nat)(rI:Block->Option (Block))(p0:(List Block)):Option (List Block):=
 (Sh.mk (Block.mk [] 0) (Sh.len p0) 32).bind λl3=>
 (Dt p0 rI N 0 l3).bind λl8=>
 some l8
def J7 (N:Nat)(rI:Block->Option (Block))(p0:Step):Option (Step):=
 (Gq N p0.args).bind λq7=>
 (Ju N rI p0.kids).bind λq9=>
 some (Step.mk p0.op p0.num p0.A5 q7 q9)
def EK (N:Nat)(p0:(List Step))(rI:Block->Option (Block)):Nat->Int->(List Step)->Option (List Step)
 | 0,_,_=>none
 | n+1,i6,l7=>
  if (decide (i6<(Sh.len p0)))=true then
   (Sh.get p0 i6).bind λtP=>
   (J7 N rI tP).bind λvS=>
   (Sh.get l7 i6).bind λtd=>
   EK N p0 rI n (Sh.w (i6+1)) (Sh.put l7 i6 vS)
  else
   some l7
def Kt (N:Nat)(rI:Block->Option (Block))(p0:(List Step)):Option (List Step):=
 (Sh.mk (Step.mk 0 0 0 [] []) (Sh.len p0) 72).bind λl3=>
 (EK N p0 rI N 0 l3).bind λl8=>
 some l8
def JM (N:Nat)(rI:Block->Option (Block))(p0:Block):Option (Block):=
 (Kt N rI p0.steps).bind λq4=>
 some (Block.mk q4 p0.result)
def F7 (N:Nat):Nat->Block->Option (Block)
 | 0,_=>none
 | n+1,p0=>JM N (F7 N n) p0
def Kr (N:Nat)(p0:Block):Option (Block):=F7 N N p0
def Co (i5:Int)(p0:Block)(rV:Block->Int->Option (Int)):Nat->Int->Int->Option ((Int) ⊕ (Int))
 | 0,_,_=>none
 | n+1,left19,k20=>
  (Sh.get p0.steps i5).bind λve=>
  if (decide (k20<(Sh.len ve.kids)))=true then
   (Sh.get ve.kids k20).bind λc29=>
   (rV c29 left19).bind λxj=>
   if (decide (xj<0))=true then
    some (Sum.inl (-1))
   else
    Co i5 p0 rV n xj (Sh.w (k20+1))
  else
   some (Sum.inr left19)
def Cr (N:Nat)(p0:Block)(rV:Block->Int->Option (Int)):Nat->Int->Int->Option ((Int) ⊕ (Int))
 | 0,_,_=>none
 | n+1,left4,i5=>
  if (decide (i5<(Sh.len p0.steps)))=true then
   if (decide (left4<1))=true then
    some (Sum.inl (-1))
   else
    Sh.cont (Co i5 p0 rV N (Sh.w (left4-1)) 0) (λx=>Sum.inl x) λzV=>
    Cr N p0 rV n zV (Sh.w (i5+1))
  else
   some (Sum.inr left4)
def H5 (N:Nat)(rV:Block->Int->Option (Int))(p0:Block)(p1:Int):Option (Int):=
 Sh.cont (Cr N p0 rV N p1 0) (id) λleft6=>
 some left6
def FK (N:Nat):Nat->Block->Int->Option (Int)
 | 0,_,_=>none
 | n+1,p0,p1=>H5 N (FK N n) p0 p1
def Lb (N:Nat)(p0:Block)(p1:Int):Option (Int):=FK N N p0 p1
def JD (N:Nat)(p0:Block):Option (Int):=
 (Lb N p0 600).bind λq3=>
 if (decide (q3<0))=true then
  some (-1)
 else
  some (Sh.w (600-q3))
def HI (p0:Int):Option (Bool):=
 (BO p0 14 17).bind λq3=>
 some q3
def CX (tk:Step)(rS:Int->Block->Option (Bool×Int)):Nat->Int->Int->Option ((Bool×Int) ⊕ (Int))
 | 0,_,_=>none
 | n+1,t21,f22=>
  if (decide (t21<(Sh.len tk.kids)))=true then
   (Sh.get tk.kids t21).bind λwM=>
   (rS f22 wM).bind λvN=>
   if (!vN.1)=true then
    some (Sum.inl (false,vN.2))
   else
    CX tk rS n (Sh.w (t21+1)) vN.2
  else
   some (Sum.inr f22)
def CV (N:Nat)(p0:Block)(rS:Int->Block->Option (Bool×Int)):Nat->Int->Int->Option ((Bool×Int) ⊕ (Int))
 | 0,_,_=>none
 | n+1,t4,f5=>
  if (decide (t4<(Sh.len p0.steps)))=true then
   (Sh.get p0.steps t4).bind λtk=>
   if (decide (600<(Sh.w (f5+1))))=true then
    some (Sum.inl (false,Sh.w (f5+1)))
   else
    Sh.cont (CX tk rS N 0 (Sh.w (f5+1))) (λx=>Sum.inl x) λf23=>
    CV N p0 rS n (Sh.w (t4+1)) f23
  else
   some (Sum.inr f5)
def Ha (N:Nat)(rS:Int->Block->Option (Bool×Int))(rq:Int)(p0:Block):Option (Bool×Int):=
 Sh.cont (CV N p0 rS N 0 rq) (id) λf6=>
 some (true,f6)
def E4 (N:Nat):Nat->Int->Block->Option (Bool×Int)
 | 0,_,_=>none
 | n+1,rq,p0=>Ha N (E4 N n) rq p0
def KN (N:Nat)(rq:Int)(p0:Block):Option (Bool×Int):=E4 N N rq p0
def JB (N:Nat)(p0:Block):Option (Int):=
 (KN N 0 p0).bind λq5=>
 if (!q5.1)=true then
  some (-1)
 else
  some q5.2
def Ch (p0:Int):Option (Bool):=
 (
  if (decide (14<=p0))=true then
   some (decide (p0<=17))
  else
   some false
 ).bind λt3=>
 some t3
def D3 (p0:(List Block))(p1:(List Block))(rJ:Block->Block->Option (Bool)):Nat->Int->Option ((Bool) ⊕ (Unit))
 | 0,_=>none
 | n+1,i10=>
  if (decide (i10<(Sh.len p0)))=true then
   (Sh.get p0 i10).bind λtF=>
   (Sh.get p1 i10).bind λsN=>
   (rJ tF sN).bind λtJ=>
   if (!tJ)=true then
    some (Sum.inl false)
   else
    D3 p0 p1 rJ n (Sh.w (i10+1))
  else
   some (Sum.inr ())
def Jm (N:Nat)(rJ:Block->Block->Option (Bool))(p0:(List Block))(p1:(List Block)):Option (Bool):=
 if (!decide ((Sh.len p0)=(Sh.len p1)))=true then
  some false
 else
  Sh.cont (D3 p0 p1 rJ N 0) (id) λ()=>
  some true
def J3 (N:Nat)(rJ:Block->Block->Option (Bool))(p0 p1:Step):Option (Bool):=
 if (!decide (p0.op=p1.op))=true then
  some false
 else
 if (!decide (p0.num=p1.num))=true then
  some false
 else
 if (!decide (p0.A5=p1.A5))=true then
  some false
 else
  (Gr N p0.args p1.args).bind λyS=>
  if (!yS)=true then
   some false
  else
   (Jm N rJ p0.kids p1.kids).bind λwL=>
   if (!wL)=true then
    some false
   else
    some true
def EO (N:Nat)(p0:(List Step))(p1:(List Step))(rJ:Block->Block->Option (Bool)):Nat->Int->Option ((Bool) ⊕ (Unit))
 | 0,_=>none
 | n+1,i10=>
  if (decide (i10<(Sh.len p0)))=true then
   (Sh.get p0 i10).bind λtF=>
   (Sh.get p1 i10).bind λsN=>
   (J3 N rJ tF sN).bind λtJ=>
   if (!tJ)=true then
    some (Sum.inl false)
   else
    EO N p0 p1 rJ n (Sh.w (i10+1))
  else
   some (Sum.inr ())
def Kn (N:Nat)(rJ:Block->Block->Option (Bool))(p0:(List Step))(p1:(List Step)):Option (Bool):=
 if (!decide ((Sh.len p0)=(Sh.len p1)))=true then
  some false
 else
  Sh.cont (EO N p0 p1 rJ N 0) (id) λ()=>
  some true
def JH (N:Nat)(rJ:Block->Block->Option (Bool))(p0 p1:Block):Option (Bool):=
 (Kn N rJ p0.steps p1.steps).bind λq4=>
 if (!q4)=true then
  some false
 else
 if (!decide (p0.result=p1.result))=true then
  some false
 else
  some true
def F8 (N:Nat):Nat->Block->Block->Option (Bool)
 | 0,_,_=>none
 | n+1,p0,p1=>JH N (F8 N n) p0 p1
def Ks (N:Nat)(p0 p1:Block):Option (Bool):=F8 N N p0 p1
end RC
namespace RC
def Td (p0:(List Da))(sy:Da->Int->Option (Int)):Nat->Int->Int->Option ((Int) ⊕ (Int))
 | 0,_,_=>none
 | n+1,left9,i10=>
  if (decide (i10<(Sh.len p0)))=true then
   (Sh.get p0 i10).bind λsN=>
   (sy sN left9).bind λtJ=>
   if (decide (tJ<0))=true then
    some (Sum.inl (-1))
   else
    Td p0 sy n tJ (Sh.w (i10+1))
  else
   some (Sum.inr left9)
def TZ (p0:Dg)(p1:(List Int))(p2:(List Da))(p3:Int)(tC:Dg->(List Int)->Da->Option (Int)):Nat->Int->Option ((Bool) ⊕ (Unit))
 | 0,_=>none
 | n+1,i10=>
  if (decide (i10<p3))=true then
   (Sh.get p2 i10).bind λtF=>
   (tC p0 p1 tF).bind λvO=>
   if (!decide (vO=0))=true then
    some (Sum.inl false)
   else
    TZ p0 p1 p2 p3 tC n (Sh.w (i10+1))
  else
   some (Sum.inr ())
def Dc (p0:(List Int)):Option (List Int):=
 (Sh.app ([]:List Int) p0 8).bind λl3=>
 some l3
def Ik (p0:(List Int))(p1:(List Int)):Option (List Int):=
 (Dc p0).bind λq3=>
 (Sh.app q3 p1 8).bind λl4=>
 some l4
def ER (p0:(List AR))(p1 p2:Int):Nat->Int->Option ((Int) ⊕ (Unit))
 | 0,_=>none
 | n+1,i4=>
  if (decide (i4<(Sh.len p0)))=true then
   (
    Option.bind (Sh.get p0 i4) λrn=>
    if (decide ((Sh.len rn.cons)=0))=true then
     if (decide (rn.from_=p1))=true then
      some (decide (rn.to=p2))
     else
      some false
    else
     some false
   ).bind λt12=>
   if t12=true then
    some (Sum.inl (Sh.w (i4+1)))
   else
    ER p0 p1 p2 n (Sh.w (i4+1))
  else
   some (Sum.inr ())
def Hw (N:Nat)(p0:(List AR))(p1 p2:Int):Option (Int):=
 Sh.cont (ER p0 p1 p2 N 0) (id) λ()=>
 some (-1)
def Gy (p0:(List AR))(p1:Int):Option (Bool):=
 (
  Option.bind (BO p1 1 (Sh.len p0)) λq5=>
  if q5=true then
   (Sh.get p0 (Sh.w (p1-1))).bind λc7=>
   some (decide ((Sh.len c7.cons)=0))
  else
   some false
 ).bind λt3=>
 some t3
def Fg (p1:Int):Option (List Int):=
 if (decide (p1<0))=true then
  none
 else
  (
   if (decide (0<(Sh.w (p1-(Sh.w (0-0))))))=true then
    (Sh.mk 0 (Sh.w (p1-(Sh.w (0-0)))) 8).bind λl12=>
    (Sh.hi l12 0).bind λl13=>
    some l13
   else
    some []
  ).bind λl6=>
  some l6
def Bm (p0:(List (List Int))):Nat->Int->(List Int)->Option (List Int)
 | 0,_,_=>none
 | n+1,t13,vd=>
  if (decide (t13<(Sh.len p0)))=true then
   (Sh.get p0 t13).bind λc23=>
   (Sh.app vd c23 8).bind λl24=>
   Bm p0 n (Sh.w (t13+1)) l24
  else
   some vd
def Bl (p0:(List (List Int))):Nat->Int->Int->Option (Int)
 | 0,_,_=>none
 | n+1,size5,t6=>
  if (decide (t6<(Sh.len p0)))=true then
   (Sh.get p0 t6).bind λwM=>
   if (decide ((Sh.w (size5+(Sh.len wM)))<0))=true then
    none
   else
    Bl p0 n (Sh.w (size5+(Sh.len wM))) (Sh.w (t6+1))
  else
   some size5
def EN (N:Nat)(p0:(List (List Int))):Option (List Int):=
 (Bl p0 N 0 0).bind λsize7=>
 (Fg size7).bind λuN=>
 (Bm p0 N 0 uN).bind λxT=>
 some xT
def Gx (p0:(List AR))(p1:Int):Option (AR×Bool):=
 (
  if (decide (p1<1))=true then
   some true
  else
  if (decide ((Sh.len p0)<p1))=true then
   some true
  else
   (Sh.get p0 (Sh.w (p1-1))).bind λvB=>
   some (decide (0<(Sh.len vB.cons)))
 ).bind λt4=>
 if t4=true then
  some (AR.mk 0 0 [],false)
 else
  (Sh.get p0 (Sh.w (p1-1))).bind λc9=>
  some (c9,true)
def CE (p0:(List Int))(p1:(List Int)):Nat->Int->Option ((Bool) ⊕ (Unit))
 | 0,_=>none
 | n+1,t10=>
  if (decide (t10<(Sh.len p0)))=true then
   (Sh.get p0 t10).bind λsN=>
   (Sh.get p1 t10).bind λtm=>
   if (!decide (sN=tm))=true then
    some (Sum.inl false)
   else
    CE p0 p1 n (Sh.w (t10+1))
  else
   some (Sum.inr ())
def CZ (N:Nat)(p0:(List Int))(p1:(List Int)):Option (Bool):=
 if (!decide ((Sh.len p0)=(Sh.len p1)))=true then
  some false
 else
  Sh.cont (CE p0 p1 N 0) (id) λ()=>
  some true
def EJ (p0:(List AR))(p1 p2:Int):Nat->Int->Option ((Int) ⊕ (Unit))
 | 0,_=>none
 | n+1,t4=>
  if (decide (t4<(Sh.len p0)))=true then
   (Sh.get p0 t4).bind λvB=>
   (
    if (decide ((Sh.len vB.cons)=0))=true then
     if (decide (vB.from_=p1))=true then
      some (decide (vB.to=p2))
     else
      some false
    else
     some false
   ).bind λt14=>
   if t14=true then
    some (Sum.inl (Sh.w (t4+1)))
   else
    EJ p0 p1 p2 n (Sh.w (t4+1))
  else
   some (Sum.inr ())
def I7 (N:Nat)(p0:(List AR))(p1 p2:Int):Option (Int):=
 Sh.cont (EJ p0 p1 p2 N 0) (id) λ()=>
 some (-1)
def Af (N:Nat)(p0:Aq)(p1 p2:Int)(p3:(List Int)):Option (Int×Bool):=
 Sh.cont (
  if (decide (p1=0))=true then
   (
    if (decide ((-999)<=p2))=true then
     if (decide (p2<=999))=true then
      some (decide ((Sh.len p3)=0))
     else
      some false
    else
     some false
   ).bind λt15=>
   some (Sum.inl (0,t15))
  else
   (
    if (decide (p1=1))=true then
     some true
    else
    if (decide (p1=2))=true then
     some true
    else
    if (decide (p1=3))=true then
     some true
    else
     some (decide (p1=4))
   ).bind λt20=>
   if t20=true then
    some (Sum.inr [(0:Int),0])
   else
   if (decide (p1=5))=true then
    some (Sum.inr [(0:Int)])
   else
   if (decide (p1=11))=true then
    if (!decide ((Sh.len p3)=2))=true then
     some (Sum.inl (-1,false))
    else
     (Sh.get p3 0).bind λc34=>
     (Gx p0.decls c34).bind λq35=>
     (
      if q35.2=true then
       (Sh.get p3 1).bind λc41=>
       if (decide (c41=q35.1.from_))=true then
        some (decide (p2=0))
       else
        some false
      else
       some false
     ).bind λt38=>
     some (Sum.inl (q35.1.to,t38))
   else
   if (decide (p1=6))=true then
    (HR N p0.decls p2).bind λq40=>
    (
     if (decide (0<=q40.1))=true then
      (CZ N p3 q40.2.fields).bind λvq=>
      some vq
     else
      some false
    ).bind λt42=>
    some (Sum.inl (q40.1,t42))
   else
    (
     if (decide (p1=9))=true then
      some true
     else
      some (decide (p1=10))
    ).bind λt47=>
    if t47=true then
     (
      if (decide (p2<0))=true then
       some true
      else
       some (decide ((Sh.len p0.funcs)<=p2))
     ).bind λt52=>
     if t52=true then
      some (Sum.inl (-1,false))
     else
      (Sh.get p0.funcs p2).bind λyU=>
      if (decide (p1=9))=true then
       (CZ N p3 yU.params).bind λq62=>
       some (Sum.inl (yU.result,q62))
      else
      if (decide ((Sh.w ((Sh.len yU.params)-1))<0))=true then
       some (Sum.inl (-1,false))
      else
       (Sh.get yU.params (Sh.w ((Sh.len yU.params)-1))).bind λc69=>
       (I7 N p0.decls c69 yU.result).bind λq70=>
       (
        if (decide (0<=q70))=true then
         (Sh.sl yU.params 0 (Sh.w ((Sh.len yU.params)-1))).bind λl75=>
         (CZ N p3 l75).bind λq76=>
         some q76
        else
         some false
       ).bind λt72=>
       some (Sum.inl (q70,t72))
    else
     some (Sum.inl (-1,false))
 ) (id) λl4=>
 (
  if (decide (p2=0))=true then
   (CZ N p3 l4).bind λuN=>
   some uN
  else
   some false
 ).bind λt7=>
 some (0,t7)
end RC
namespace RC
def He (N:Nat)(p0:AP)(p1:Int):Option (Int):=
 (Gn p0.params p1).bind λq3=>
 if (decide (q3<0))=true then
  some (-1)
 else
  (Gn p0.Ao q3).bind λq9=>
  if (decide (q9<0))=true then
   some (-1)
  else
   (Km N p0.body q9).bind λtl=>
   if (decide (tl<0))=true then
    some (-1)
   else
    some tl
def Dp (N:Nat)(p0:(List AP)):Nat->Int->Int->Option ((Int) ⊕ (Int))
 | 0,_,_=>none
 | n+1,left9,i10=>
  if (decide (i10<(Sh.len p0)))=true then
   (Sh.get p0 i10).bind λsN=>
   (He N sN left9).bind λtJ=>
   if (decide (tJ<0))=true then
    some (Sum.inl (-1))
   else
    Dp N p0 n tJ (Sh.w (i10+1))
  else
   some (Sum.inr left9)
def HG (N:Nat)(p0:(List AP))(p1:Int):Option (Int):=
 if (decide ((Sh.w (p1-(Sh.len p0)))<0))=true then
  some (-1)
 else
  Sh.cont (Dp N p0 N (Sh.w (p1-(Sh.len p0))) 0) (id) λsq=>
  some sq
def IM (N:Nat)(p0:AL)(p1:Int):Option (Int):=
 (JE N p0.decls p1).bind λq3=>
 if (decide (q3<0))=true then
  some (-1)
 else
  (HG N p0.AB q3).bind λq9=>
  if (decide (q9<0))=true then
   some (-1)
  else
   some q9
def Hi (N:Nat)(p0:AP):Option (AP):=
 (Gq N p0.params).bind λq4=>
 (Gq N p0.Ao).bind λq6=>
 (Kr N p0.body).bind λq9=>
 some (AP.mk q4 q6 p0.result q9)
def Dn (N:Nat)(p0:(List AP)):Nat->Int->(List AP)->Option (List AP)
 | 0,_,_=>none
 | n+1,i6,l7=>
  if (decide (i6<(Sh.len p0)))=true then
   (Sh.get p0 i6).bind λtP=>
   (Hi N tP).bind λvS=>
   (Sh.get l7 i6).bind λtd=>
   Dn N p0 n (Sh.w (i6+1)) (Sh.put l7 i6 vS)
  else
   some l7
def HA (N:Nat)(p0:(List AP)):Option (List AP):=
 (Sh.mk (AP.mk [] [] 0 (Block.mk [] 0)) (Sh.len p0) 88).bind λl3=>
 (Dn N p0 N 0 l3).bind λl8=>
 some l8
def Fu (N:Nat)(p0:AL):Option (AL):=
 (I8 N p0.decls).bind λq4=>
 (HA N p0.AB).bind λq6=>
 some (AL.mk q4 q6)
def Er (p0:AL):Nat->Int->(List HZ)->Option (List HZ)
 | 0,_,_=>none
 | n+1,i5,l6=>
  if (decide (i5<(Sh.len p0.AB)))=true then
   (Sh.get p0.AB i5).bind λtk=>
   (Sh.app l6 ([HZ.mk tk.params tk.result (Da.mk 0 0 [])]) 72).bind λxT=>
   Er p0 n (Sh.w (i5+1)) xT
  else
   some l6
def KC (N:Nat)(p0:AL):Option (Dg):=
 (Er p0 N 0 []).bind λl7=>
 some (Dg.mk p0.decls l7)
def CD (N:Nat)(p0:AL):Nat->Int->Option ((Bool) ⊕ (Unit))
 | 0,_=>none
 | n+1,i10=>
  if (decide (i10<(Sh.len p0.AB)))=true then
   (Sh.get p0.AB i10).bind λtF=>
   (Hq N tF.params tF.Ao).bind λvO=>
   if (!vO)=true then
    some (Sum.inl false)
   else
    CD N p0 n (Sh.w (i10+1))
  else
   some (Sum.inr ())
def FR (N:Nat)(p0:AL):Option (Bool):=
 (
  if (decide (4<(Sh.len p0.AB)))=true then
   some true
  else
   (KC N p0).bind λq25=>
   (Hv N q25).bind λwA=>
   some (!wA)
 ).bind λt4=>
 if t4=true then
  some false
 else
  Sh.cont (CD N p0 N 0) (id) λ()=>
  some true
def Ii (p0:Int):Option (Bool):=
 (
  if (decide (p0=0))=true then
   some true
  else
  if (decide (p0=6))=true then
   some true
  else
  if (decide (p0=8))=true then
   some true
  else
  if (decide (p0=9))=true then
   some true
  else
   some (decide (p0=10))
 ).bind λt3=>
 some t3
def BP (p0:(List Int))(p1:Step):Option (Bool):=
 if (decide (p1.A5=0))=true then
  some true
 else
  (
   if (decide (p1.op=6))=true then
    (BO p1.A5 1 (Sh.len p0)).bind λuN=>
    if uN=true then
     (Sh.get p0 (Sh.w (p1.A5-1))).bind λvB=>
     some (decide (0<vB))
    else
     some false
   else
    some false
  ).bind λt7=>
  some t7
def Fx (p0:(List Int))(p1:(List Int))(p2:(List Int)):Nat->Int->Option ((Bool) ⊕ (Unit))
 | 0,_=>none
 | n+1,i10=>
  if (decide (i10<(Sh.len p1)))=true then
   (
    Option.bind (Sh.get p1 i10) λuB=>
    (BO uB 0 (Sh.w ((Sh.len p0)-1))).bind λyV=>
    if (!yV)=true then
     some true
    else
     (Sh.get p0 uB).bind λve=>
     (Sh.get p2 i10).bind λvk=>
     some (!decide (ve=vk))
   ).bind λt18=>
   if t18=true then
    some (Sum.inl false)
   else
    Fx p0 p1 p2 n (Sh.w (i10+1))
  else
   some (Sum.inr ())
def Bd (N:Nat)(p0:(List Int))(p1:(List Int))(p2:(List Int)):Option (Bool):=
 if (!decide ((Sh.len p1)=(Sh.len p2)))=true then
  some false
 else
  Sh.cont (Fx p0 p1 p2 N 0) (id) λ()=>
  some true
def Eh (N:Nat)(tu:Int)(p0:AL)(p1:(List Int))(p2:Step)(q3:(List Int))(rG:AL->(List Int)->Block->Option (Int)):Nat->Int->Int->Option ((Int) ⊕ (Int))
 | 0,_,_=>none
 | n+1,t17,i18=>
  if (decide (i18<tu))=true then
   (
    if (decide (p2.op=8))=true then
     (Sh.get q3 i18).bind λxA=>
     (B5 N p0.decls xA).bind λq44=>
     (Ik p1 q44).bind λvq=>
     some vq
    else
     some p1
   ).bind λvP=>
   (Sh.get p2.kids i18).bind λyW=>
   (rG p0 vP yW).bind λvN=>
   (
    if (decide (vN<0))=true then
     some true
    else
    if (decide (0<i18))=true then
     some (!decide (vN=t17))
    else
     some false
   ).bind λt35=>
   if t35=true then
    some (Sum.inl (-1))
   else
    Eh N tu p0 p1 p2 q3 rG n vN (Sh.w (i18+1))
  else
   some (Sum.inr t17)
def Ff (N:Nat)(rG:AL->(List Int)->Block->Option (Int))(p0:AL)(p1:(List Int))(p2:Step):Option (Int):=
 (J2 N p0.decls p2.num).bind λq3=>
 (
  if (decide (p2.op=7))=true then
   some 2
  else
   some (Sh.len q3)
 ).bind λtu=>
 (
  if (decide (tu=0))=true then
   some true
  else
   some (!decide ((Sh.len p2.kids)=tu))
 ).bind λt10=>
 if t10=true then
  some (-1)
 else
  Sh.cont (Eh N tu p0 p1 p2 q3 rG N 0 0) (id) λt19=>
  some t19
def Eb (N:Nat)(p0:AL)(p1:(List Int))(p2:Step):Option (Int):=
 (BO p2.num 0 (Sh.w ((Sh.len p0.AB)-1))).bind λq4=>
 if (!q4)=true then
  some (-1)
 else
  (Sh.get p0.AB p2.num).bind λwW=>
  if (decide (p2.op=9))=true then
   (Bd N p1 p2.args wW.params).bind λuC=>
   if (!uC)=true then
    some (-1)
   else
    some wW.result
  else
   (
    if (decide ((Sh.len wW.params)=0))=true then
     some true
    else
    if (decide (0<(Sh.len wW.Ao)))=true then
     some true
    else
     (Sh.sl wW.params 0 (Sh.w ((Sh.len wW.params)-1))).bind λl34=>
     (Bd N p1 p2.args l34).bind λq35=>
     some (!q35)
   ).bind λt25=>
   if t25=true then
    some (-1)
   else
    (Sh.get wW.params (Sh.w ((Sh.len wW.params)-1))).bind λwM=>
    (Hw N p0.decls wM wW.result).bind λwz=>
    some wz
def FX (p0:AL)(p1:(List Int))(p2:Step):Option (Int):=
 (
  if (!decide ((Sh.len p2.args)=1))=true then
   some true
  else
   (Sh.get p2.args 0).bind λxB=>
   (BO xB 0 (Sh.w ((Sh.len p1)-1))).bind λyS=>
   if (!yS)=true then
    some true
   else
    (Sh.get p1 xB).bind λxC=>
    some (decide (xC=0))
 ).bind λt4=>
 if t4=true then
  some (-1)
 else
  (
   if (!decide (p2.op=14))=true then
    if (!decide (p2.op=15))=true then
     (Sh.get p2.args 0).bind λtd=>
     (Sh.get p1 td).bind λtF=>
     (Gy p0.decls tF).bind λvO=>
     some vO
    else
     some false
   else
    some false
  ).bind λt10=>
  if t10=true then
   some (-1)
  else
   some 0
def Em (N:Nat)(rG:AL->(List Int)->Block->Option (Int))(p0:AL)(p1:(List Int))(p2:Step):Option (Int):=
 (
  if (!decide (p2.num=0))=true then
   (Ii p2.op).bind λzW=>
   if (!zW)=true then
    some true
   else
    (BP p1 p2).bind λzX=>
    if (!zX)=true then
     some true
    else
    if (decide (0<(Sh.len p2.kids)))=true then
     if (!decide (p2.op=7))=true then
      some (!decide (p2.op=8))
     else
      some false
    else
     some false
  else
   (BP p1 p2).bind λzY=>
   if (!zY)=true then
    some true
   else
   if (decide (0<(Sh.len p2.kids)))=true then
    if (!decide (p2.op=7))=true then
     some (!decide (p2.op=8))
    else
     some false
   else
    some false
 ).bind λt4=>
 if t4=true then
  some (-1)
 else
  Sh.cont (
   if (decide (p2.op=0))=true then
    (
     if (decide ((Sh.len p2.args)=0))=true then
      (BO p2.num (-999) 999).bind λtJ=>
      some tJ
     else
      some false
    ).bind λt15=>
    if t15=true then
     some (Sum.inl 0)
    else
     some (Sum.inr ())
   else
    (
     if (decide (p2.op=1))=true then
      some true
     else
     if (decide (p2.op=2))=true then
      some true
     else
     if (decide (p2.op=3))=true then
      some true
     else
      some (decide (p2.op=4))
    ).bind λt22=>
    if t22=true then
     (Bd N p1 p2.args [(0:Int),0]).bind λwA=>
     if wA=true then
      some (Sum.inl 0)
     else
      some (Sum.inr ())
    else
    if (decide (p2.op=5))=true then
     (Bd N p1 p2.args [(0:Int)]).bind λvN=>
     if vN=true then
      some (Sum.inl 0)
     else
      some (Sum.inr ())
    else
    if (decide (p2.op=6))=true then
     (
      Option.bind (Cx N p0.decls p2.num) λwX=>
      if (decide (0<wX))=true then
       (B5 N p0.decls p2.num).bind λvq=>
       (Bd N p1 p2.args vq).bind λxh=>
       some xh
      else
       some false
     ).bind λt38=>
     if t38=true then
      (Cx N p0.decls p2.num).bind λq42=>
      some (Sum.inl q42)
     else
      some (Sum.inr ())
    else
    if (decide (p2.op=7))=true then
     (Bd N p1 p2.args [(0:Int)]).bind λzZ=>
     if zZ=true then
      (Ff N rG p0 p1 p2).bind λq53=>
      some (Sum.inl q53)
     else
      some (Sum.inr ())
    else
    if (decide (p2.op=8))=true then
     (Bd N p1 p2.args [p2.num]).bind λq57=>
     if q57=true then
      (Ff N rG p0 p1 p2).bind λzU=>
      some (Sum.inl zU)
     else
      some (Sum.inr ())
    else
     (
      if (decide (p2.op=9))=true then
       some true
      else
       some (decide (p2.op=10))
     ).bind λt62=>
     if t62=true then
      (Eb N p0 p1 p2).bind λq66=>
      some (Sum.inl q66)
     else
     if (decide (p2.op=11))=true then
      (
       if (decide ((Sh.len p2.args)=2))=true then
        (Sh.get p2.args 0).bind λc79=>
        (BO c79 0 (Sh.w ((Sh.len p1)-1))).bind λza=>
        if za=true then
         (Sh.get p1 c79).bind λxk=>
         (Gy p0.decls xk).bind λq83=>
         some q83
        else
         some false
       else
        some false
      ).bind λt70=>
      if t70=true then
       (Sh.get p2.args 0).bind λc74=>
       (Sh.get p1 c74).bind λc75=>
       (Sh.get p0.decls (Sh.w (c75-1))).bind λc76=>
       (Sh.sl p2.args 1 (Sh.len p2.args)).bind λl79=>
       (Bd N p1 l79 [c76.from_]).bind λza=>
       if za=true then
        some (Sum.inl c76.to)
       else
        some (Sum.inr ())
      else
       some (Sum.inr ())
     else
      (
       if (decide (p2.op=14))=true then
        some true
       else
       if (decide (p2.op=15))=true then
        some true
       else
       if (decide (p2.op=16))=true then
        some true
       else
        some (decide (p2.op=17))
      ).bind λt85=>
      if t85=true then
       (FX p0 p1 p2).bind λq89=>
       some (Sum.inl q89)
      else
       some (Sum.inr ())
  ) (id) λ()=>
  some (-1)
def BE (N:Nat)(p0:AL)(p2:Block)(rG:AL->(List Int)->Block->Option (Int)):Nat->Int->(List Int)->Option ((Int) ⊕ (List Int))
 | 0,_,_=>none
 | n+1,i6,l7=>
  if (decide (i6<(Sh.len p2.steps)))=true then
   Sh.cont (
    (Sh.get p2.steps i6).bind λvk=>
    (Em N rG p0 l7 vk).bind λwO=>
    if (decide (wO<0))=true then
     some (Sum.inl (Sum.inl (-1)))
    else
     (Gv vk.op).bind λwP=>
     if wP=true then
      (Sh.app l7 [wO] 8).bind λzb=>
      some (Sum.inr zb)
     else
      some (Sum.inr l7)
   ) (id) λvz=>
   BE N p0 p2 rG n (Sh.w (i6+1)) vz
  else
   some (Sum.inr l7)
def Dx (N:Nat)(rG:AL->(List Int)->Block->Option (Int))(p0:AL)(p1:(List Int))(p2:Block):Option (Int):=
 (Dc p1).bind λq3=>
 Sh.cont (BE N p0 p2 rG N 0 q3) (id) λl8=>
 (BO p2.result 0 (Sh.w ((Sh.len l8)-1))).bind λq12=>
 if (!q12)=true then
  some (-1)
 else
  (Sh.get l8 p2.result).bind λtF=>
  some tF
def Cv (N:Nat):Nat->AL->(List Int)->Block->Option (Int)
 | 0,_,_,_=>none
 | n+1,p0,p1,p2=>Dx N (Cv N n) p0 p1 p2
def Bp (N:Nat)(p0:AL)(p1:(List Int))(p2:Block):Option (Int):=Cv N N p0 p1 p2
def Bx (N:Nat)(p0:AL):Nat->Int->Option ((Bool) ⊕ (Unit))
 | 0,_=>none
 | n+1,i11=>
  if (decide (i11<(Sh.len p0.AB)))=true then
   (Sh.get p0.AB i11).bind λsN=>
   (
    Option.bind (JD N sN.body) λq25=>
    if (decide (q25<0))=true then
     some true
    else
     (Bp N p0 sN.params sN.body).bind λwO=>
     some (!decide (wO=sN.result))
   ).bind λt21=>
   if t21=true then
    some (Sum.inl false)
   else
    Bx N p0 n (Sh.w (i11+1))
  else
   some (Sum.inr ())
def Ea (N:Nat)(p0:AL):Option (Bool):=
 (FR N p0).bind λq4=>
 if (!q4)=true then
  some false
 else
  Sh.cont (Bx N p0 N 0) (id) λ()=>
  some true
def CW (i4:Int)(p0:Block)(rT:Block->Option (Bool)):Nat->Int->Option ((Bool) ⊕ (Unit))
 | 0,_=>none
 | n+1,k18=>
  (Sh.get p0.steps i4).bind λuB=>
  if (decide (k18<(Sh.len uB.kids)))=true then
   (Sh.get uB.kids k18).bind λvk=>
   (rT vk).bind λwO=>
   if (!wO)=true then
    some (Sum.inl false)
   else
    CW i4 p0 rT n (Sh.w (k18+1))
  else
   some (Sum.inr ())
def C1 (N:Nat)(p0:Block)(rT:Block->Option (Bool)):Nat->Int->Option ((Bool) ⊕ (Unit))
 | 0,_=>none
 | n+1,i4=>
  if (decide (i4<(Sh.len p0.steps)))=true then
   (
    Option.bind (Sh.get p0.steps i4) λc32=>
    (HI c32.op).bind λwP=>
    if wP=true then
     some true
    else
     some (!decide (c32.A5=0))
   ).bind λt13=>
   if t13=true then
    some (Sum.inl false)
   else
    Sh.cont (CW i4 p0 rT N 0) (λx=>Sum.inl x) λ()=>
    C1 N p0 rT n (Sh.w (i4+1))
  else
   some (Sum.inr ())
def HV (N:Nat)(rT:Block->Option (Bool))(p0:Block):Option (Bool):=
 Sh.cont (C1 N p0 rT N 0) (id) λ()=>
 some true
def E0 (N:Nat):Nat->Block->Option (Bool)
 | 0,_=>none
 | n+1,p0=>HV N (E0 N n) p0
def Ih (N:Nat)(p0:Block):Option (Bool):=E0 N N p0
def E7 (N:Nat)(p0:AL):Nat->Int->Option ((Bool) ⊕ (Unit))
 | 0,_=>none
 | n+1,i11=>
  if (decide (i11<(Sh.len p0.AB)))=true then
   (Sh.get p0.AB i11).bind λsN=>
   (Ih N sN.body).bind λtJ=>
   if (!tJ)=true then
    some (Sum.inl false)
   else
    E7 N p0 n (Sh.w (i11+1))
  else
   some (Sum.inr ())
def Gw (N:Nat)(p0:AL):Option (Bool):=
 (Ea N p0).bind λq4=>
 if (!q4)=true then
  some false
 else
  Sh.cont (E7 N p0 N 0) (id) λ()=>
  some true
def Mz (N:Nat)(p0:AL):Option (Bool):=
 (Gw N p0).bind λq3=>
 some q3
def Cc (p0:AL):Nat->Int->(List BM)->Option (List BM)
 | 0,_,_=>none
 | n+1,t9,ze=>
  if (decide (t9<(Sh.len p0.AB)))=true then
   (Sh.get p0.AB t9).bind λtm=>
   (Sh.app ze [BM.mk tm.params tm.Ao tm.result] 56).bind λxU=>
   Cc p0 n (Sh.w (t9+1)) xU
  else
   some ze
def GK (N:Nat)(p0:AL):Option (Aq×Bool):=
 if (decide (4<(Sh.len p0.AB)))=true then
  some (Aq.mk [] [],false)
 else
  (Cc p0 N 0 []).bind λl11=>
  (Hl N p0.decls l11).bind λq14=>
  some (Aq.mk p0.decls l11,q14)
def Bj (N:Nat)(p0:Aq)(p1:(List Int))(p2:(List Block))(p3:(List (List Int)))(rE:Aq->(List Int)->Block->Option (Int)):Nat->Int->Int->Option ((Int×Bool) ⊕ (Int))
 | 0,_,_=>none
 | n+1,sj,t6=>
  if (decide (t6<(Sh.len p2)))=true then
   (Sh.get p2 t6).bind λtP=>
   (Sh.get p3 t6).bind λtd=>
   (EN N [p1,td]).bind λzh=>
   (rE p0 zh tP).bind λvO=>
   (
    if (decide (vO<0))=true then
     some true
    else
    if (decide (0<t6))=true then
     some (!decide (vO=sj))
    else
     some false
   ).bind λt22=>
   if t22=true then
    some (Sum.inl (-1,false))
   else
    Bj N p0 p1 p2 p3 rE n vO (Sh.w (t6+1))
  else
   some (Sum.inr sj)
def B6 (N:Nat)(rE:Aq->(List Int)->Block->Option (Int))(p0:Aq)(p1:(List Int))(p2:(List Block))(p3:(List (List Int))):Option (Int×Bool):=
 Sh.cont (Bj N p0 p1 p2 p3 rE N (-1) 0) (id) λtQ=>
 some (tQ,true)
def BX (N:Nat)(p0:Aq)(q5:(List Int)):Nat->Int->(List (List Int))->Option (List (List Int))
 | 0,_,_=>none
 | n+1,t6,l7=>
  if (decide (t6<(Sh.len q5)))=true then
   (Sh.get q5 t6).bind λrn=>
   (GZ N p0.decls rn).bind λuC=>
   (Sh.app l7 [uC] 24).bind λxl=>
   BX N p0 q5 n (Sh.w (t6+1)) xl
  else
   some l7
def CM (N:Nat)(p0:Aq)(p1:Int):Option (List (List Int)):=
 (J9 N p0.decls p1).bind λq5=>
 (BX N p0 q5 N 0 []).bind λl8=>
 some l8
def BF (p1:(List Int))(p2:Step):Nat->Int->(List Int)->Option ((Int×Bool) ⊕ (List Int))
 | 0,_,_=>none
 | n+1,t6,l7=>
  if (decide (t6<(Sh.len p2.args)))=true then
   (Sh.get p2.args t6).bind λc94=>
   (
    if (decide (c94<0))=true then
     some true
    else
     some (decide ((Sh.len p1)<=c94))
   ).bind λt97=>
   if t97=true then
    some (Sum.inl (-1,false))
   else
    (Sh.get p1 c94).bind λc101=>
    (Sh.app l7 [c101] 8).bind λl102=>
    BF p1 p2 n (Sh.w (t6+1)) l102
  else
   some (Sum.inr l7)
def BT (N:Nat)(rE:Aq->(List Int)->Block->Option (Int))(p0:Aq)(p1:(List Int))(p2:Step):Option (Int×Bool):=
 (Sh.mk 0 (Sh.len p2.args) 8).bind λl3=>
 Sh.cont (BF p1 p2 N 0 []) (id) λl8=>
 (
  if (!decide (p2.A5=0))=true then
   if (!decide (p2.op=6))=true then
    some true
   else
   if (decide (p2.A5<1))=true then
    some true
   else
   if (decide ((Sh.len p1)<p2.A5))=true then
    some true
   else
    (Sh.get p1 (Sh.w (p2.A5-1))).bind λc88=>
    some (decide (c88=0))
  else
   some false
 ).bind λt12=>
 if t12=true then
  some (-1,false)
 else
  (Ch p2.op).bind λzh=>
  if zh=true then
   (
    if (decide ((Sh.len l8)=1))=true then
     (Sh.get l8 0).bind λc38=>
     if (!decide (c38=0))=true then
      if (decide (p2.num=0))=true then
       some (decide ((Sh.len p2.kids)=0))
      else
       some false
     else
      some false
    else
     some false
   ).bind λxD=>
   (
    Option.bind (
     if xD=true then
      if (decide (p2.op=16))=true then
       some true
      else
       some (decide (p2.op=17))
     else
      some false
    ) λt28=>
    if t28=true then
     (Sh.get l8 0).bind λc32=>
     (Gx p0.decls c32).bind λwP=>
     some (!wP.2)
    else
     some xD
   ).bind λzi=>
   some (-1,zi)
  else
  if (decide (p2.op=7))=true then
   (
    if (!decide ((Sh.len l8)=1))=true then
     some true
    else
     (Sh.get l8 0).bind λc53=>
     if (!decide (c53=0))=true then
      some true
     else
     if (!decide (p2.num=0))=true then
      some true
     else
      some (!decide ((Sh.len p2.kids)=2))
   ).bind λt45=>
   if t45=true then
    some (-1,false)
   else
    (Sh.mk [] 2 24).bind λl50=>
    (B6 N rE p0 p1 p2.kids l50).bind λq51=>
    some (q51.1,q51.2)
  else
  if (decide (p2.op=8))=true then
   (CM N p0 p2.num).bind λzj=>
   (
    if (!decide ((Sh.len l8)=1))=true then
     some true
    else
     (Sh.get l8 0).bind λc69=>
     if (!decide (c69=p2.num))=true then
      some true
     else
     if (decide ((Sh.len zj)=0))=true then
      some true
     else
      some (!decide ((Sh.len p2.kids)=(Sh.len zj)))
   ).bind λt62=>
   if t62=true then
    some (-1,false)
   else
    (B6 N rE p0 p1 p2.kids zj).bind λq67=>
    some (q67.1,q67.2)
  else
   (
    if (decide (0<(Sh.len p2.kids)))=true then
     some true
    else
    if (decide (p2.op=10))=true then
     if (decide (0<=p2.num))=true then
      if (decide (p2.num<(Sh.len p0.funcs)))=true then
       (Sh.get p0.funcs p2.num).bind λxm=>
       some (decide (0<(Sh.len xm.Ao)))
      else
       some false
     else
      some false
    else
     some false
   ).bind λt73=>
   if t73=true then
    some (-1,false)
   else
    (Af N p0 p2.op p2.num l8).bind λq78=>
    some (q78.1,q78.2)
def A6 (N:Nat)(p0:Aq)(p2:Block)(rE:Aq->(List Int)->Block->Option (Int)):Nat->Int->(List Int)->Option ((Int) ⊕ (List Int))
 | 0,_,_=>none
 | n+1,t6,l7=>
  if (decide (t6<(Sh.len p2.steps)))=true then
   Sh.cont (
    (Sh.get p2.steps t6).bind λvk=>
    (BT N rE p0 l7 vk).bind λxn=>
    if (!xn.2)=true then
     some (Sum.inl (Sum.inl (-1)))
    else
     (Ch vk.op).bind λq36=>
     if (!q36)=true then
      (Sh.app l7 [xn.1] 8).bind λl39=>
      some (Sum.inr l39)
     else
      some (Sum.inr l7)
   ) (id) λvz=>
   A6 N p0 p2 rE n (Sh.w (t6+1)) vz
  else
   some (Sum.inr l7)
def Cm (N:Nat)(rE:Aq->(List Int)->Block->Option (Int))(p0:Aq)(p1:(List Int))(p2:Block):Option (Int):=
 (Bf p1).bind λq3=>
 Sh.cont (A6 N p0 p2 rE N 0 q3) (id) λl8=>
 (
  if (decide (p2.result<0))=true then
   some true
  else
   some (decide ((Sh.len l8)<=p2.result))
 ).bind λt12=>
 if t12=true then
  some (-1)
 else
  (Sh.get l8 p2.result).bind λtd=>
  some td
def B4 (N:Nat):Nat->Aq->(List Int)->Block->Option (Int)
 | 0,_,_,_=>none
 | n+1,p0,p1,p2=>Cm N (B4 N n) p0 p1 p2
def Bu (N:Nat)(p0:Aq)(p1:(List Int))(p2:Block):Option (Int):=B4 N N p0 p1 p2
def DL (N:Nat)(p0:AL)(q3:Aq×Bool):Nat->Int->Option ((Bool) ⊕ (Unit))
 | 0,_=>none
 | n+1,t12=>
  if (decide (t12<(Sh.len p0.AB)))=true then
   (Sh.get p0.AB t12).bind λtm=>
   (
    Option.bind (JB N tm.body) λwA=>
    if (decide (wA<0))=true then
     some true
    else
     (Bu N q3.1 tm.params tm.body).bind λxn=>
     some (!decide (xn=tm.result))
   ).bind λt22=>
   if t22=true then
    some (Sum.inl false)
   else
    DL N p0 q3 n (Sh.w (t12+1))
  else
   some (Sum.inr ())
def Gs (N:Nat)(p0:AL):Option (Bool):=
 (GK N p0).bind λq3=>
 if (!q3.2)=true then
  some false
 else
  Sh.cont (DL N p0 q3 N 0) (id) λ()=>
  some true
def Fj (rq:Bool)(p0:Step):Option (Bool):=
 if rq=true then
  (Ch p0.op).bind λq3=>
  if (!q3)=true then
   some (decide (p0.A5=0))
  else
   some false
 else
  some false
def CQ (vC:Step)(rU:Bool->Block->Option (Bool)):Nat->Int->Bool->Option (Bool)
 | 0,_,_=>none
 | n+1,t17,f18=>
  if (decide (t17<(Sh.len vC.kids)))=true then
   (Sh.get vC.kids t17).bind λvk=>
   (rU f18 vk).bind λwO=>
   CQ vC rU n (Sh.w (t17+1)) wO
  else
   some f18
def CS (N:Nat)(p0:Block)(rU:Bool->Block->Option (Bool)):Nat->Int->Bool->Option (Bool)
 | 0,_,_=>none
 | n+1,t4,f5=>
  if (decide (t4<(Sh.len p0.steps)))=true then
   (Sh.get p0.steps t4).bind λvC=>
   (Fj f5 vC).bind λtl=>
   (CQ vC rU N 0 tl).bind λf19=>
   CS N p0 rU n (Sh.w (t4+1)) f19
  else
   some f5
def Hc (N:Nat)(rU:Bool->Block->Option (Bool))(rq:Bool)(p0:Block):Option (Bool):=
 (CS N p0 rU N 0 rq).bind λf6=>
 some f6
def E3 (N:Nat):Nat->Bool->Block->Option (Bool)
 | 0,_,_=>none
 | n+1,rq,p0=>Hc N (E3 N n) rq p0
def KY (N:Nat)(rq:Bool)(p0:Block):Option (Bool):=E3 N N rq p0
def Gd (N:Nat)(p0:Block):Option (Bool):=
 (KY N true p0).bind λq4=>
 some q4
def FB (N:Nat)(p0:AL):Nat->Int->Option ((Bool) ⊕ (Unit))
 | 0,_=>none
 | n+1,t11=>
  if (decide (t11<(Sh.len p0.AB)))=true then
   (Sh.get p0.AB t11).bind λsN=>
   (Gd N sN.body).bind λsF=>
   if (!sF)=true then
    some (Sum.inl false)
   else
    FB N p0 n (Sh.w (t11+1))
  else
   some (Sum.inr ())
def I9 (N:Nat)(p0:AL):Option (Bool):=
 (Gs N p0).bind λq4=>
 if (!q4)=true then
  some false
 else
  Sh.cont (FB N p0 N 0) (id) λ()=>
  some true
def Hu (N:Nat)(p0 p1:AP):Option (Bool):=
 (Gr N p0.params p1.params).bind λq4=>
 if (!q4)=true then
  some false
 else
  (Gr N p0.Ao p1.Ao).bind λxV=>
  if (!xV)=true then
   some false
  else
  if (!decide (p0.result=p1.result))=true then
   some false
  else
   (Ks N p0.body p1.body).bind λq24=>
   if (!q24)=true then
    some false
   else
    some true
def Di (N:Nat)(p0:(List AP))(p1:(List AP)):Nat->Int->Option ((Bool) ⊕ (Unit))
 | 0,_=>none
 | n+1,i10=>
  if (decide (i10<(Sh.len p0)))=true then
   (Sh.get p0 i10).bind λtF=>
   (Sh.get p1 i10).bind λsN=>
   (Hu N tF sN).bind λtJ=>
   if (!tJ)=true then
    some (Sum.inl false)
   else
    Di N p0 p1 n (Sh.w (i10+1))
  else
   some (Sum.inr ())
def G6 (N:Nat)(p0:(List AP))(p1:(List AP)):Option (Bool):=
 if (!decide ((Sh.len p0)=(Sh.len p1)))=true then
  some false
 else
  Sh.cont (Di N p0 p1 N 0) (id) λ()=>
  some true
def Fs (N:Nat)(p0 p1:AL):Option (Bool):=
 (JC N p0.decls p1.decls).bind λq4=>
 if (!q4)=true then
  some false
 else
  (G6 N p0.AB p1.AB).bind λxV=>
  if (!xV)=true then
   some false
  else
   some true
end RC
namespace RC
def Cd (p0:(List AR)):Option (List AR):=
 (Sh.app ([]:List AR) p0 40).bind λl6=>
 some l6
def CA (p0:(List BN)):Option (List BN):=
 (Sh.app ([]:List BN) p0 24).bind λl6=>
 some l6
end RC
namespace RC
def Dh (cs:List BN):Nat->Int->List BN->Option (List BN)
 | 0,_,_=>none
 | n+1,i,q=>
  if decide (i<Sh.len cs)=true then
   (Sh.get cs i).bind λc=>
   (Bf c.fields).bind λf=>
   (Sh.get q i).bind λ_=>
   Dh cs n (Sh.w (i+1)) (Sh.put q i (BN.mk f))
  else some q
def Dk (N:Nat)(m:Int):Nat->Int->List AR->Option (List AR)
 | 0,_,_=>none
 | n+1,t,l=>
  if decide (t<m)=true then
   (Sh.get l t).bind λd=>
   (CA d.cons).bind λsF=>
   (Dh d.cons N 0 sF).bind λq=>
   Dk N m n (Sh.w (t+1)) (Sh.put l t (AR.mk d.from_ d.to q))
  else some l
def HK (N:Nat)(p0:List AR):Option (List AR):=
 (Cd p0).bind λq9=>
 (Dk N (Sh.len q9) N 0 q9).bind λl=>
 some l
end RC
namespace RC
def EY:Nat->Int->Int->(List Int)->Option (Int×(List Int))
 | 0,_,_,_=>none
 | n+1,k4,i5,l6=>
  if (decide (i5<(Sh.len l6)))=true then
   (Sh.get l6 i5).bind λrn=>
   EY  n (Sh.w (k4+1)) (Sh.w (i5+1)) (Sh.put l6 i5 k4)
  else
   some (k4,l6)
def Fe (N:Nat)(s0:(List Int))(p1:Int):Option (Int×(List Int)):=
 (EY  N p1 0 s0).bind λ(k7,l8)=>
 some (k7,l8)
def EZ (N:Nat):Nat->Int->Int->(List BN)->Option (Int×(List BN))
 | 0,_,_,_=>none
 | n+1,k4,i5,l6=>
  if (decide (i5<(Sh.len l6)))=true then
   (Sh.get l6 i5).bind λtP=>
   (Fe N tP.fields k4).bind λvS=>
   EZ N n vS.1 (Sh.w (i5+1)) (Sh.put l6 i5 (BN.mk vS.2))
  else
   some (k4,l6)
def IG (N:Nat)(s0:(List BN))(p1:Int):Option (Int×(List BN)):=
 (EZ N N p1 0 s0).bind λ(k7,l8)=>
 some (k7,l8)
def EA (N:Nat):Nat->Int->Int->(List AR)->Option (Int×(List AR))
 | 0,_,_,_=>none
 | n+1,k4,i5,l6=>
  if (decide (i5<(Sh.len l6)))=true then
   (Sh.get l6 i5).bind λrn=>
   (Sh.get (Sh.put l6 i5 (AR.mk k4 rn.to rn.cons)) i5).bind λsN=>
   (Sh.get (Sh.put (Sh.put l6 i5 (AR.mk k4 rn.to rn.cons)) i5 (AR.mk sN.from_ (Sh.w (k4+1)) sN.cons)) i5).bind λxB=>
   (IG N xB.cons (Sh.w ((Sh.w (k4+1))+1))).bind λyS=>
   EA N n yS.1 (Sh.w (i5+1)) (Sh.put (Sh.put (Sh.put l6 i5 (AR.mk k4 rn.to rn.cons)) i5 (AR.mk sN.from_ (Sh.w (k4+1)) sN.cons)) i5 (AR.mk xB.from_ xB.to yS.2))
  else
   some (k4,l6)
def Hm (N:Nat)(s0:(List AR))(p1:Int):Option (Int×(List AR)):=
 (EA N N p1 0 s0).bind λ(k7,l8)=>
 some (k7,l8)
def Dm (rM:(List Step)->Int->Option (Int×(List Step))):Nat->Int->Int->(List Block)->Option (Int×(List Block))
 | 0,_,_,_=>none
 | n+1,k4,i5,l6=>
  if (decide (i5<(Sh.len l6)))=true then
   (Sh.get l6 i5).bind λrn=>
   (rM rn.steps k4).bind λuC=>
   (Sh.get (Sh.put l6 i5 (Block.mk uC.2 rn.result)) i5).bind λtm=>
   Dm rM n (Sh.w (uC.1+1)) (Sh.w (i5+1)) (Sh.put (Sh.put l6 i5 (Block.mk uC.2 rn.result)) i5 (Block.mk tm.steps uC.1))
  else
   some (k4,l6)
def HD (N:Nat)(rM:(List Step)->Int->Option (Int×(List Step)))(s0:(List Block))(p1:Int):Option (Int×(List Block)):=
 (Dm rM N p1 0 s0).bind λ(k7,l8)=>
 some (k7,l8)
def DK (N:Nat)(rM:(List Step)->Int->Option (Int×(List Step))):Nat->Int->Int->(List Step)->Option (Int×(List Step))
 | 0,_,_,_=>none
 | n+1,k4,i5,l6=>
  if (decide (i5<(Sh.len l6)))=true then
   (Sh.get l6 i5).bind λrn=>
   (Sh.get (Sh.put l6 i5 (Step.mk k4 rn.num rn.A5 rn.args rn.kids)) i5).bind λsN=>
   (Sh.get (Sh.put (Sh.put l6 i5 (Step.mk k4 rn.num rn.A5 rn.args rn.kids)) i5 (Step.mk sN.op (Sh.w (k4+1)) sN.A5 sN.args sN.kids)) i5).bind λuB=>
   (Sh.get (Sh.put (Sh.put (Sh.put l6 i5 (Step.mk k4 rn.num rn.A5 rn.args rn.kids)) i5 (Step.mk sN.op (Sh.w (k4+1)) sN.A5 sN.args sN.kids)) i5 (Step.mk uB.op uB.num (Sh.w ((Sh.w (k4+1))+1)) uB.args uB.kids)) i5).bind λve=>
   (Fe N ve.args (Sh.w ((Sh.w ((Sh.w (k4+1))+1))+1))).bind λwA=>
   (Sh.get (Sh.put (Sh.put (Sh.put (Sh.put l6 i5 (Step.mk k4 rn.num rn.A5 rn.args rn.kids)) i5 (Step.mk sN.op (Sh.w (k4+1)) sN.A5 sN.args sN.kids)) i5 (Step.mk uB.op uB.num (Sh.w ((Sh.w (k4+1))+1)) uB.args uB.kids)) i5 (Step.mk ve.op ve.num ve.A5 wA.2 ve.kids)) i5).bind λzk=>
   (HD N rM zk.kids wA.1).bind λwL=>
   DK N rM n wL.1 (Sh.w (i5+1)) (Sh.put (Sh.put (Sh.put (Sh.put (Sh.put l6 i5 (Step.mk k4 rn.num rn.A5 rn.args rn.kids)) i5 (Step.mk sN.op (Sh.w (k4+1)) sN.A5 sN.args sN.kids)) i5 (Step.mk uB.op uB.num (Sh.w ((Sh.w (k4+1))+1)) uB.args uB.kids)) i5 (Step.mk ve.op ve.num ve.A5 wA.2 ve.kids)) i5 (Step.mk zk.op zk.num zk.A5 zk.args wL.2))
  else
   some (k4,l6)
def H0 (N:Nat)(rM:(List Step)->Int->Option (Int×(List Step)))(s0:(List Step))(p1:Int):Option (Int×(List Step)):=
 (DK N rM N p1 0 s0).bind λ(k7,l8)=>
 some (k7,l8)
def Ds (N:Nat):Nat->(List Step)->Int->Option (Int×(List Step))
 | 0,_,_=>none
 | n+1,s0,p1=>H0 N (Ds N n) s0 p1
def JI (N:Nat)(s0:(List Step))(p1:Int):Option (Int×(List Step)):=Ds N N s0 p1
def C3 (N:Nat):Nat->Int->Int->(List AP)->Option (Int×(List AP))
 | 0,_,_,_=>none
 | n+1,k4,i5,l6=>
  if (decide (i5<(Sh.len l6)))=true then
   (Sh.get l6 i5).bind λrn=>
   (Fe N rn.params k4).bind λuC=>
   (Sh.get (Sh.put l6 i5 (AP.mk uC.2 rn.Ao rn.result rn.body)) i5).bind λtm=>
   (Fe N tm.Ao uC.1).bind λsF=>
   (Sh.get (Sh.put (Sh.put l6 i5 (AP.mk uC.2 rn.Ao rn.result rn.body)) i5 (AP.mk tm.params sF.2 tm.result tm.body)) i5).bind λxC=>
   (Sh.get (Sh.put (Sh.put (Sh.put l6 i5 (AP.mk uC.2 rn.Ao rn.result rn.body)) i5 (AP.mk tm.params sF.2 tm.result tm.body)) i5 (AP.mk xC.params xC.Ao sF.1 xC.body)) i5).bind λwV=>
   (JI N wV.body.steps (Sh.w (sF.1+1))).bind λxn=>
   (Sh.get (Sh.put (Sh.put (Sh.put (Sh.put l6 i5 (AP.mk uC.2 rn.Ao rn.result rn.body)) i5 (AP.mk tm.params sF.2 tm.result tm.body)) i5 (AP.mk xC.params xC.Ao sF.1 xC.body)) i5 (AP.mk wV.params wV.Ao wV.result (Block.mk xn.2 wV.body.result))) i5).bind λyW=>
   C3 N n (Sh.w (xn.1+1)) (Sh.w (i5+1)) (Sh.put (Sh.put (Sh.put (Sh.put (Sh.put l6 i5 (AP.mk uC.2 rn.Ao rn.result rn.body)) i5 (AP.mk tm.params sF.2 tm.result tm.body)) i5 (AP.mk xC.params xC.Ao sF.1 xC.body)) i5 (AP.mk wV.params wV.Ao wV.result (Block.mk xn.2 wV.body.result))) i5 (AP.mk yW.params yW.Ao yW.result (Block.mk yW.body.steps xn.1)))
  else
   some (k4,l6)
def GW (N:Nat)(s0:(List AP))(p1:Int):Option (Int×(List AP)):=
 (C3 N N p1 0 s0).bind λ(k7,l8)=>
 some (k7,l8)
def GR (N:Nat)(s0:(List AR))(s1:(List AP))(p1:Int):Option (Int×(List AR)×(List AP)):=
 (Hm N s0 p1).bind λq3=>
 (GW N s1 q3.1).bind λq6=>
 some (q6.1,q3.2,q6.2)
def EX (p0:(List Int)):Nat->Int->Int->Option ((Int) ⊕ (Int))
 | 0,_,_=>none
 | n+1,k4,i5=>
  if (decide (i5<(Sh.len p0)))=true then
   (Sh.get p0 i5).bind λtP=>
   if (!decide (tP=k4))=true then
    some (Sum.inl (-1))
   else
    EX p0 n (Sh.w (k4+1)) (Sh.w (i5+1))
  else
   some (Sum.inr k4)
def Fm (N:Nat)(p0:(List Int))(p1:Int):Option (Int):=
 Sh.cont (EX p0 N p1 0) (id) λk6=>
 some k6
end RC
namespace RC
def DU (i5:Int)(p0:(List AR)):Nat->Int->(List BN)->Option (List BN)
 | 0,_,_=>none
 | n+1,k17,xl=>
  (Sh.get p0 i5).bind λve=>
  if (decide (k17<(Sh.len ve.cons)))=true then
   (Sh.get ve.cons k17).bind λzk=>
   (Dc zk.fields).bind λwL=>
   (Sh.app xl [BN.mk wL] 24).bind λl30=>
   DU i5 p0 n (Sh.w (k17+1)) l30
  else
   some xl
def EF (N:Nat)(p0:(List AR)):Nat->Int->(List AR)->Option (List AR)
 | 0,_,_=>none
 | n+1,i5,l6=>
  if (decide (i5<(Sh.len p0)))=true then
   (DU i5 p0 N 0 []).bind λl19=>
   (Sh.get p0 i5).bind λxB=>
   (Sh.app l6 [AR.mk xB.from_ xB.to l19] 40).bind λl22=>
   EF N p0 n (Sh.w (i5+1)) l22
  else
   some l6
def Hg (N:Nat)(p0:(List AR)):Option (List AR):=
 (EF N p0 N 0 []).bind λl7=>
 some l7
def Ec (p0:Step)(rN:Block->Option (Block)):Nat->Int->(List Block)->Option (List Block)
 | 0,_,_=>none
 | n+1,i5,l6=>
  if (decide (i5<(Sh.len p0.kids)))=true then
   (Sh.get p0.kids i5).bind λtP=>
   (rN tP).bind λvS=>
   (Sh.app l6 [vS] 32).bind λl17=>
   Ec p0 rN n (Sh.w (i5+1)) l17
  else
   some l6
def IJ (N:Nat)(rN:Block->Option (Block))(p0:Step):Option (Step):=
 (Ec p0 rN N 0 []).bind λl7=>
 (Dc p0.args).bind λuN=>
 some (Step.mk p0.op p0.num p0.A5 uN l7)
def DO (N:Nat)(p0:Block)(rN:Block->Option (Block)):Nat->Int->(List Step)->Option (List Step)
 | 0,_,_=>none
 | n+1,i5,l6=>
  if (decide (i5<(Sh.len p0.steps)))=true then
   (Sh.get p0.steps i5).bind λtk=>
   (IJ N rN tk).bind λtl=>
   (Sh.app l6 [tl] 72).bind λl16=>
   DO N p0 rN n (Sh.w (i5+1)) l16
  else
   some l6
def Hz (N:Nat)(rN:Block->Option (Block))(p0:Block):Option (Block):=
 (DO N p0 rN N 0 []).bind λl7=>
 some (Block.mk l7 p0.result)
def FJ (N:Nat):Nat->Block->Option (Block)
 | 0,_=>none
 | n+1,p0=>Hz N (FJ N n) p0
def JF (N:Nat)(p0:Block):Option (Block):=FJ N N p0
def Dv (N:Nat)(p0:AL)(p1:(List (List Int))):Nat->Int->(List AP)->Option (List AP)
 | 0,_,_=>none
 | n+1,i6,l7=>
  if (decide (i6<(Sh.len p0.AB)))=true then
   (Sh.get p0.AB i6).bind λrn=>
   (Dc rn.params).bind λuC=>
   (Sh.get p1 i6).bind λtF=>
   (Dc tF).bind λvO=>
   (JF N rn.body).bind λtJ=>
   (Sh.app l7 [AP.mk uC vO rn.result tJ] 88).bind λxU=>
   Dv N p0 p1 n (Sh.w (i6+1)) xU
  else
   some l7
def HM (N:Nat)(p0:AL)(p1:(List (List Int))):Option (AL):=
 (Hg N p0.decls).bind λq3=>
 (Dv N p0 p1 N 0 []).bind λl8=>
 some (AL.mk q3 l8)
def G3 (s0:(List Block))(p0:Step):Option (Step):=
 (Bf p0.args).bind λq3=>
 some (Step.mk p0.op p0.num p0.A5 q3 s0)
def C2 (p0:Step)(rL:Block->Option (Block)):Nat->Int->(List Block)->Option (List Block)
 | 0,_,_=>none
 | n+1,t5,l6=>
  if (decide (t5<(Sh.len p0.kids)))=true then
   (Sh.get p0.kids t5).bind λrn=>
   (rL rn).bind λuC=>
   (Sh.app l6 [uC] 32).bind λxl=>
   C2 p0 rL n (Sh.w (t5+1)) xl
  else
   some l6
def Ge (N:Nat)(rL:Block->Option (Block))(p0:Step):Option (Step):=
 (C2 p0 rL N 0 []).bind λl7=>
 (G3 l7 p0).bind λuN=>
 some (Step.mk uN.op uN.num uN.A5 uN.args l7)
def CR (N:Nat)(p0:Block)(rL:Block->Option (Block)):Nat->Int->(List Step)->Option (List Step)
 | 0,_,_=>none
 | n+1,t5,l6=>
  if (decide (t5<(Sh.len p0.steps)))=true then
   (
    Option.bind (Sh.get p0.steps t5) λtd=>
    (Ch td.op).bind λvO=>
    if (!vO)=true then
     (Ge N rL td).bind λyV=>
     (Sh.app l6 [Step.mk yV.op yV.num 0 yV.args yV.kids] 72).bind λl25=>
     some l25
    else
     some l6
   ).bind λvd=>
   CR N p0 rL n (Sh.w (t5+1)) vd
  else
   some l6
def HX (N:Nat)(rL:Block->Option (Block))(p0:Block):Option (Block):=
 (CR N p0 rL N 0 []).bind λl7=>
 some (Block.mk l7 p0.result)
def D7 (N:Nat):Nat->Block->Option (Block)
 | 0,_=>none
 | n+1,p0=>HX N (D7 N n) p0
def Ig (N:Nat)(p0:Block):Option (Block):=D7 N N p0
def Ed (N:Nat)(p0:(List BN)):Nat->Int->Int->Option ((Int) ⊕ (Int))
 | 0,_,_=>none
 | n+1,k4,i5=>
  if (decide (i5<(Sh.len p0)))=true then
   (Sh.get p0 i5).bind λtk=>
   (Fm N tk.fields k4).bind λtl=>
   if (decide (tl<0))=true then
    some (Sum.inl (-1))
   else
    Ed N p0 n tl (Sh.w (i5+1))
  else
   some (Sum.inr k4)
def IF (N:Nat)(p0:(List BN))(p1:Int):Option (Int):=
 Sh.cont (Ed N p0 N p1 0) (id) λk6=>
 some k6
def EE (N:Nat)(p0:(List AR)):Nat->Int->Int->Option ((Int) ⊕ (Int))
 | 0,_,_=>none
 | n+1,k4,i5=>
  if (decide (i5<(Sh.len p0)))=true then
   (Sh.get p0 i5).bind λtP=>
   if (!decide (tP.from_=k4))=true then
    some (Sum.inl (-1))
   else
   if (!decide (tP.to=(Sh.w (k4+1))))=true then
    some (Sum.inl (-1))
   else
    (IF N tP.cons (Sh.w ((Sh.w (k4+1))+1))).bind λwL=>
    if (decide (wL<0))=true then
     some (Sum.inl (-1))
    else
     EE N p0 n wL (Sh.w (i5+1))
  else
   some (Sum.inr k4)
def Hk (N:Nat)(p0:(List AR))(p1:Int):Option (Int):=
 Sh.cont (EE N p0 N p1 0) (id) λk6=>
 some k6
def Dl (p0:(List Block))(rO:(List Step)->Int->Option (Int)):Nat->Int->Int->Option ((Int) ⊕ (Int))
 | 0,_,_=>none
 | n+1,k4,i5=>
  if (decide (i5<(Sh.len p0)))=true then
   (Sh.get p0 i5).bind λtk=>
   (rO tk.steps k4).bind λtl=>
   if (decide (tl<0))=true then
    some (Sum.inl (-1))
   else
   if (!decide (tk.result=tl))=true then
    some (Sum.inl (-1))
   else
    Dl p0 rO n (Sh.w (tl+1)) (Sh.w (i5+1))
  else
   some (Sum.inr k4)
def G9 (N:Nat)(rO:(List Step)->Int->Option (Int))(p0:(List Block))(p1:Int):Option (Int):=
 Sh.cont (Dl p0 rO N p1 0) (id) λk6=>
 some k6
def DN (N:Nat)(p0:(List Step))(rO:(List Step)->Int->Option (Int)):Nat->Int->Int->Option ((Int) ⊕ (Int))
 | 0,_,_=>none
 | n+1,k4,i5=>
  if (decide (i5<(Sh.len p0)))=true then
   (Sh.get p0 i5).bind λtP=>
   if (!decide (tP.op=k4))=true then
    some (Sum.inl (-1))
   else
   if (!decide (tP.num=(Sh.w (k4+1))))=true then
    some (Sum.inl (-1))
   else
   if (!decide (tP.A5=(Sh.w ((Sh.w (k4+1))+1))))=true then
    some (Sum.inl (-1))
   else
    (Fm N tP.args (Sh.w ((Sh.w ((Sh.w (k4+1))+1))+1))).bind λq36=>
    if (decide (q36<0))=true then
     some (Sum.inl (-1))
    else
     (G9 N rO tP.kids q36).bind λq42=>
     if (decide (q42<0))=true then
      some (Sum.inl (-1))
     else
      DN N p0 rO n q42 (Sh.w (i5+1))
  else
   some (Sum.inr k4)
def H4 (N:Nat)(rO:(List Step)->Int->Option (Int))(p0:(List Step))(p1:Int):Option (Int):=
 Sh.cont (DN N p0 rO N p1 0) (id) λk6=>
 some k6
def D0 (N:Nat):Nat->(List Step)->Int->Option (Int)
 | 0,_,_=>none
 | n+1,p0,p1=>H4 N (D0 N n) p0 p1
def JL (N:Nat)(p0:(List Step))(p1:Int):Option (Int):=D0 N N p0 p1
def C0 (N:Nat)(p0:(List AP)):Nat->Int->Int->Option ((Int) ⊕ (Int))
 | 0,_,_=>none
 | n+1,k4,i5=>
  if (decide (i5<(Sh.len p0)))=true then
   (Sh.get p0 i5).bind λtk=>
   (Fm N tk.params k4).bind λtl=>
   if (decide (tl<0))=true then
    some (Sum.inl (-1))
   else
    (Fm N tk.Ao tl).bind λsF=>
    if (decide (sF<0))=true then
     some (Sum.inl (-1))
    else
    if (!decide (tk.result=sF))=true then
     some (Sum.inl (-1))
    else
     (JL N tk.body.steps (Sh.w (sF+1))).bind λyR=>
     if (decide (yR<0))=true then
      some (Sum.inl (-1))
     else
     if (!decide (tk.body.result=yR))=true then
      some (Sum.inl (-1))
     else
      C0 N p0 n (Sh.w (yR+1)) (Sh.w (i5+1))
  else
   some (Sum.inr k4)
def Gb (N:Nat)(p0:(List AP))(p1:Int):Option (Int):=
 Sh.cont (C0 N p0 N p1 0) (id) λk6=>
 some k6
def GS (N:Nat)(p0:AL)(p1:Int):Option (Int):=
 (Hk N p0.decls p1).bind λq3=>
 if (decide (q3<0))=true then
  some (-1)
 else
  (Gb N p0.AB q3).bind λq9=>
  if (decide (q9<0))=true then
   some (-1)
  else
   some q9
end RC
namespace Sh
def shr (k:Go.IntKind)(a b:Int):Int:=a.fdiv (2 ^ (min b.toNat k.bits))
end Sh
namespace Go.Abs
open Go
section
variable {P : Program} {k : Nat} {ops : Array Oper} {Q : Exit -> St -> Prop} {ds : List (Option Tmp)} {r : List Oper} {n : Nat} {e : Nat -> AV} {st : List Row} {T T' ty : TypeId} {ps : String} {ed : Array Edge} {t : Tmp} {x y : Operand} {gd : Option (Nat × Bool)} {kk uz : IntKind} {a b : Int}
theorem iX {C:List Row->AV->Prop}{op:Op}{d:Option Tmp}{gd:Option (Nat×Bool)}(hg:GO ds gd e)(h :∀F os a w,Rel F os ⟨n,e,st⟩ a w->∃st' v,C st' v/\∃z w' F' os',(execOp a.eval ⟨d,op,ty,ps,ed,gd⟩).run P w=.ok (.value z) w'/\Rel F' os' ⟨n,e,st'⟩ a w'/\AU F' w' os' v z/\Ext F os w F' os' w' k)
  (hk :∀st' v,C st' v->AO P k ops Q (ds++[d]) r (St.put ⟨n,e,st'⟩ d v)):AO P k ops Q ds (⟨d,op,ty,ps,ed,gd⟩::r) ⟨n,e,st⟩:=by
 intro hl ug sT F os a w hr Q' hQ;have ho:ops[ds.length]?=some ⟨d,op,ty,ps,ed,gd⟩:=by have:=hl 0;simpa using this.symm
 have wm:Ce n d=true:=sT _ (by have:=mS (l:=ops.toList) (i:=ds.length) (by simpa using ho);exact this);have hdn:∀d∈ds,Ce n d=true:=λd hd=>by
  obtain⟨j,hj⟩:=nC.1 hd;have h1:=ug j d hj;cases hoj:ops[j]? with
  | none=>rw[hoj]at h1;cases h1
  | some oj=>
   rw[hoj]at h1;simp only[nS,mU]at h1;subst h1;exact sT oj (by have:=mS (l:=ops.toList) (i:=j) (by simpa using hoj);exact this)
 have tY :∀(j:Nat),r[j]?=ops[(ds++[d]).length+j]?:=λj=>by
  have:=hl (j+1);simp only[nV]at this;rw[this];congr 1;simp;omega
 have uw :∀(j:Nat) d',(ds++[d])[j]?=some d'->(ops[j]?).map (·.dst)=some d':=λj d' hj=>by
  rcases oI j ds.length with h1|h1|h1
  ·rw[mg h1]at hj;exact ug j d' hj
  ·subst h1;rw[IL,mU]at hj;rw[ho];simp[hj]
  ·rw[nG (by simp;omega)]at hj;cases hj
 unfold wpList;rcases VV hr ug hdn (GO.guard (A:=True) (B:=False) hg mV) with ⟨hw,_⟩|⟨_,h1⟩
 ·rw[me hw];obtain⟨st',v,hC,z,w',F',os',h1,h2,h3,h4⟩:=h F os a w hr;refine .inl ?_;unfold Oper.wp;rw[h1];simp only[Oper.upon];refine hk st' v hC tY uw (by cases d<;>exact sT) F' os' _ w' (h2.put wm h3) Q' λ_ _ _ hp=>hQ _ _ _ (hp.trans h4)
 ·exact h1.elim
theorem iO (hg:GO ds gd e)(hx:St.ev ⟨n,e,st⟩ x=.int kk a)(hy:St.ev ⟨n,e,st⟩ y=.int uz b)(hb:0<=b)(hk:AO P k ops Q (ds++[some t]) r ⟨n,Ew e t (.int kk (Sh.shr kk a b)),st⟩):
  AO P k ops Q ds (⟨some t,.binOp .shr T x y T',ty,ps,ed,gd⟩::r) ⟨n,e,st⟩:=by
 refine iX (C:=λst' v=>st'=st/\v=.int kk (Sh.shr kk a b)) hg (λF os ac w ry=>?_) (λst' v ⟨h1,h2⟩=>by subst h1;subst h2;exact hk);have e1:=ry.ev x;rw[hx]at e1;simp only[AU]at e1;have e2:=ry.ev y;rw[hy]at e2;simp only[AU]at e2;refine⟨st,_,⟨rfl,rfl⟩,.int kk (Sh.shr kk a b),w,F,os,?_,ry,by simp[AU],Ext.refl _ _ _ _⟩;have h0:¬ b<0:=by omega
 simp only[execOp,nU,e1,e2];simp[eqGuard,binOp,Op.shift,h0,Result.andThen,Sh.shr]
end
end Go.Abs
namespace RC
open Go Go.Abs
def FL (s v:List Int)(i:Int):Option (List Int):=
 match v with
 | [x]=>if 0<=i/\i<=s.length/\(s.length+1)*8<=140737488355328 then some (s.take i.toNat++x::s.drop i.toNat) else none
 | _=>none
end RC
namespace RC
end RC
namespace RC
end RC
namespace RC
def FZ (p0:(List Int))(p1:Int):Nat->Int->Option ((Bool) ⊕ (Unit))
 | 0,_=>none
 | n+1,i4=>
  if (decide (i4<(Sh.len p0)))=true then
   (Sh.get p0 i4).bind λvB=>
   if (decide (vB=p1))=true then
    some (Sum.inl true)
   else
    FZ p0 p1 n (Sh.w (i4+1))
  else
   some (Sum.inr ())
def Kc (N:Nat)(p0:(List Int))(p1:Int):Option (Bool):=
 Sh.cont (FZ p0 p1 N 0) (id) λ()=>
 some false
def RU (N:Nat)(p0:AP):Nat->Int->(List Int)->Option (List Int)
 | 0,_,_=>none
 | n+1,i5,l6=>
  if (decide (i5<(Sh.len p0.params)))=true then
   (
    Option.bind (
     (Sh.get p0.params i5).bind λxB=>
     if (!decide (xB=0))=true then
      (Kc N p0.Ao i5).bind λyV=>
      some (!yV)
     else
      some false
    ) λt17=>
    if t17=true then
     (Sh.app l6 [i5] 8).bind λyX=>
     some yX
    else
     some l6
   ).bind λvd=>
   RU N p0 n (Sh.w (i5+1)) vd
  else
   some l6
def Qo (N:Nat)(tu:Int)(p0:AL)(p1:(List Int))(p2:Step)(q3:(List Int)):Nat->Int->Int->Option ((Int) ⊕ (Int))
 | 0,_,_=>none
 | n+1,t17,i18=>
  if (decide (i18<tu))=true then
   (
    if (decide (p2.op=8))=true then
     (Sh.get q3 i18).bind λxA=>
     (B5 N p0.decls xA).bind λq44=>
     (Ik p1 q44).bind λvq=>
     some vq
    else
     some p1
   ).bind λvP=>
   (Sh.get p2.kids i18).bind λyW=>
   (Bp N p0 vP yW).bind λvN=>
   (
    if (decide (vN<0))=true then
     some true
    else
    if (decide (0<i18))=true then
     some (!decide (vN=t17))
    else
     some false
   ).bind λt35=>
   if t35=true then
    some (Sum.inl (-1))
   else
    Qo N tu p0 p1 p2 q3 n vN (Sh.w (i18+1))
  else
   some (Sum.inr t17)
def G8 (p0:Int):Option (Bool):=
 (
  if (decide (p0=6))=true then
   some true
  else
  if (decide (p0=9))=true then
   some true
  else
  if (decide (p0=10))=true then
   some true
  else
   some (decide (p0=11))
 ).bind λt3=>
 some t3
def Jx (N:Nat)(p0:AL)(p1:Step)(p2:Int):Option (Bool):=
 (
  if (decide (p1.op=9))=true then
   (Sh.get p0.AB p1.num).bind λc6=>
   (Kc N c6.Ao p2).bind λq7=>
   some q7
  else
   some false
 ).bind λt3=>
 some t3
def D5 (p0:(List Int))(p1:Int):Nat->Int->(List Int)->Option (List Int)
 | 0,_,_=>none
 | n+1,i5,l6=>
  if (decide (i5<(Sh.len p0)))=true then
   (
    Option.bind (Sh.get p0 i5) λtd=>
    if (!decide (td=0))=true then
     (Sh.app l6 [Sh.w (p1+i5)] 8).bind λyX=>
     some yX
    else
     some l6
   ).bind λvd=>
   D5 p0 p1 n (Sh.w (i5+1)) vd
  else
   some l6
def IQ (N:Nat)(p0:(List Int))(p1:Int):Option (List Int):=
 (D5 p0 p1 N 0 []).bind λl7=>
 some l7
def IY (p0:Int):Option (Bool):=
 some (!decide (p0=p0))
def I6 (p0 p1:Int):Option (Bool):=
 (
  Option.bind (IY p0) λq5=>
  if q5=true then
   (IY p1).bind λq7=>
   if (!q7)=true then
    some true
   else
    some (decide (p0<p1))
  else
   some (decide (p0<p1))
 ).bind λt3=>
 some t3
def Fz (p0:Int):Option (Bool):=
 some (!decide (p0=p0))
def Au (p0:(List Int))(p1:Int):Nat->Int->Int->Option (Int)
 | 0,_,_=>none
 | n+1,i5,j6=>
  if (decide (i5<j6))=true then
   (Sh.get p0 (Sh.wk .i64 (Sh.shr .u64 (Sh.wk .u64 (Sh.w (i5+j6))) 1))).bind λc23=>
   (I6 c23 p1).bind λq24=>
   if q24=true then
    Au p0 p1 n (Sh.w ((Sh.wk .i64 (Sh.shr .u64 (Sh.wk .u64 (Sh.w (i5+j6))) 1))+1)) j6
   else
    Au p0 p1 n i5 (Sh.wk .i64 (Sh.shr .u64 (Sh.wk .u64 (Sh.w (i5+j6))) 1))
  else
   some i5
def BW (N:Nat)(p0:(List Int))(p1:Int):Option (Int×Bool):=
 (Au p0 p1 N 0 (Sh.len p0)).bind λi7=>
 (
  if (decide (i7<(Sh.len p0)))=true then
   (Sh.get p0 i7).bind λvC=>
   if (decide (vC=p1))=true then
    some true
   else
    (Fz vC).bind λtl=>
    if tl=true then
     (Fz p1).bind λuC=>
     some uC
    else
     some false
  else
   some false
 ).bind λt10=>
 some (i7,t10)
def DM (p0:(List Int)):Option (List Int):=
 (Sh.app ([]:List Int) p0 8).bind λl6=>
 some l6
def F4 (N:Nat)(p0:(List Int))(p1:Int):Option (List Int):=
 (BW N p0 p1).bind λq3=>
 if q3.2=true then
  some p0
 else
  (DM p0).bind λq9=>
  (FL q9 [p1] q3.1).bind λuN=>
  some uN
def F5 (p0:Int):Option (Bool):=
 (
  if (decide (p0=6))=true then
   some true
  else
  if (decide (p0=9))=true then
   some true
  else
  if (decide (p0=10))=true then
   some true
  else
   some (decide (p0=11))
 ).bind λt3=>
 some t3
end RC
namespace RC
def GN (N:Nat)(p0:(List Int))(p1:Int):Option (Bool):=
 (BW N p0 p1).bind λq3=>
 some q3.2
end RC
namespace RC
def C5 (i4:Int)(p0:Block)(p1:Int)(rX:Block->Int->Option (Bool)):Nat->Int->Option ((Bool) ⊕ (Unit))
 | 0,_=>none
 | n+1,k18=>
  (Sh.get p0.steps i4).bind λuB=>
  if (decide (k18<(Sh.len uB.kids)))=true then
   (Sh.get uB.kids k18).bind λvk=>
   (rX vk p1).bind λwO=>
   if wO=true then
    some (Sum.inl true)
   else
    C5 i4 p0 p1 rX n (Sh.w (k18+1))
  else
   some (Sum.inr ())
def C6 (N:Nat)(p0:Block)(p1:Int)(rX:Block->Int->Option (Bool)):Nat->Int->Option ((Bool) ⊕ (Unit))
 | 0,_=>none
 | n+1,i4=>
  if (decide (i4<(Sh.len p0.steps)))=true then
   (
    Option.bind (Sh.get p0.steps i4) λwM=>
    if (decide (wM.op=10))=true then
     some (decide (wM.num=p1))
    else
     some false
   ).bind λt13=>
   if t13=true then
    some (Sum.inl true)
   else
    Sh.cont (C5 i4 p0 p1 rX N 0) (λx=>Sum.inl x) λ()=>
    C6 N p0 p1 rX n (Sh.w (i4+1))
  else
   some (Sum.inr ())
def Im (N:Nat)(rX:Block->Int->Option (Bool))(p0:Block)(p1:Int):Option (Bool):=
 Sh.cont (C6 N p0 p1 rX N 0) (id) λ()=>
 some false
def ES (N:Nat):Nat->Block->Int->Option (Bool)
 | 0,_,_=>none
 | n+1,p0,p1=>Im N (ES N n) p0 p1
def Jw (N:Nat)(p0:Block)(p1:Int):Option (Bool):=ES N N p0 p1
def Dz (N:Nat)(p0:AL)(p1:Int):Nat->Int->Option ((Bool) ⊕ (Unit))
 | 0,_=>none
 | n+1,i4=>
  if (decide (i4<(Sh.len p0.AB)))=true then
   (Sh.get p0.AB i4).bind λvB=>
   (Jw N vB.body p1).bind λyQ=>
   if yQ=true then
    some (Sum.inl true)
   else
    Dz N p0 p1 n (Sh.w (i4+1))
  else
   some (Sum.inr ())
def II (N:Nat)(p0:AL)(p1:Int):Option (Bool):=
 Sh.cont (Dz N p0 p1 N 0) (id) λ()=>
 some false
def DB (N:Nat)(p0:AL):Nat->Int->(List (List Int))->Option (List (List Int))
 | 0,_,_=>none
 | n+1,f5,l6=>
  if (decide (f5<(Sh.len p0.AB)))=true then
   (
    Option.bind (II N p0 f5) λuC=>
    if uC=true then
     (Sh.app l6 ([[]]) 24).bind λl19=>
     some l19
    else
     (Sh.get p0.AB f5).bind λtm=>
     (IQ N tm.params 0).bind λsF=>
     (Sh.app l6 [sF] 24).bind λl22=>
     some l22
   ).bind λvd=>
   DB N p0 n (Sh.w (f5+1)) vd
  else
   some l6
def G7 (N:Nat)(p0:AL):Option (List (List Int)):=
 (DB N p0 N 0 []).bind λl7=>
 some l7
def Bq (td:Step)(p0:AL)(p2:Int)(rP:AL->Block->Int->Option (Bool)):Nat->Int->Option ((Bool) ⊕ (Unit))
 | 0,_=>none
 | n+1,k23=>
  if (decide (k23<(Sh.len td.kids)))=true then
   (Sh.get td.kids k23).bind λwM=>
   (rP p0 wM p2).bind λwz=>
   if wz=true then
    some (Sum.inl true)
   else
    Bq td p0 p2 rP n (Sh.w (k23+1))
  else
   some (Sum.inr ())
def Bt (N:Nat)(td:Step)(p0:AL)(p2:Int):Nat->Int->Option ((Bool) ⊕ (Unit))
 | 0,_=>none
 | n+1,k20=>
  if (decide (k20<(Sh.len td.args)))=true then
   (
    Option.bind (Sh.get td.args k20) λxA=>
    if (decide (xA=p2))=true then
     (G8 td.op).bind λvq=>
     if vq=true then
      (Jx N p0 td k20).bind λq47=>
      some (!q47)
     else
      some false
    else
     some false
   ).bind λt39=>
   if t39=true then
    some (Sum.inl true)
   else
    Bt N td p0 p2 n (Sh.w (k20+1))
  else
   some (Sum.inr ())
def Br (N:Nat)(p0:AL)(p1:Block)(p2:Int)(rP:AL->Block->Int->Option (Bool)):Nat->Int->Option ((Bool) ⊕ (Unit))
 | 0,_=>none
 | n+1,i9=>
  if (decide (i9<(Sh.len p1.steps)))=true then
   (Sh.get p1.steps i9).bind λtd=>
   Sh.cont (Bt N td p0 p2 N 0) (λx=>Sum.inl x) λ()=>
   Sh.cont (Bq td p0 p2 rP N 0) (λx=>Sum.inl x) λ()=>
   Br N p0 p1 p2 rP n (Sh.w (i9+1))
  else
   some (Sum.inr ())
def Gg (N:Nat)(rP:AL->Block->Int->Option (Bool))(p0:AL)(p1:Block)(p2:Int):Option (Bool):=
 if (decide (p1.result=p2))=true then
  some true
 else
  Sh.cont (Br N p0 p1 p2 rP N 0) (id) λ()=>
  some false
def CY (N:Nat):Nat->AL->Block->Int->Option (Bool)
 | 0,_,_,_=>none
 | n+1,p0,p1,p2=>Gg N (CY N n) p0 p1 p2
def Iz (N:Nat)(p0:AL)(p1:Block)(p2:Int):Option (Bool):=CY N N p0 p1 p2
def Dw (N:Nat)(p0:AL)(p1:Int):Nat->Int->(List Int)->Option (List Int)
 | 0,_,_=>none
 | n+1,i5,l6=>
  (Sh.get p0.AB p1).bind λvB=>
  if (decide (i5<(Sh.len vB.Ao)))=true then
   (
    Option.bind (Sh.get vB.Ao i5) λtF=>
    (Iz N p0 vB.body tF).bind λvO=>
    if (!vO)=true then
     (Sh.app l6 [tF] 8).bind λl22=>
     some l22
    else
     some l6
   ).bind λxT=>
   Dw N p0 p1 n (Sh.w (i5+1)) xT
  else
   some l6
def IW (N:Nat)(p0:AL)(p1:Int):Option (List Int):=
 (Dw N p0 p1 N 0 []).bind λl7=>
 some l7
def DJ (N:Nat)(f10:(List AP))(f9:(List AR)):Nat->Int->(List (List Int))->Option (List (List Int))
 | 0,_,_=>none
 | n+1,f22,vz=>
  if (decide (f22<(Sh.len f10)))=true then
   (IW N (AL.mk f9 f10) f22).bind λwz=>
   (Sh.app vz [wz] 24).bind λl32=>
   DJ N f10 f9 n (Sh.w (f22+1)) l32
  else
   some vz
def EW (N:Nat):Nat->Int->(List AR)->(List AP)->Option ((List AR)×(List AP))
 | 0,_,_,_=>none
 | n+1,se,f9,f10=>
  if (decide (se<=12))=true then
   (DJ N f10 f9 N 0 []).bind λl24=>
   (HM N (AL.mk f9 f10) l24).bind λwA=>
   EW N n (Sh.w (se+1)) wA.decls wA.AB
  else
   some (f9,f10)
def ID (N:Nat)(p0:AL):Option (AL):=
 (
  Option.bind (G7 N p0) λwP=>
  (HM N p0 wP).bind λyR=>
  some (yR.decls,yR.AB)
 ).bind λ(f3,f4)=>
 (EW N N 0 f3 f4).bind λ(f11,f12)=>
 some (AL.mk f11 f12)
def KE (N:Nat)(p0:AL):Option (AL×Bool):=
 (Gw N p0).bind λq4=>
 if (!q4)=true then
  some (AL.mk [] [],false)
 else
  (ID N p0).bind λuN=>
  some (uN,true)
def G5 (s1:(List (List Int)))(p0:Step):Option (List (List Int)):=
 if (decide (p0.op=10))=true then
  (Sh.get s1 p0.num).bind λc4=>
  some (Sh.put s1 p0.num [])
 else
  some s1
def BU (vC:Step)(rQ:(List (List Int))->Block->Option (List (List Int))):Nat->Int->(List (List Int))->Option (List (List Int))
 | 0,_,_=>none
 | n+1,t17,xl=>
  if (decide (t17<(Sh.len vC.kids)))=true then
   (Sh.get vC.kids t17).bind λvk=>
   (rQ xl vk).bind λwO=>
   BU vC rQ n (Sh.w (t17+1)) wO
  else
   some xl
def BV (N:Nat)(p0:Block)(rQ:(List (List Int))->Block->Option (List (List Int))):Nat->Int->(List (List Int))->Option (List (List Int))
 | 0,_,_=>none
 | n+1,t4,l5=>
  if (decide (t4<(Sh.len p0.steps)))=true then
   (Sh.get p0.steps t4).bind λvC=>
   (G5 l5 vC).bind λtl=>
   (BU vC rQ N 0 tl).bind λl19=>
   BV N p0 rQ n (Sh.w (t4+1)) l19
  else
   some l5
def Fo (N:Nat)(rQ:(List (List Int))->Block->Option (List (List Int)))(s1:(List (List Int)))(p0:Block):Option (List (List Int)):=
 (BV N p0 rQ N 0 s1).bind λl6=>
 some l6
def BY (N:Nat):Nat->(List (List Int))->Block->Option (List (List Int))
 | 0,_,_=>none
 | n+1,s1,p0=>Fo N (BY N n) s1 p0
def JV (N:Nat)(s1:(List (List Int)))(p0:Block):Option (List (List Int)):=BY N N s1 p0
def C4 (rn:Step)(p1:Int)(p2:(List (List Int)))(rY:Block->Int->(List (List Int))->Option (Bool)):Nat->Int->Option ((Bool) ⊕ (Unit))
 | 0,_=>none
 | n+1,t22=>
  if (decide (t22<(Sh.len rn.kids)))=true then
   (Sh.get rn.kids t22).bind λc29=>
   (rY c29 p1 p2).bind λwz=>
   if wz=true then
    some (Sum.inl true)
   else
    C4 rn p1 p2 rY n (Sh.w (t22+1))
  else
   some (Sum.inr ())
def C9 (N:Nat)(rn:Step)(p1:Int)(p2:(List (List Int))):Nat->Int->Option ((Bool) ⊕ (Unit))
 | 0,_=>none
 | n+1,t19=>
  if (decide (t19<(Sh.len rn.args)))=true then
   (Sh.get rn.args t19).bind λc39=>
   (
    if (decide (c39=p1))=true then
     (F5 rn.op).bind λxh=>
     if xh=true then
      if (!decide (rn.op=9))=true then
       some true
      else
       (Sh.get p2 rn.num).bind λc49=>
       (GN N c49 t19).bind λzZ=>
       some (!zZ)
     else
      some false
    else
     some false
   ).bind λt41=>
   if t41=true then
    some (Sum.inl true)
   else
    C9 N rn p1 p2 n (Sh.w (t19+1))
  else
   some (Sum.inr ())
def C8 (N:Nat)(p0:Block)(p1:Int)(p2:(List (List Int)))(rY:Block->Int->(List (List Int))->Option (Bool)):Nat->Int->Option ((Bool) ⊕ (Unit))
 | 0,_=>none
 | n+1,t8=>
  if (decide (t8<(Sh.len p0.steps)))=true then
   (Sh.get p0.steps t8).bind λrn=>
   Sh.cont (C9 N rn p1 p2 N 0) (λx=>Sum.inl x) λ()=>
   Sh.cont (C4 rn p1 p2 rY N 0) (λx=>Sum.inl x) λ()=>
   C8 N p0 p1 p2 rY n (Sh.w (t8+1))
  else
   some (Sum.inr ())
def Iw (N:Nat)(rY:Block->Int->(List (List Int))->Option (Bool))(p0:Block)(p1:Int)(p2:(List (List Int))):Option (Bool):=
 if (decide (p0.result=p1))=true then
  some true
 else
  Sh.cont (C8 N p0 p1 p2 rY N 0) (id) λ()=>
  some false
def EP (N:Nat):Nat->Block->Int->(List (List Int))->Option (Bool)
 | 0,_,_,_=>none
 | n+1,p0,p1,p2=>Iw N (EP N n) p0 p1 p2
def L9 (N:Nat)(p0:Block)(p1:Int)(p2:(List (List Int))):Option (Bool):=EP N N p0 p1 p2
def Jk (N:Nat)(p0:Int)(zo:(List Int))(zu:(List Int))(zw:Int)(xp:(List Step))(xu:Int)(xx:(List (List Int))):Option (Bool):=
 (L9 N (Block.mk xp xu) p0 xx).bind λq3=>
 some (!q3)
def B0 (N:Nat)(p0:(List Int))(sV:(List Int))(sW:(List Int))(sX:Int)(sY:(List Step))(sZ:Int)(sa:(List (List Int))):Nat->Int->(List Int)->Option (List Int)
 | 0,_,_=>none
 | n+1,t5,l6=>
  if (decide (t5<(Sh.len p0)))=true then
   (
    Option.bind (Sh.get p0 t5) λtd=>
    (Jk N td sV sW sX sY sZ sa).bind λvO=>
    if vO=true then
     (Sh.app l6 [td] 8).bind λxU=>
     some xU
    else
     some l6
   ).bind λvd=>
   B0 N p0 sV sW sX sY sZ sa n (Sh.w (t5+1)) vd
  else
   some l6
def Fl (N:Nat)(p0:(List Int))(sV:(List Int))(sW:(List Int))(sX:Int)(sY:(List Step))(sZ:Int)(sa:(List (List Int))):Option (List Int):=
 (B0 N p0 sV sW sX sY sZ sa N 0 []).bind λl7=>
 some l7
def KB (N:Nat)(p0:AP)(p1:Block):Option (Block):=
 (Ig N p1).bind λq3=>
 some q3
def Bn (N:Nat)(p0:AL):Nat->Int->(List AP)->Option (List AP)
 | 0,_,_=>none
 | n+1,t6,l7=>
  if (decide (t6<(Sh.len p0.AB)))=true then
   (Sh.get p0.AB t6).bind λrn=>
   (Bf rn.params).bind λuC=>
   (Bf rn.Ao).bind λzh=>
   (KB N rn rn.body).bind λvO=>
   (Sh.app l7 [AP.mk uC zh rn.result vO] 88).bind λyX=>
   Bn N p0 n (Sh.w (t6+1)) yX
  else
   some l7
def El (N:Nat)(p0:AL):Option (AL):=
 (HK N p0.decls).bind λq3=>
 (Bn N p0 N 0 []).bind λl8=>
 some (AL.mk q3 l8)
def EH (l27:(List (List Int)))(xj:AL):Nat->Int->(List AP)->Option (List AP)
 | 0,_,_=>none
 | n+1,t33,l34=>
  if (decide (t33<(Sh.len xj.AB)))=true then
   (Sh.get l27 t33).bind λxA=>
   (Sh.get l34 t33).bind λc44=>
   EH l27 xj n (Sh.w (t33+1)) (Sh.put l34 t33 (AP.mk c44.params xA c44.result c44.body))
  else
   some l34
def Ey (N:Nat)(p0:AL):Nat->Bool->Int->(List (List Int))->Option (Bool×(List (List Int)))
 | 0,_,_,_=>none
 | n+1,more50,t51,l52=>
  if (decide (t51<(Sh.len p0.AB)))=true then
   (Sh.get p0.AB t51).bind λc61=>
   (Sh.get l52 t51).bind λc63=>
   (Fl N c63 c61.params c61.Ao c61.result c61.body.steps c61.body.result l52).bind λq64=>
   (
    if more50=true then
     some true
    else
     some (decide ((Sh.len q64)<(Sh.len c63)))
   ).bind λzy=>
   Ey N p0 n zy (Sh.w (t51+1)) (Sh.put l52 t51 q64)
  else
   some (more50,l52)
def Ex (N:Nat)(p0:AL):Nat->Bool->(List (List Int))->Option (List (List Int))
 | 0,_,_=>none
 | n+1,more25,l26=>
  if more25=true then
   (Ey N p0 N false 0 l26).bind λ(AAA,l54)=>
   Ex N p0 n AAA l54
  else
   some l26
def CJ (N:Nat)(p0:AL):Nat->Int->(List (List Int))->Option (List (List Int))
 | 0,_,_=>none
 | n+1,t19,yX=>
  if (decide (t19<(Sh.len p0.AB)))=true then
   (Sh.get p0.AB t19).bind λc74=>
   (JV N yX c74.body).bind λq75=>
   CJ N p0 n (Sh.w (t19+1)) q75
  else
   some yX
def Ck (N:Nat)(xk:AP)(t13:Int):Nat->Int->(List (List Int))->Option (List (List Int))
 | 0,_,_=>none
 | n+1,t84,l85=>
  if (decide (t84<(Sh.len xk.params)))=true then
   (
    Option.bind (Sh.get xk.params t84) λc95=>
    if (!decide (c95=0))=true then
     (Sh.get l85 t13).bind λc99=>
     (F4 N c99 t84).bind λq100=>
     some (Sh.put l85 t13 q100)
    else
     some l85
   ).bind λl92=>
   Ck N xk t13 n (Sh.w (t84+1)) l92
  else
   some l85
def CL (N:Nat)(p0:AL):Nat->Int->(List (List Int))->Option (List (List Int))
 | 0,_,_=>none
 | n+1,t13,vd=>
  if (decide (t13<(Sh.len p0.AB)))=true then
   (Sh.get p0.AB t13).bind λxk=>
   (Ck N xk t13 N 0 vd).bind λl86=>
   CL N p0 n (Sh.w (t13+1)) l86
  else
   some vd
def Io (N:Nat)(p0:AL):Option (AL×Bool):=
 (I9 N p0).bind λq4=>
 if (!q4)=true then
  some (AL.mk [] [],false)
 else
  (Sh.mk [] (Sh.len p0.AB) 24).bind λze=>
  (CL N p0 N 0 ze).bind λxT=>
  (CJ N p0 N 0 xT).bind λxU=>
  (Ex N p0 N true xU).bind λl27=>
  (El N p0).bind λxj=>
  (EH l27 xj N 0 xj.AB).bind λzb=>
  some (AL.mk xj.decls zb,true)
def G1 (N:Nat)(p0:AL):Option (Bool):=
 (IM N p0 1048576).bind λq4=>
 if (decide (q4<0))=true then
  some true
 else
  (Fu N p0).bind λuN=>
  (KE N uN).bind λxV=>
  (Fu N p0).bind λyQ=>
  (Io N yQ).bind λtl=>
  (
   Option.bind (Fs N tl.1 xV.1) λq87=>
   if (!q87)=true then
    some true
   else
    some (tl.2 != xV.2)
  ).bind λt18=>
  if t18=true then
   some false
  else
   (Fu N p0).bind λq24=>
   (Fs N yQ q24).bind λq25=>
   if (!q25)=true then
    some false
   else
    (GR N yQ.decls yQ.AB 1).bind λvN=>
    (
     if (decide (vN.1<0))=true then
      some true
     else
      (Fs N tl.1 xV.1).bind λq85=>
      if (!q85)=true then
       some true
      else
       some (tl.2 != xV.2)
    ).bind λt37=>
    if t37=true then
     some false
    else
     (GR N tl.1.decls tl.1.AB 1).bind λwX=>
     (GS N (AL.mk wX.2.1 wX.2.2) 1).bind λq48=>
     if (decide (q48<0))=true then
      some false
     else
     if (!decide (q48=wX.1))=true then
      some false
     else
      (Fu N p0).bind λzU=>
      (Io N zU).bind λq61=>
      (
       Option.bind (Fs N q61.1 xV.1) λq82=>
       if (!q82)=true then
        some true
       else
        some (q61.2 != xV.2)
      ).bind λt64=>
      if t64=true then
       some false
      else
       (GS N (AL.mk wX.2.1 wX.2.2) 1).bind λq70=>
       if (decide (q70<0))=true then
        some false
       else
       if (!decide (q70=wX.1))=true then
        some false
       else
        some true
end RC
