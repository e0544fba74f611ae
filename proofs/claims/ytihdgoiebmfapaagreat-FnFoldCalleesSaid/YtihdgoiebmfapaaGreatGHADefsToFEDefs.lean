import Derived.Test.YtihdgoiebmfapaaGreatSufF
set_option linter.all false
namespace RC
def YY (p0:(List Int))(p1:Int):Option (Int):=
 if (decide ((Sh.w (p1-(Sh.len p0)))<0))=true then
  some (-1)
 else
  some (Sh.w (p1-(Sh.len p0)))
def DZ (p0 p1 p2:Int):Option (Bool):=
 (
  if (decide (p1<=p0))=true then
   some (decide (p0<=p2))
  else
   some false
 ).bind λt3=>
 some t3
def CQ (p0:(List Int)):Option (List Int):=
 (Sh.app ([]:List Int) p0 8).bind λl6=>
 some l6
end RC
namespace RC
def aL (p0:De)(p1:Int):Option (Int):=
 (YY p0.fields p1).bind λq3=>
 if (decide (q3<0))=true then
  some (-1)
 else
  some q3
def Ut (p0:(List De)):Nat->Int->Int->Option ((Int) ⊕ (Int))
 | 0,_,_=>none
 | n+1,left9,i10=>
  if (decide (i10<(Sh.len p0)))=true then
   (Sh.get p0 i10).bind λtL=>
   (aL tL left9).bind λsW=>
   if (decide (sW<0))=true then
    some (Sum.inl (-1))
   else
    Ut p0 n sW (Sh.w (i10+1))
  else
   some (Sum.inr left9)
def FC (p0:(List AN))(p1:(List Int)):Nat->Int->Option ((Bool) ⊕ (Unit))
 | 0,_=>none
 | n+1,i4=>
  if (decide (i4<(Sh.len p1)))=true then
   (Sh.get p1 i4).bind λta=>
   (DZ ta 0 (Sh.len p0)).bind λrX=>
   if (!rX)=true then
    some (Sum.inl false)
   else
    FC p0 p1 n (Sh.w (i4+1))
  else
   some (Sum.inr ())
def IG (N:Nat)(p0:(List AN))(p1:(List Int)):Option (Bool):=
 Sh.cont (FC p0 p1 N 0) (id) λ()=>
 some true
def Ew (N:Nat)(c3:AN)(p0:(List AN)):Nat->Int->Option ((Bool) ⊕ (Unit))
 | 0,_=>none
 | n+1,i15=>
  if (decide (i15<(Sh.len c3.cons)))=true then
   (
    Option.bind (Sh.get c3.cons i15) λc27=>
    if (decide (3<(Sh.len c27.fields)))=true then
     some true
    else
     (IG N p0 c27.fields).bind λvB=>
     some (!vB)
   ).bind λt23=>
   if t23=true then
    some (Sum.inl false)
   else
    Ew N c3 p0 n (Sh.w (i15+1))
  else
   some (Sum.inr ())
def Eu (c3:AN)(p0:(List AN))(p1:Int):Nat->Int->Option ((Bool) ⊕ (Unit))
 | 0,_=>none
 | n+1,i34=>
  if (decide (i34<p1))=true then
   (
    Option.bind (Sh.get p0 i34) λc51=>
    if (decide ((Sh.len c51.cons)=0))=true then
     if (decide (c51.from_=c3.from_))=true then
      some (decide (c51.to=c3.to))
     else
      some false
    else
     some false
   ).bind λt47=>
   if t47=true then
    some (Sum.inl false)
   else
    Eu c3 p0 p1 n (Sh.w (i34+1))
  else
   some (Sum.inr ())
def Ic (N:Nat)(p0:(List AN))(p1:Int):Option (Bool):=
 (Sh.get p0 p1).bind λc3=>
 if (decide (0<(Sh.len c3.cons)))=true then
  (
   if (decide (3<(Sh.len c3.cons)))=true then
    some true
   else
   if (!decide (c3.from_=0))=true then
    some true
   else
    some (!decide (c3.to=0))
  ).bind λt9=>
  if t9=true then
   some false
  else
   Sh.cont (Ew N c3 p0 N 0) (id) λ()=>
   some true
 else
  Sh.cont (Eu c3 p0 p1 N 0) (id) λ()=>
  (
   Option.bind (DZ c3.from_ 0 (Sh.len p0)) λvC=>
   if vC=true then
    (DZ c3.to 0 (Sh.len p0)).bind λwW=>
    some wW
   else
    some false
  ).bind λt37=>
  some t37
def EW (N:Nat)(p0:(List AN)):Nat->Int->Option ((Bool) ⊕ (Unit))
 | 0,_=>none
 | n+1,i8=>
  if (decide (i8<(Sh.len p0)))=true then
   (Ic N p0 i8).bind λsc=>
   if (!sc)=true then
    some (Sum.inl false)
   else
    EW N p0 n (Sh.w (i8+1))
  else
   some (Sum.inr ())
def H8 (N:Nat)(p0:(List AN)):Option (Bool):=
 if (decide (4<(Sh.len p0)))=true then
  some false
 else
  Sh.cont (EW N p0 N 0) (id) λ()=>
  some true
def EG (N:Nat)(p0:AP):Nat->Int->Option ((Bool) ⊕ (Unit))
 | 0,_=>none
 | n+1,i10=>
  if (decide (i10<(Sh.len p0.funcs)))=true then
   (Sh.get p0.funcs i10).bind λwX=>
   (
    if (decide (3<(Sh.len wX.params)))=true then
     some true
    else
     (IG N p0.decls wX.params).bind λvB=>
     if (!vB)=true then
      some true
     else
      (DZ wX.result 0 (Sh.len p0.decls)).bind λyE=>
      some (!yE)
   ).bind λt24=>
   if t24=true then
    some (Sum.inl false)
   else
    EG N p0 n (Sh.w (i10+1))
  else
   some (Sum.inr ())
def HJ (N:Nat)(p0:AP):Option (Bool):=
 (
  Option.bind (H8 N p0.decls) λvD=>
  if (!vD)=true then
   some true
  else
   (DZ (Sh.len p0.funcs) 1 4).bind λsO=>
   some (!sO)
 ).bind λt4=>
 if t4=true then
  some false
 else
  Sh.cont (EG N p0 N 0) (id) λ()=>
  (
   Option.bind (Sh.get p0.funcs 0) λuO=>
   if (decide ((Sh.len uO.params)=0))=true then
    some (decide (uO.result=0))
   else
    some false
  ).bind λt13=>
  some t13
def Eg (p0:(List AN))(p1:Int):Nat->Int->Int->Option (Int)
 | 0,_,_=>none
 | n+1,n5,i6=>
  if (decide (i6<p1))=true then
   (Sh.get p0 i6).bind λsq=>
   Eg p0 p1 n (Sh.w (n5+(Sh.len sq.cons))) (Sh.w (i6+1))
  else
   some n5
def GW (N:Nat)(p0:(List AN))(p1:Int):Option (Int):=
 (Eg p0 p1 N 0 0).bind λn7=>
 some n7
def D5 (N:Nat)(p0:(List AN))(p1:Int):Nat->Int->Option ((Int) ⊕ (Unit))
 | 0,_=>none
 | n+1,i4=>
  if (decide (i4<(Sh.len p0)))=true then
   (GW N p0 i4).bind λsI=>
   (Sh.get p0 i4).bind λsq=>
   (DZ p1 sI (Sh.w ((Sh.w (sI+(Sh.len sq.cons)))-1))).bind λrr=>
   if rr=true then
    some (Sum.inl (Sh.w (i4+1)))
   else
    D5 N p0 p1 n (Sh.w (i4+1))
  else
   some (Sum.inr ())
def GR (N:Nat)(p0:(List AN))(p1:Int):Option (Int):=
 Sh.cont (D5 N p0 p1 N 0) (id) λ()=>
 some (-1)
def Bw (N:Nat)(p0:(List AN))(p1:Int):Option (List Int):=
 (GR N p0 p1).bind λq3=>
 if (decide (q3<1))=true then
  some []
 else
  (Sh.get p0 (Sh.w (q3-1))).bind λc9=>
  (GW N p0 (Sh.w (q3-1))).bind λrl=>
  (Sh.get c9.cons (Sh.w (p1-rl))).bind λc11=>
  some c11.fields
def FT (N:Nat)(p0:(List AN))(p1:Int):Nat->Int->(List Int)->Option (List Int)
 | 0,_,_=>none
 | n+1,i12,wY=>
  (Sh.get p0 (Sh.w (p1-1))).bind λtL=>
  if (decide (i12<(Sh.len tL.cons)))=true then
   (GW N p0 (Sh.w (p1-1))).bind λuB=>
   (Sh.app wY [Sh.w (uB+i12)] 8).bind λl23=>
   FT N p0 p1 n (Sh.w (i12+1)) l23
  else
   some wY
def GN (N:Nat)(p0:(List AN))(p1:Int):Option (List Int):=
 (DZ p1 1 (Sh.len p0)).bind λq5=>
 if (!q5)=true then
  some []
 else
  (FT N p0 p1 N 0 []).bind λru=>
  some ru
def HU (p0:(List AN))(p1:Int):Option (Bool):=
 (
  if (decide (0<=p1))=true then
   some (decide (p1<=(Sh.len p0)))
  else
   some false
 ).bind λt3=>
 some t3
def FA (p0:(List AN))(p1:(List Int)):Nat->Int->Option ((Bool) ⊕ (Unit))
 | 0,_=>none
 | n+1,t4=>
  if (decide (t4<(Sh.len p1)))=true then
   (Sh.get p1 t4).bind λta=>
   (HU p0 ta).bind λuZ=>
   if (!uZ)=true then
    some (Sum.inl false)
   else
    FA p0 p1 n (Sh.w (t4+1))
  else
   some (Sum.inr ())
def HE (N:Nat)(p0:(List AN))(p1:(List Int)):Option (Bool):=
 Sh.cont (FA p0 p1 N 0) (id) λ()=>
 some true
def Dx (sX:AN)(l28:(List AN)):Nat->Int->Option ((Bool) ⊕ (Unit))
 | 0,_=>none
 | n+1,t29=>
  if (decide (t29<(Sh.len l28)))=true then
   (Sh.get l28 t29).bind λc36=>
   (
    if (decide ((Sh.len sX.cons)=0))=true then
     if (decide ((Sh.len c36.cons)=0))=true then
      if (decide (c36.from_=sX.from_))=true then
       some (decide (c36.to=sX.to))
      else
       some false
     else
      some false
    else
     some false
   ).bind λt38=>
   if t38=true then
    some (Sum.inl false)
   else
    Dx sX l28 n (Sh.w (t29+1))
  else
   some (Sum.inr ())
def Dw (N:Nat)(sX:AN)(p0:(List AN)):Nat->Int->Option ((Bool) ⊕ (Unit))
 | 0,_=>none
 | n+1,t25=>
  if (decide (t25<(Sh.len sX.cons)))=true then
   (Sh.get sX.cons t25).bind λvW=>
   (
    if (decide (3<(Sh.len vW.fields)))=true then
     some true
    else
     (HE N p0 vW.fields).bind λym=>
     some (!ym)
   ).bind λt52=>
   if t52=true then
    some (Sum.inl false)
   else
    Dw N sX p0 n (Sh.w (t25+1))
  else
   some (Sum.inr ())
def EU (N:Nat)(p0:(List AN)):Nat->Int->Option ((Bool) ⊕ (Unit))
 | 0,_=>none
 | n+1,t8=>
  if (decide (t8<(Sh.len p0)))=true then
   (Sh.get p0 t8).bind λsX=>
   (
    Option.bind (HU p0 sX.from_) λq58=>
    if (!q58)=true then
     some true
    else
     (HU p0 sX.to).bind λq60=>
     if (!q60)=true then
      some true
     else
     if (decide (3<(Sh.len sX.cons)))=true then
      some true
     else
     if (decide (0<(Sh.len sX.cons)))=true then
      if (!decide (sX.from_=0))=true then
       some true
      else
       some (!decide (sX.to=0))
     else
      some false
   ).bind λt19=>
   if t19=true then
    some (Sum.inl false)
   else
    Sh.cont (Dw N sX p0 N 0) (λx=>Sum.inl x) λ()=>
    (Sh.sl p0 0 t8).bind λl28=>
    Sh.cont (Dx sX l28 N 0) (λx=>Sum.inl x) λ()=>
    EU N p0 n (Sh.w (t8+1))
  else
   some (Sum.inr ())
def H0 (N:Nat)(p0:(List AN)):Option (Bool):=
 if (decide (4<(Sh.len p0)))=true then
  some false
 else
  Sh.cont (EU N p0 N 0) (id) λ()=>
  some true
def EF (su:Bv):Nat->Int->Option ((Bool) ⊕ (Unit))
 | 0,_=>none
 | n+1,t26=>
  if (decide (t26<(Sh.len su.F7)))=true then
   (Sh.get su.F7 t26).bind λxg=>
   (
    if (decide (xg<0))=true then
     some true
    else
    if (decide ((Sh.len su.params)<=xg))=true then
     some true
    else
     (Sh.get su.params xg).bind λyF=>
     if (decide (yF=0))=true then
      some true
     else
     if (decide (0<t26))=true then
      (Sh.get su.F7 (Sh.w (t26-1))).bind λc44=>
      some (decide (xg<=c44))
     else
      some false
   ).bind λt35=>
   if t35=true then
    some (Sum.inl false)
   else
    EF su n (Sh.w (t26+1))
  else
   some (Sum.inr ())
def ED (N:Nat)(p0:(List AN))(p1:(List Bv)):Nat->Int->Option ((Bool) ⊕ (Unit))
 | 0,_=>none
 | n+1,t10=>
  if (decide (t10<(Sh.len p1)))=true then
   (Sh.get p1 t10).bind λsu=>
   (
    if (decide (3<(Sh.len su.params)))=true then
     some true
    else
     (HE N p0 su.params).bind λq46=>
     if (!q46)=true then
      some true
     else
      (HU p0 su.result).bind λyG=>
      some (!yG)
   ).bind λt21=>
   if t21=true then
    some (Sum.inl false)
   else
    Sh.cont (EF su N 0) (λx=>Sum.inl x) λ()=>
    ED N p0 p1 n (Sh.w (t10+1))
  else
   some (Sum.inr ())
def Ij (N:Nat)(p0:(List AN))(p1:(List Bv)):Option (Bool):=
 (
  Option.bind (H0 N p0) λue=>
  if (!ue)=true then
   some true
  else
  if (decide ((Sh.len p1)<1))=true then
   some true
  else
  if (decide (4<(Sh.len p1)))=true then
   some true
  else
   (Sh.get p1 0).bind λc53=>
   if (decide (0<(Sh.len c53.params)))=true then
    some true
   else
    some (!decide (c53.result=0))
 ).bind λt4=>
 if t4=true then
  some false
 else
  Sh.cont (ED N p0 p1 N 0) (id) λ()=>
  some true
def Ec (p0:(List AN)):Nat->Int->Int->Option (Int)
 | 0,_,_=>none
 | n+1,n5,t6=>
  if (decide (t6<(Sh.len p0)))=true then
   (Sh.get p0 t6).bind λuO=>
   Ec p0 n (Sh.w (n5+(Sh.len uO.cons))) (Sh.w (t6+1))
  else
   some n5
def JP (N:Nat)(p0:(List AN)):Option (Int):=
 (Ec p0 N 0 0).bind λn7=>
 some n7
def FY (sq:AN)(rl:Int):Nat->Int->(List Int)->Option (List Int)
 | 0,_,_=>none
 | n+1,t15,yn=>
  if (decide (t15<(Sh.len sq.cons)))=true then
   (Sh.app yn [Sh.w (rl+t15)] 8).bind λl25=>
   FY sq rl n (Sh.w (t15+1)) l25
  else
   some yn
def Ha (N:Nat)(p0:(List AN))(p1:Int):Option (List Int):=
 (
  if (decide (p1<1))=true then
   some true
  else
   some (decide ((Sh.len p0)<p1))
 ).bind λt4=>
 if t4=true then
  some []
 else
  (Sh.sl p0 0 (Sh.w (p1-1))).bind λl9=>
  (JP N l9).bind λrl=>
  (Sh.get p0 (Sh.w (p1-1))).bind λsq=>
  (FY sq rl N 0 []).bind λl17=>
  some l17
def FO (p0:(List AN)):Nat->Int->Int->Option ((Int×De) ⊕ (Unit))
 | 0,_,_=>none
 | n+1,c4,t5=>
  if (decide (t5<(Sh.len p0)))=true then
   (Sh.get p0 t5).bind λyH=>
   (
    if (decide (0<=c4))=true then
     some (decide (c4<(Sh.len yH.cons)))
    else
     some false
   ).bind λt16=>
   if t16=true then
    (Sh.get yH.cons c4).bind λvX=>
    some (Sum.inl (Sh.w (t5+1),vX))
   else
    FO p0 n (Sh.w (c4-(Sh.len yH.cons))) (Sh.w (t5+1))
  else
   some (Sum.inr ())
def IP (N:Nat)(p0:(List AN))(p1:Int):Option (Int×De):=
 Sh.cont (FO p0 N p1 0) (id) λ()=>
 some (-1,De.mk [])
def EO (N:Nat)(p0:(List AN))(p1:Int):Option (List Int):=
 (IP N p0 p1).bind λq3=>
 some q3.2.fields
end RC
namespace RC
end RC
namespace RC
def OQ (p0:(List AE))(rF:AE->Int->Option (Int)):Nat->Int->Int->Option ((Int) ⊕ (Int))
 | 0,_,_=>none
 | n+1,left9,i10=>
  if (decide (i10<(Sh.len p0)))=true then
   (Sh.get p0 i10).bind λtL=>
   (rF tL left9).bind λsW=>
   if (decide (sW<0))=true then
    some (Sum.inl (-1))
   else
    OQ p0 rF n sW (Sh.w (i10+1))
  else
   some (Sum.inr left9)
def Xl (N:Nat)(rF:AE->Int->Option (Int))(p0:(List AE))(p1:Int):Option (Int):=
 if (decide ((Sh.w (p1-(Sh.len p0)))<0))=true then
  some (-1)
 else
  Sh.cont (OQ p0 rF N (Sh.w (p1-(Sh.len p0))) 0) (id) λvY=>
  some vY
def Vs (N:Nat)(rF:AE->Int->Option (Int))(p0:AE)(p1:Int):Option (Int):=
 (Xl N rF p0.kids p1).bind λq3=>
 if (decide (q3<0))=true then
  some (-1)
 else
  some q3
def WV (N:Nat):Nat->AE->Int->Option (Int)
 | 0,_,_=>none
 | n+1,p0,p1=>Vs N (WV N n) p0 p1
def Dk (p0:AE)(qp:AE->Int->Option (Int)):Nat->Int->Int->Option ((Int) ⊕ (Int))
 | 0,_,_=>none
 | n+1,left9,i10=>
  if (decide (i10<(Sh.len p0.kids)))=true then
   (Sh.get p0.kids i10).bind λtL=>
   (qp tL left9).bind λsW=>
   if (decide (sW<0))=true then
    some (Sum.inl (-1))
   else
    Dk p0 qp n sW (Sh.w (i10+1))
  else
   some (Sum.inr left9)
def I0 (N:Nat)(qp:AE->Int->Option (Int))(p0:AE)(p1:Int):Option (Int):=
 if (decide (p1<1))=true then
  some (-1)
 else
  Sh.cont (Dk p0 qp N (Sh.w (p1-1)) 0) (id) λvY=>
  some vY
def FD (N:Nat):Nat->AE->Int->Option (Int)
 | 0,_,_=>none
 | n+1,p0,p1=>I0 N (FD N n) p0 p1
def Lu (N:Nat)(p0:AE)(p1:Int):Option (Int):=FD N N p0 p1
def Gv (N:Nat)(p0:AE):Option (Int):=
 (Lu N p0 30).bind λq3=>
 if (decide (q3<0))=true then
  some (-1)
 else
  some (Sh.w (30-q3))
def Fj (p0:AP)(p1:(List Int))(p2:(List AE))(p3:Int)(qY:AP->(List Int)->AE->Option (Int)):Nat->Int->Option ((Bool) ⊕ (Unit))
 | 0,_=>none
 | n+1,i10=>
  if (decide (i10<p3))=true then
   (Sh.get p2 i10).bind λsu=>
   (qY p0 p1 su).bind λsT=>
   if (!decide (sT=0))=true then
    some (Sum.inl false)
   else
    Fj p0 p1 p2 p3 qY n (Sh.w (i10+1))
  else
   some (Sum.inr ())
def Iy (N:Nat)(qY:AP->(List Int)->AE->Option (Int))(p0:AP)(p1:(List Int))(p2:(List AE))(p3:Int):Option (Bool):=
 if (!decide ((Sh.len p2)=p3))=true then
  some false
 else
  Sh.cont (Fj p0 p1 p2 p3 qY N 0) (id) λ()=>
  some true
def GZ (p0:AP)(p1:(List Int))(p2:(List AE))(p3:(List Int))(qY:AP->(List Int)->AE->Option (Int)):Nat->Int->Option ((Bool) ⊕ (Unit))
 | 0,_=>none
 | n+1,i10=>
  if (decide (i10<(Sh.len p3)))=true then
   (Sh.get p2 i10).bind λsu=>
   (qY p0 p1 su).bind λsT=>
   (Sh.get p3 i10).bind λvX=>
   if (!decide (sT=vX))=true then
    some (Sum.inl false)
   else
    GZ p0 p1 p2 p3 qY n (Sh.w (i10+1))
  else
   some (Sum.inr ())
def JN (N:Nat)(qY:AP->(List Int)->AE->Option (Int))(p0:AP)(p1:(List Int))(p2:(List AE))(p3:(List Int)):Option (Bool):=
 if (!decide ((Sh.len p2)=(Sh.len p3)))=true then
  some false
 else
  Sh.cont (GZ p0 p1 p2 p3 qY N 0) (id) λ()=>
  some true
def FN (p0:(List Int)):Option (List Int):=
 (Sh.app ([]:List Int) p0 8).bind λl3=>
 some l3
def Ek (p0:(List Int))(p1:(List Int)):Option (List Int):=
 (FN p0).bind λq3=>
 (Sh.app q3 p1 8).bind λl4=>
 some l4
def EJ (N:Nat)(p0:AP)(p1:(List Int))(p2:AE)(rr:Int)(q3:(List Int))(qY:AP->(List Int)->AE->Option (Int)):Nat->Int->Option ((Int) ⊕ (Unit))
 | 0,_=>none
 | n+1,i18=>
  if (decide (i18<(Sh.len q3)))=true then
   (Sh.get q3 i18).bind λzb=>
   (Bw N p0.decls zb).bind λth=>
   (Ek p1 th).bind λsv=>
   (Sh.get p2.kids (Sh.w (1+i18))).bind λc29=>
   (qY p0 sv c29).bind λvE=>
   if (!decide (vE=rr))=true then
    some (Sum.inl (-1))
   else
    EJ N p0 p1 p2 rr q3 qY n (Sh.w (i18+1))
  else
   some (Sum.inr ())
def J4 (N:Nat)(qY:AP->(List Int)->AE->Option (Int))(p0:AP)(p1:(List Int))(p2:AE):Option (Int):=
 (GN N p0.decls p2.num).bind λq3=>
 (
  if (decide ((Sh.len q3)=0))=true then
   some true
  else
  if (!decide ((Sh.len p2.kids)=(Sh.w (1+(Sh.len q3)))))=true then
   some true
  else
   (Sh.get p2.kids 0).bind λc37=>
   (qY p0 p1 c37).bind λtu=>
   some (!decide (tu=p2.num))
 ).bind λt6=>
 if t6=true then
  some (-1)
 else
  (Sh.get q3 0).bind λc11=>
  (Bw N p0.decls c11).bind λsI=>
  (Ek p1 sI).bind λrX=>
  (Sh.get p2.kids 1).bind λsq=>
  (qY p0 rX sq).bind λrr=>
  Sh.cont (EJ N p0 p1 p2 rr q3 qY N 1) (id) λ()=>
  some rr
def Ez (p0:(List AN))(p1 p2:Int):Nat->Int->Option ((Int) ⊕ (Unit))
 | 0,_=>none
 | n+1,i4=>
  if (decide (i4<(Sh.len p0)))=true then
   (
    Option.bind (Sh.get p0 i4) λsX=>
    if (decide ((Sh.len sX.cons)=0))=true then
     if (decide (sX.from_=p1))=true then
      some (decide (sX.to=p2))
     else
      some false
    else
     some false
   ).bind λt12=>
   if t12=true then
    some (Sum.inl (Sh.w (i4+1)))
   else
    Ez p0 p1 p2 n (Sh.w (i4+1))
  else
   some (Sum.inr ())
def Ir (N:Nat)(p0:(List AN))(p1 p2:Int):Option (Int):=
 Sh.cont (Ez p0 p1 p2 N 0) (id) λ()=>
 some (-1)
def Fq (N:Nat)(qY:AP->(List Int)->AE->Option (Int))(p0:AP)(p1:(List Int))(p2:AE):Option (Int):=
 (DZ p2.num 0 (Sh.w ((Sh.len p0.funcs)-1))).bind λq4=>
 if (!q4)=true then
  some (-1)
 else
  (Sh.get p0.funcs p2.num).bind λvF=>
  if (decide (p2.op=9))=true then
   (JN N qY p0 p1 p2.kids vF.params).bind λsF=>
   if (!sF)=true then
    some (-1)
   else
    some vF.result
  else
   (
    if (decide ((Sh.len vF.params)=0))=true then
     some true
    else
     (Sh.sl vF.params 0 (Sh.w ((Sh.len vF.params)-1))).bind λl33=>
     (JN N qY p0 p1 p2.kids l33).bind λsO=>
     some (!sO)
   ).bind λt25=>
   if t25=true then
    some (-1)
   else
    (Sh.get vF.params (Sh.w ((Sh.len vF.params)-1))).bind λyp=>
    (Ir N p0.decls yp vF.result).bind λyE=>
    some yE
def G0 (p0:(List AN))(p1:Int):Option (Bool):=
 (
  Option.bind (DZ p1 1 (Sh.len p0)) λq5=>
  if q5=true then
   (Sh.get p0 (Sh.w (p1-1))).bind λc7=>
   some (decide ((Sh.len c7.cons)=0))
  else
   some false
 ).bind λt3=>
 some t3
def Bo (N:Nat)(qY:AP->(List Int)->AE->Option (Int))(p0:AP)(p1:(List Int))(p2:AE):Option (Int):=
 Sh.cont (
  if (decide (p2.op=0))=true then
   (
    if (decide ((Sh.len p2.kids)=0))=true then
     (DZ p2.num (-999) 999).bind λrr=>
     some rr
    else
     some false
   ).bind λt10=>
   if t10=true then
    some (Sum.inl 0)
   else
    some (Sum.inr ())
  else
  if (decide (p2.op=12))=true then
   (
    if (decide ((Sh.len p2.kids)=0))=true then
     (DZ p2.num 0 (Sh.w ((Sh.len p1)-1))).bind λuP=>
     some uP
    else
     some false
   ).bind λt19=>
   if t19=true then
    (Sh.get p1 p2.num).bind λwZ=>
    some (Sum.inl wZ)
   else
    some (Sum.inr ())
  else
   (
    if (decide (p2.op=1))=true then
     some true
    else
    if (decide (p2.op=2))=true then
     some true
    else
    if (decide (p2.op=3))=true then
     some true
    else
     some (decide (p2.op=4))
   ).bind λt27=>
   if t27=true then
    (
     if (decide (p2.num=0))=true then
      (Iy N qY p0 p1 p2.kids 2).bind λxF=>
      some xF
     else
      some false
    ).bind λt31=>
    if t31=true then
     some (Sum.inl 0)
    else
     some (Sum.inr ())
   else
   if (decide (p2.op=5))=true then
    (
     if (decide (p2.num=0))=true then
      (Iy N qY p0 p1 p2.kids 1).bind λxG=>
      some xG
     else
      some false
    ).bind λt40=>
    if t40=true then
     some (Sum.inl 0)
    else
     some (Sum.inr ())
   else
   if (decide (p2.op=6))=true then
    (
     Option.bind (GR N p0.decls p2.num) λxH=>
     if (decide (0<xH))=true then
      (Bw N p0.decls p2.num).bind λwC=>
      (JN N qY p0 p1 p2.kids wC).bind λym=>
      some ym
     else
      some false
    ).bind λt49=>
    if t49=true then
     (GR N p0.decls p2.num).bind λwD=>
     some (Sum.inl wD)
    else
     some (Sum.inr ())
   else
   if (decide (p2.op=13))=true then
    (
     if (decide (p2.num=0))=true then
      some (decide ((Sh.len p2.kids)=2))
     else
      some false
    ).bind λt61=>
    if t61=true then
     (Sh.get p2.kids 0).bind λc65=>
     (qY p0 p1 c65).bind λq66=>
     if (decide (0<=q66))=true then
      (Ek p1 [q66]).bind λq70=>
      (Sh.get p2.kids 1).bind λc71=>
      (qY p0 q70 c71).bind λq72=>
      some (Sum.inl q72)
     else
      some (Sum.inr ())
    else
     some (Sum.inr ())
   else
   if (decide (p2.op=7))=true then
    (
     if (decide (p2.num=0))=true then
      if (decide ((Sh.len p2.kids)=3))=true then
       (Sh.get p2.kids 0).bind λc90=>
       (qY p0 p1 c90).bind λq91=>
       some (decide (q91=0))
      else
       some false
     else
      some false
    ).bind λt77=>
    if t77=true then
     (Sh.get p2.kids 1).bind λc81=>
     (qY p0 p1 c81).bind λq82=>
     (Sh.get p2.kids 2).bind λc84=>
     (qY p0 p1 c84).bind λq85=>
     if (decide (q85=q82))=true then
      some (Sum.inl q82)
     else
      some (Sum.inr ())
    else
     some (Sum.inr ())
   else
   if (decide (p2.op=8))=true then
    (J4 N qY p0 p1 p2).bind λq95=>
    some (Sum.inl q95)
   else
    (
     if (decide (p2.op=9))=true then
      some true
     else
      some (decide (p2.op=10))
    ).bind λt97=>
    if t97=true then
     (Fq N qY p0 p1 p2).bind λq101=>
     some (Sum.inl q101)
    else
    if (decide (p2.op=11))=true then
     (
      if (decide (p2.num=0))=true then
       some (decide ((Sh.len p2.kids)=2))
      else
       some false
     ).bind λt105=>
     if t105=true then
      (Sh.get p2.kids 0).bind λc109=>
      (qY p0 p1 c109).bind λwE=>
      (
       Option.bind (G0 p0.decls wE) λq117=>
       if q117=true then
        (Sh.get p2.kids 1).bind λc119=>
        (qY p0 p1 c119).bind λq120=>
        (Sh.get p0.decls (Sh.w (wE-1))).bind λc121=>
        some (decide (q120=c121.from_))
       else
        some false
      ).bind λt112=>
      if t112=true then
       (Sh.get p0.decls (Sh.w (wE-1))).bind λc116=>
       some (Sum.inl c116.to)
      else
       some (Sum.inr ())
     else
      some (Sum.inr ())
    else
     some (Sum.inr ())
 ) (id) λ()=>
 some (-1)
def Cj (N:Nat):Nat->AP->(List Int)->AE->Option (Int)
 | 0,_,_,_=>none
 | n+1,p0,p1,p2=>Bo N (Cj N n) p0 p1 p2
def Jc (N:Nat)(p0:AP)(p1:(List Int))(p2:AE):Option (Int):=Cj N N p0 p1 p2
def Bp (N:Nat)(p0:AP):Nat->Int->Option ((Bool) ⊕ (Unit))
 | 0,_=>none
 | n+1,i11=>
  if (decide (i11<(Sh.len p0.funcs)))=true then
   (
    Option.bind (Sh.get p0.funcs i11) λwZ=>
    (Gv N wZ.body).bind λwF=>
    if (decide (wF<0))=true then
     some true
    else
     (Jc N p0 wZ.params wZ.body).bind λvZ=>
     some (!decide (vZ=wZ.result))
   ).bind λt19=>
   if t19=true then
    some (Sum.inl false)
   else
    Bp N p0 n (Sh.w (i11+1))
  else
   some (Sum.inr ())
def Be (N:Nat)(p0:AP):Option (Bool):=
 (HJ N p0).bind λq4=>
 if (!q4)=true then
  some false
 else
  Sh.cont (Bp N p0 N 0) (id) λ()=>
  some true
def Dn (p0:AP):Nat->Int->(List Bv)->Option (List Bv)
 | 0,_,_=>none
 | n+1,t9,l10=>
  if (decide (t9<(Sh.len p0.funcs)))=true then
   (Sh.get p0.funcs t9).bind λvX=>
   (Sh.app l10 ([Bv.mk vX.params [] vX.result]) 56).bind λl21=>
   Dn p0 n (Sh.w (t9+1)) l21
  else
   some l10
def HL (N:Nat)(p0:AP):Option (Bool):=
 if (decide (4<(Sh.len p0.funcs)))=true then
  some false
 else
  (Dn p0 N 0 []).bind λl11=>
  (Ij N p0.decls l11).bind λuZ=>
  some uZ
def DT (p0:AE)(qo:Int->AE->Option (Bool×Int)):Nat->Int->Int->Option ((Bool×Int) ⊕ (Int))
 | 0,_,_=>none
 | n+1,t9,f10=>
  if (decide (t9<(Sh.len p0.kids)))=true then
   (Sh.get p0.kids t9).bind λtL=>
   (qo f10 tL).bind λrI=>
   if (!rI.1)=true then
    some (Sum.inl (false,rI.2))
   else
    DT p0 qo n (Sh.w (t9+1)) rI.2
  else
   some (Sum.inr f10)
def IW (N:Nat)(qo:Int->AE->Option (Bool×Int))(qV:Int)(p0:AE):Option (Bool×Int):=
 if (decide (30<(Sh.w (qV+1))))=true then
  some (false,Sh.w (qV+1))
 else
  Sh.cont (DT p0 qo N 0 (Sh.w (qV+1))) (id) λf11=>
  some (true,f11)
def Ev (N:Nat):Nat->Int->AE->Option (Bool×Int)
 | 0,_,_=>none
 | n+1,qV,p0=>IW N (Ev N n) qV p0
def LK (N:Nat)(qV:Int)(p0:AE):Option (Bool×Int):=Ev N N qV p0
def Is (N:Nat)(p0:AE):Option (Int):=
 (LK N 0 p0).bind λq5=>
 if (!q5.1)=true then
  some (-1)
 else
  some q5.2
def FW (p0:AP):Nat->Int->(List Bv)->Option (List Bv)
 | 0,_,_=>none
 | n+1,t5,l6=>
  if (decide (t5<(Sh.len p0.funcs)))=true then
   (Sh.get p0.funcs t5).bind λuO=>
   (Sh.app l6 ([Bv.mk uO.params [] uO.result]) 56).bind λyn=>
   FW p0 n (Sh.w (t5+1)) yn
  else
   some l6
def KZ (N:Nat)(p0:AP):Option (BQ):=
 (FW p0 N 0 []).bind λl7=>
 some (BQ.mk p0.decls l7)
def Gb (p1:Int):Option (List Int):=
 if (decide (p1<0))=true then
  none
 else
  (
   if (decide (0<(Sh.w (p1-(Sh.w (0-0))))))=true then
    (Sh.mk 0 (Sh.w (p1-(Sh.w (0-0)))) 8).bind λwa=>
    (Sh.hi wa 0).bind λwY=>
    some wY
   else
    some []
  ).bind λl6=>
  some l6
def Cg (p0:(List (List Int))):Nat->Int->(List Int)->Option (List Int)
 | 0,_,_=>none
 | n+1,t13,ru=>
  if (decide (t13<(Sh.len p0)))=true then
   (Sh.get p0 t13).bind λwZ=>
   (Sh.app ru wZ 8).bind λl24=>
   Cg p0 n (Sh.w (t13+1)) l24
  else
   some ru
def Cf (p0:(List (List Int))):Nat->Int->Int->Option (Int)
 | 0,_,_=>none
 | n+1,size5,t6=>
  if (decide (t6<(Sh.len p0)))=true then
   (Sh.get p0 t6).bind λyp=>
   if (decide ((Sh.w (size5+(Sh.len yp)))<0))=true then
    none
   else
    Cf p0 n (Sh.w (size5+(Sh.len yp))) (Sh.w (t6+1))
  else
   some size5
def Fs (N:Nat)(p0:(List (List Int))):Option (List Int):=
 (Cf p0 N 0 0).bind λsize7=>
 (Gb size7).bind λrl=>
 (Cg p0 N 0 rl).bind λxI=>
 some xI
def Bl (N:Nat)(p0:BQ)(p1:(List Int))(p2:(List AE))(p3:(List (List Int)))(qa:(List Int)->BQ->AE->Option (Int)):Nat->Int->Int->Option ((Int) ⊕ (Int))
 | 0,_,_=>none
 | n+1,rA,t6=>
  if (decide (t6<(Sh.len p2)))=true then
   (Sh.get p2 t6).bind λuO=>
   (Sh.get p3 t6).bind λsd=>
   (Fs N [p1,sd]).bind λtH=>
   (qa tH p0 uO).bind λsT=>
   (
    if (decide (sT<0))=true then
     some true
    else
    if (decide (0<t6))=true then
     some (!decide (sT=rA))
    else
     some false
   ).bind λt23=>
   if t23=true then
    some (Sum.inl (-1))
   else
    Bl N p0 p1 p2 p3 qa n sT (Sh.w (t6+1))
  else
   some (Sum.inr rA)
def ES (N:Nat)(qa:(List Int)->BQ->AE->Option (Int))(p0:BQ)(p1:(List Int))(p2:(List AE))(p3:(List (List Int))):Option (Int):=
 Sh.cont (Bl N p0 p1 p2 p3 qa N (-1) 0) (id) λsJ=>
 some sJ
def J1 (p0:(List AN))(p1:Int):Option (AN×Bool):=
 (
  if (decide (p1<1))=true then
   some true
  else
  if (decide ((Sh.len p0)<p1))=true then
   some true
  else
   (Sh.get p0 (Sh.w (p1-1))).bind λta=>
   some (decide (0<(Sh.len ta.cons)))
 ).bind λt4=>
 if t4=true then
  some (AN.mk 0 0 [],false)
 else
  (Sh.get p0 (Sh.w (p1-1))).bind λc9=>
  some (c9,true)
def DD (p0:(List Int))(p1:(List Int)):Nat->Int->Option ((Bool) ⊕ (Unit))
 | 0,_=>none
 | n+1,t10=>
  if (decide (t10<(Sh.len p0)))=true then
   (Sh.get p0 t10).bind λtL=>
   (Sh.get p1 t10).bind λvX=>
   if (!decide (tL=vX))=true then
    some (Sum.inl false)
   else
    DD p0 p1 n (Sh.w (t10+1))
  else
   some (Sum.inr ())
def DS (N:Nat)(p0:(List Int))(p1:(List Int)):Option (Bool):=
 if (!decide ((Sh.len p0)=(Sh.len p1)))=true then
  some false
 else
  Sh.cont (DD p0 p1 N 0) (id) λ()=>
  some true
def E4 (p0:(List AN))(p1 p2:Int):Nat->Int->Option ((Int) ⊕ (Unit))
 | 0,_=>none
 | n+1,t4=>
  if (decide (t4<(Sh.len p0)))=true then
   (Sh.get p0 t4).bind λta=>
   (
    if (decide ((Sh.len ta.cons)=0))=true then
     if (decide (ta.from_=p1))=true then
      some (decide (ta.to=p2))
     else
      some false
    else
     some false
   ).bind λt14=>
   if t14=true then
    some (Sum.inl (Sh.w (t4+1)))
   else
    E4 p0 p1 p2 n (Sh.w (t4+1))
  else
   some (Sum.inr ())
def Jx (N:Nat)(p0:(List AN))(p1 p2:Int):Option (Int):=
 Sh.cont (E4 p0 p1 p2 N 0) (id) λ()=>
 some (-1)
def BK (N:Nat)(p0:BQ)(p1 p2:Int)(p3:(List Int)):Option (Int×Bool):=
 Sh.cont (
  if (decide (p1=0))=true then
   (
    if (decide ((-999)<=p2))=true then
     if (decide (p2<=999))=true then
      some (decide ((Sh.len p3)=0))
     else
      some false
    else
     some false
   ).bind λt15=>
   some (Sum.inl (0,t15))
  else
   (
    if (decide (p1=1))=true then
     some true
    else
    if (decide (p1=2))=true then
     some true
    else
    if (decide (p1=3))=true then
     some true
    else
     some (decide (p1=4))
   ).bind λt20=>
   if t20=true then
    some (Sum.inr [(0:Int),0])
   else
   if (decide (p1=5))=true then
    some (Sum.inr [(0:Int)])
   else
   if (decide (p1=11))=true then
    if (!decide ((Sh.len p3)=2))=true then
     some (Sum.inl (-1,false))
    else
     (Sh.get p3 0).bind λze=>
     (J1 p0.decls ze).bind λuC=>
     (
      if uC.2=true then
       (Sh.get p3 1).bind λyF=>
       if (decide (yF=uC.1.from_))=true then
        some (decide (p2=0))
       else
        some false
      else
       some false
     ).bind λt38=>
     some (Sum.inl (uC.1.to,t38))
   else
   if (decide (p1=6))=true then
    (IP N p0.decls p2).bind λwG=>
    (
     if (decide (0<=wG.1))=true then
      (DS N p3 wG.2.fields).bind λxG=>
      some xG
     else
      some false
    ).bind λt42=>
    some (Sum.inl (wG.1,t42))
   else
    (
     if (decide (p1=9))=true then
      some true
     else
      some (decide (p1=10))
    ).bind λt47=>
    if t47=true then
     (
      if (decide (p2<0))=true then
       some true
      else
       some (decide ((Sh.len p0.funcs)<=p2))
     ).bind λt52=>
     if t52=true then
      some (Sum.inl (-1,false))
     else
      (Sh.get p0.funcs p2).bind λwH=>
      if (decide (p1=9))=true then
       (DS N p3 wH.params).bind λq62=>
       some (Sum.inl (wH.result,q62))
      else
      if (decide ((Sh.w ((Sh.len wH.params)-1))<0))=true then
       some (Sum.inl (-1,false))
      else
       (Sh.get wH.params (Sh.w ((Sh.len wH.params)-1))).bind λc69=>
       (Jx N p0.decls c69 wH.result).bind λq70=>
       (
        if (decide (0<=q70))=true then
         (Sh.sl wH.params 0 (Sh.w ((Sh.len wH.params)-1))).bind λl75=>
         (DS N p3 l75).bind λq76=>
         some q76
        else
         some false
       ).bind λt72=>
       some (Sum.inl (q70,t72))
    else
     some (Sum.inl (-1,false))
 ) (id) λl4=>
 (
  if (decide (p2=0))=true then
   (DS N p3 l4).bind λrl=>
   some rl
  else
   some false
 ).bind λt7=>
 some (0,t7)
def CI (N:Nat)(p0:BQ)(wC:(List Int)):Nat->Int->(List (List Int))->Option (List (List Int))
 | 0,_,_=>none
 | n+1,t67,zh=>
  if (decide (t67<(Sh.len wC)))=true then
   (Sh.get wC t67).bind λc79=>
   (EO N p0.decls c79).bind λq80=>
   (Sh.get zh t67).bind λc81=>
   CI N p0 wC n (Sh.w (t67+1)) (Sh.put zh t67 q80)
  else
   some zh
def CJ (s0:(List Int))(p0:BQ)(p2:AE)(qa:(List Int)->BQ->AE->Option (Int)):Nat->Int->(List Int)->Option ((Int) ⊕ (List Int))
 | 0,_,_=>none
 | n+1,t90,l91=>
  if (decide (t90<(Sh.len p2.kids)))=true then
   (Sh.get p2.kids t90).bind λc108=>
   (qa s0 p0 c108).bind λwE=>
   (Sh.get l91 t90).bind λc111=>
   (Sh.get (Sh.put l91 t90 wE) t90).bind λc113=>
   if (decide (c113<0))=true then
    some (Sum.inl (-1))
   else
    CJ s0 p0 p2 qa n (Sh.w (t90+1)) (Sh.put l91 t90 wE)
  else
   some (Sum.inr l91)
def Ap (N:Nat)(qa:(List Int)->BQ->AE->Option (Int))(s0:(List Int))(p0:BQ)(p2:AE):Option (Int):=
 if (decide (p2.op=12))=true then
  (
   if (decide (0<(Sh.len p2.kids)))=true then
    some true
   else
   if (decide (p2.num<0))=true then
    some true
   else
    some (decide ((Sh.len s0)<=p2.num))
  ).bind λt8=>
  if t8=true then
   some (-1)
  else
   (Sh.get s0 p2.num).bind λyH=>
   some yH
 else
 if (decide (p2.op=13))=true then
  (
   if (!decide ((Sh.len p2.kids)=2))=true then
    some true
   else
    some (!decide (p2.num=0))
  ).bind λt20=>
  if t20=true then
   some (-1)
  else
   (Sh.get p2.kids 0).bind λc25=>
   (qa s0 p0 c25).bind λvZ=>
   if (decide (vZ<0))=true then
    some (-1)
   else
    (Sh.app s0 [vZ] 8).bind λl32=>
    (Sh.get p2.kids 1).bind λxg=>
    (qa l32 p0 xg).bind λsO=>
    some sO
 else
 if (decide (p2.op=7))=true then
  (
   if (!decide ((Sh.len p2.kids)=3))=true then
    some true
   else
   if (!decide (p2.num=0))=true then
    some true
   else
    (Sh.get p2.kids 0).bind λc51=>
    (qa s0 p0 c51).bind λq52=>
    some (!decide (q52=0))
  ).bind λt41=>
  if t41=true then
   some (-1)
  else
   (Sh.sl p2.kids 1 (Sh.len p2.kids)).bind λl46=>
   (Sh.mk [] 2 24).bind λl47=>
   (ES N qa p0 s0 l46 l47).bind λyG=>
   some yG
 else
 if (decide (p2.op=8))=true then
  (Ha N p0.decls p2.num).bind λwC=>
  (
   if (decide ((Sh.len wC)=0))=true then
    some true
   else
   if (!decide ((Sh.len p2.kids)=(Sh.w (1+(Sh.len wC)))))=true then
    some true
   else
    (Sh.get p2.kids 0).bind λc84=>
    (qa s0 p0 c84).bind λq85=>
    some (!decide (q85=p2.num))
  ).bind λt59=>
  if t59=true then
   some (-1)
  else
   (Sh.mk [] (Sh.len wC) 24).bind λl64=>
   (CI N p0 wC N 0 l64).bind λl69=>
   (Sh.sl p2.kids 1 (Sh.len p2.kids)).bind λl72=>
   (ES N qa p0 s0 l72 l69).bind λq73=>
   some q73
 else
  (Sh.mk 0 (Sh.len p2.kids) 8).bind λl87=>
  Sh.cont (CJ s0 p0 p2 qa N 0 l87) (id) λl92=>
  (BK N p0 p2.op p2.num l92).bind λq95=>
  if (!q95.2)=true then
   some (-1)
  else
   some q95.1
def Bf (N:Nat):Nat->(List Int)->BQ->AE->Option (Int)
 | 0,_,_,_=>none
 | n+1,s0,p0,p2=>Ap N (Bf N n) s0 p0 p2
def H4 (N:Nat)(s0:(List Int))(p0:BQ)(p2:AE):Option (Int):=Bf N N s0 p0 p2
def MD (N:Nat)(p0:AP)(p1:(List Int))(p2:AE):Option (Int):=
 (
  Option.bind (HL N p0) λrX=>
  if (!rX)=true then
   some true
  else
   (Is N p2).bind λrr=>
   if (decide (rr<0))=true then
    some true
   else
    (HE N p0.decls p1).bind λsF=>
    some (!sF)
 ).bind λt4=>
 if t4=true then
  some (-1)
 else
  (KZ N p0).bind λq9=>
  (CQ p1).bind λrl=>
  (H4 N rl q9 p2).bind λtA=>
  some tA
def Dt (N:Nat)(p0:AP):Nat->Int->Option ((Bool) ⊕ (Unit))
 | 0,_=>none
 | n+1,t11=>
  if (decide (t11<(Sh.len p0.funcs)))=true then
   (Sh.get p0.funcs t11).bind λtL=>
   (MD N p0 tL.params tL.body).bind λrI=>
   if (!decide (rI=tL.result))=true then
    some (Sum.inl false)
   else
    Dt N p0 n (Sh.w (t11+1))
  else
   some (Sum.inr ())
def Cw (N:Nat)(p0:AP):Option (Bool):=
 (HL N p0).bind λq4=>
 if (!q4)=true then
  some false
 else
  Sh.cont (Dt N p0 N 0) (id) λ()=>
  some true
end RC
namespace RC
end RC
namespace RC
end RC
namespace RC
end RC
namespace RC
def O9 (p0:(List Int))(p1:Int):Nat->Bool->Int->(List Int)->Option (Bool×(List Int))
 | 0,_,_,_=>none
 | n+1,done6,i7,l8=>
  if (decide (i7<(Sh.len p0)))=true then
   (
    Option.bind (
     if (!done6)=true then
      (Sh.get p0 i7).bind λc43=>
      some (decide (p1<=c43))
     else
      some false
    ) λt32=>
    if t32=true then
     (
      Option.bind (Sh.get p0 i7) λzi=>
      if (decide (p1<zi))=true then
       (Sh.app l8 [p1] 8).bind λyr=>
       some yr
      else
       some l8
     ).bind λl36=>
     some (true,l36)
    else
     some (done6,l8)
   ).bind λ(zj,l27)=>
   (Sh.get p0 i7).bind λc29=>
   (Sh.app l27 [c29] 8).bind λl30=>
   O9 p0 p1 n zj (Sh.w (i7+1)) l30
  else
   some (done6,l8)
def Y7 (N:Nat)(p0:(List Int))(p1:Int):Option (List Int):=
 (O9 p0 p1 N false 0 []).bind λ(done9,l10)=>
 (
  if (!done9)=true then
   (Sh.app l10 [p1] 8).bind λyI=>
   some yI
  else
   some l10
 ).bind λwY=>
 some wY
end RC
namespace RC
def GM (p0:(List Int))(p1:Int):Nat->Int->Option ((Bool) ⊕ (Unit))
 | 0,_=>none
 | n+1,i4=>
  if (decide (i4<(Sh.len p0)))=true then
   (Sh.get p0 i4).bind λta=>
   if (decide (ta=p1))=true then
    some (Sum.inl true)
   else
    GM p0 p1 n (Sh.w (i4+1))
  else
   some (Sum.inr ())
def KG (N:Nat)(p0:(List Int))(p1:Int):Option (Bool):=
 Sh.cont (GM p0 p1 N 0) (id) λ()=>
 some false
def Pe (N:Nat)(vE:(List Int)):Nat->Int->(List Int)->Option (List Int)
 | 0,_,_=>none
 | n+1,k33,yJ=>
  if (decide (k33<(Sh.len vE)))=true then
   (Sh.get vE k33).bind λyF=>
   (Y7 N yJ yF).bind λq42=>
   Pe N vE n (Sh.w (k33+1)) q42
  else
   some yJ
def I5 (s1:(List Bool))(p0:AE):Option (List Bool):=
 (
  if (decide (p0.op=9))=true then
   some true
  else
   some (decide (p0.op=10))
 ).bind λt3=>
 if t3=true then
  (Sh.get s1 p0.num).bind λc6=>
  some (Sh.put s1 p0.num true)
 else
  some s1
def Eb (p0:AE)(qx:(List Bool)->AE->Option (List Bool)):Nat->Int->(List Bool)->Option (List Bool)
 | 0,_,_=>none
 | n+1,t6,l7=>
  if (decide (t6<(Sh.len p0.kids)))=true then
   (Sh.get p0.kids t6).bind λuO=>
   (qx l7 uO).bind λsc=>
   Eb p0 qx n (Sh.w (t6+1)) sc
  else
   some l7
def Kh (N:Nat)(qx:(List Bool)->AE->Option (List Bool))(s1:(List Bool))(p0:AE):Option (List Bool):=
 (I5 s1 p0).bind λq3=>
 (Eb p0 qx N 0 q3).bind λl8=>
 some l8
def Ge (N:Nat):Nat->(List Bool)->AE->Option (List Bool)
 | 0,_,_=>none
 | n+1,s1,p0=>Kh N (Ge N n) s1 p0
def OZ (N:Nat)(s1:(List Bool))(p0:AE):Option (List Bool):=Ge N N s1 p0
def Ie (N:Nat)(p0:AP)(p1:Int):Option (List Bool):=
 (Sh.mk false (Sh.len p0.funcs) 1).bind λl3=>
 (Sh.get p0.funcs p1).bind λc5=>
 (OZ N l3 c5.body).bind λq6=>
 some q6
def EH (p0:(List Bool)):Nat->Int->(List Int)->Option (List Int)
 | 0,_,_=>none
 | n+1,t5,l6=>
  if (decide (t5<(Sh.len p0)))=true then
   (
    Option.bind (Sh.get p0 t5) λsd=>
    if sd=true then
     (Sh.app l6 [t5] 8).bind λl20=>
     some l20
    else
     some l6
   ).bind λru=>
   EH p0 n (Sh.w (t5+1)) ru
  else
   some l6
def HR (N:Nat)(p0:(List Bool)):Option (List Int):=
 (EH p0 N 0 []).bind λl7=>
 some l7
def HK (N:Nat)(p0:AP)(p1:Int):Option (List Int):=
 (
  Option.bind (Cw N p0) λtA=>
  if (!tA)=true then
   some true
  else
  if (decide (p1<0))=true then
   some true
  else
   some (decide ((Sh.len p0.funcs)<=p1))
 ).bind λt4=>
 if t4=true then
  some []
 else
  (Ie N p0 p1).bind λq9=>
  (HR N q9).bind λrl=>
  some rl
def DF (p0:(List Int))(p1:Int):Nat->Int->Option ((Int) ⊕ (Unit))
 | 0,_=>none
 | n+1,t4=>
  if (decide (t4<(Sh.len p0)))=true then
   (Sh.get p0 t4).bind λyH=>
   if (decide (p1=yH))=true then
    some (Sum.inl t4)
   else
    DF p0 p1 n (Sh.w (t4+1))
  else
   some (Sum.inr ())
def GB (N:Nat)(p0:(List Int))(p1:Int):Option (Int):=
 Sh.cont (DF p0 p1 N 0) (id) λ()=>
 some (-1)
end RC
namespace RC
def Da (p0:(List AN)):Option (List AN):=
 (Sh.app ([]:List AN) p0 40).bind λl6=>
 some l6
def DA (p0:(List De)):Option (List De):=
 (Sh.app ([]:List De) p0 24).bind λl6=>
 some l6
end RC
namespace RC
def EZ (cs:List De):Nat->Int->List De->Option (List De)
 | 0,_,_=>none
 | n+1,i,q=>
  if decide (i<Sh.len cs)=true then
   (Sh.get cs i).bind λc=>
   (CQ c.fields).bind λf=>
   (Sh.get q i).bind λ_=>
   EZ cs n (Sh.w (i+1)) (Sh.put q i (De.mk f))
  else some q
def EY (N:Nat)(m:Int):Nat->Int->List AN->Option (List AN)
 | 0,_,_=>none
 | n+1,t,l=>
  if decide (t<m)=true then
   (Sh.get l t).bind λd=>
   (DA d.cons).bind λrI=>
   (EZ d.cons N 0 rI).bind λq=>
   EY N m n (Sh.w (t+1)) (Sh.put l t (AN.mk d.from_ d.to q))
  else some l
def IL (N:Nat)(p0:List AN):Option (List AN):=
 (Da p0).bind λq9=>
 (EY N (Sh.len q9) N 0 q9).bind λl=>
 some l
end RC
namespace RC
def EE (i5:Int)(p0:(List AN)):Nat->Int->(List De)->Option (List De)
 | 0,_,_=>none
 | n+1,k17,l18=>
  (Sh.get p0 i5).bind λc25=>
  if (decide (k17<(Sh.len c25.cons)))=true then
   (Sh.get c25.cons k17).bind λyK=>
   (FN yK.fields).bind λvB=>
   (Sh.app l18 [De.mk vB] 24).bind λl30=>
   EE i5 p0 n (Sh.w (k17+1)) l30
  else
   some l18
def Es (N:Nat)(p0:(List AN)):Nat->Int->(List AN)->Option (List AN)
 | 0,_,_=>none
 | n+1,i5,l6=>
  if (decide (i5<(Sh.len p0)))=true then
   (EE i5 p0 N 0 []).bind λyI=>
   (Sh.get p0 i5).bind λzk=>
   (Sh.app l6 [AN.mk zk.from_ zk.to yI] 40).bind λl22=>
   Es N p0 n (Sh.w (i5+1)) l22
  else
   some l6
def Ii (N:Nat)(p0:(List AN)):Option (List AN):=
 (Es N p0 N 0 []).bind λl7=>
 some l7
end RC
namespace RC
def Ip (p0:(List Int)):Option ((List Int)×Int):=
 (
  if (decide (2000<(Sh.len p0)))=true then
   (Sh.sl p0 0 2000).bind λl8=>
   some l8
  else
   some p0
 ).bind λcode3=>
 some (code3,0)
def FH (p0:(List Int)):Option (De):=
 some (De.mk p0)
def BB (qV:(List Int))(qZ p1:Int):Option (Int×Int):=
 (
  if (decide (p1<1))=true then
   some true
  else
   some (decide ((Sh.len qV)=0))
 ).bind λt5=>
 if t5=true then
  some (0,Sh.w (qZ+1))
 else
 if (decide ((Sh.w ((Sh.w (qZ+1))-1))<(Sh.len qV)))=true then
  (Sh.get qV (Sh.w ((Sh.w (qZ+1))-1))).bind λsq=>
  (Sh.rem (Sh.wk .i64 sq) p1).bind λd15=>
  some (d15,Sh.w (qZ+1))
 else
  (Sh.rem (Sh.w ((Sh.w (qZ+1))-1)) (Sh.len qV)).bind λd17=>
  (Sh.get qV d17).bind λsu=>
  (Sh.rem (Sh.w ((Sh.w ((Sh.w ((Sh.w (qZ+1))-1))*7))+3)) (Sh.len qV)).bind λd19=>
  (Sh.get qV d19).bind λvX=>
  (Sh.quo (Sh.w ((Sh.w (qZ+1))-1)) (Sh.len qV)).bind λd21=>
  (Sh.rem (Sh.xor (Sh.w ((Sh.w ((Sh.w ((Sh.w ((Sh.wk .i64 su)*131))+(Sh.w ((Sh.wk .i64 vX)*1117))))+(Sh.w ((Sh.w ((Sh.w (qZ+1))-1))*29))))+(Sh.w (d21*53)))) (Sh.w (Int.tdiv (Sh.w ((Sh.w ((Sh.w ((Sh.w ((Sh.wk .i64 su)*131))+(Sh.w ((Sh.wk .i64 vX)*1117))))+(Sh.w ((Sh.w ((Sh.w (qZ+1))-1))*29))))+(Sh.w (d21*53)))) 64))) p1).bind λd24=>
  some (d24,Sh.w (qZ+1))
def HP (qV:(List Int))(qZ:Int):Option ((List AN)×Int):=
 (FH ([]:List Int)).bind λq3=>
 (FH [(0:Int),1]).bind λq4=>
 (FH ([]:List Int)).bind λq6=>
 (FH [(3:Int),0,3]).bind λq7=>
 (FH [(1:Int),3]).bind λq9=>
 (FH [(1:Int),1,0]).bind λrl=>
 (FH [(0:Int)]).bind λtA=>
 (FH [(3:Int)]).bind λsI=>
 (BB qV qZ 5).bind λrr=>
 (
  if (decide (rr.1<4))=true then
   (Sh.get ([AN.mk 0 0 [q9],AN.mk 1 0 [],AN.mk 0 0 [rl,tA,sI],AN.mk 0 1 []]) rr.1).bind λwX=>
   (Sh.app ([AN.mk 0 0 [q3,q4],AN.mk 0 0 [],AN.mk 0 0 [q6,q7]]) [wX] 40).bind λl23=>
   some l23
  else
   some ([AN.mk 0 0 [q3,q4],AN.mk 0 0 [],AN.mk 0 0 [q6,q7]])
 ).bind λl17=>
 some (l17,rr.2)
def E5 (p0:(List Int))(p1:Int):Option (Ac):=
 some (Ac.mk p0 p1 (AE.mk 0 0 []))
def CC (qV:(List Int))(qZ:Int)(p1:(List Int)):Option (Int×Int):=
 (BB qV qZ (Sh.len p1)).bind λq3=>
 (Sh.get p1 q3.1).bind λc4=>
 some (c4,q3.2)
def E3 (p0:(List Int))(p1:Int):Nat->Int->Option ((Int) ⊕ (Unit))
 | 0,_=>none
 | n+1,i4=>
  if (decide (i4<(Sh.len p0)))=true then
   (Sh.get p0 i4).bind λta=>
   if (decide (ta=p1))=true then
    some (Sum.inl i4)
   else
    E3 p0 p1 n (Sh.w (i4+1))
  else
   some (Sum.inr ())
def Jz (N:Nat)(p0:(List Int))(p1:Int):Option (Int):=
 Sh.cont (E3 p0 p1 N 0) (id) λ()=>
 some (-1)
def FP (p0:Int):Option (AE):=
 some (AE.mk 0 p0 [])
def Du (p0:(List Int))(p1:Int):Nat->Int->(List Int)->Option (List Int)
 | 0,_,_=>none
 | n+1,i5,l6=>
  if (decide (i5<(Sh.len p0)))=true then
   (
    Option.bind (Sh.get p0 i5) λsd=>
    if (decide (sd=p1))=true then
     (Sh.app l6 [i5] 8).bind λyI=>
     some yI
    else
     some l6
   ).bind λru=>
   Du p0 p1 n (Sh.w (i5+1)) ru
  else
   some l6
def H3 (N:Nat)(p0:(List Int))(p1:Int):Option (List Int):=
 (Du p0 p1 N 0 []).bind λl7=>
 some l7
def Ei (N:Nat)(p0:AP)(p1:Int):Nat->Int->(List Int)->Option (List Int)
 | 0,_,_=>none
 | n+1,f5,l6=>
  if (decide (f5<(Sh.len p0.funcs)))=true then
   (
    Option.bind (Sh.get p0.funcs f5) λsd=>
    (
     if (decide (0<(Sh.len sd.params)))=true then
      (Sh.get sd.params (Sh.w ((Sh.len sd.params)-1))).bind λc24=>
      (Ir N p0.decls c24 sd.result).bind λuP=>
      some (decide (uP=p1))
     else
      some false
    ).bind λt19=>
    if t19=true then
     (Sh.app l6 [f5] 8).bind λl22=>
     some l22
    else
     some l6
   ).bind λru=>
   Ei N p0 p1 n (Sh.w (f5+1)) ru
  else
   some l6
def Hx (N:Nat)(p0:AP)(p1:Int):Option (List Int):=
 (Ei N p0 p1 N 0 []).bind λl7=>
 some l7
def G1 (N:Nat)(p0:AP)(p1:(List Int))(p2:Int):Option (Bool):=
 (
  Option.bind (G0 p0.decls p2) λq5=>
  if (!q5)=true then
   some true
  else
   (Hx N p0 p2).bind λq7=>
   if (decide (0<(Sh.len q7)))=true then
    some true
   else
    (KG N p1 p2).bind λq9=>
    some q9
 ).bind λt3=>
 some t3
def Ca (p0:Int):Option (AE):=
 some (AE.mk 12 p0 [])
def Bj (p0 p1:Int)(p2:(List AE)):Option (AE):=
 some (AE.mk p0 p1 p2)
def Iu (qV:(List Int))(qZ:Int):Option (Int×Int):=
 (BB qV qZ 6).bind λq3=>
 (BB qV q3.2 6).bind λq4=>
 (BB qV q4.2 40).bind λq5=>
 (CC qV q5.2 [q3.1,q4.1,0,1,2,-1,3,q5.1,999,-998]).bind λq6=>
 some (q6.1,q6.2)
def C9 (qV:(List Int))(s1:(List Ac))(qX:(List AN))(tH:(List Int))(qh:(List Int)->Int->(List Ac)->(List AN)->Int->Option (AE×Int)):Nat->Int->Int->(List AE)->Option (Int×(List AE))
 | 0,_,_,_=>none
 | n+1,i21,f22,l23=>
  if (decide (i21<(Sh.len tH)))=true then
   (Sh.get tH i21).bind λxg=>
   (qh qV f22 s1 qX xg).bind λsO=>
   (Sh.app l23 [sO.1] 40).bind λl35=>
   C9 qV s1 qX tH qh n (Sh.w (i21+1)) sO.2 l35
  else
   some (f22,l23)
def D0 (c59:Ac)(qV:(List Int))(s1:(List Ac))(qX:(List AN))(qh:(List Int)->Int->(List Ac)->(List AN)->Int->Option (AE×Int)):Nat->Int->Int->(List AE)->Option (Int×(List AE))
 | 0,_,_,_=>none
 | n+1,i63,f64,l65=>
  if (decide ((Sh.w (i63+1))<(Sh.len c59.params)))=true then
   (Sh.get c59.params i63).bind λc75=>
   (qh qV f64 s1 qX c75).bind λq76=>
   (Sh.app l65 [q76.1] 40).bind λl77=>
   D0 c59 qV s1 qX qh n (Sh.w (i63+1)) q76.2 l77
  else
   some (f64,l65)
def IJ (N:Nat)(qh:(List Int)->Int->(List Ac)->(List AN)->Int->Option (AE×Int))(qV:(List Int))(qZ:Int)(s1:(List Ac))(qX:(List AN))(p2:Int):Option (AE×Int):=
 (GN N qX p2).bind λq3=>
 if (decide (0<(Sh.len q3)))=true then
  (Sh.get q3 0).bind λc8=>
  (
   Option.bind (
    if (decide (1<(Sh.len q3)))=true then
     (BB qV qZ 4).bind λwb=>
     some (decide (wb.1=0),wb.2)
    else
     some (false,qZ)
   ) λ(t41,f42)=>
   if t41=true then
    (Sh.get q3 1).bind λc45=>
    some (c45,f42)
   else
    some (c8,f42)
  ).bind λ(vF,f11)=>
  (
   Option.bind (Bw N qX vF) λxh=>
   (KG N xh p2).bind λtu=>
   if tu=true then
    some c8
   else
    some vF
  ).bind λsq=>
  (Bw N qX sq).bind λtH=>
  (C9 qV s1 qX tH qh N 0 f11 []).bind λ(f24,l25)=>
  (Bj 6 sq l25).bind λsv=>
  some (sv,f24)
 else
  (Hx N (AP.mk qX s1) p2).bind λue=>
  (
   if (decide (0<p2))=true then
    some (decide (0<(Sh.len ue)))
   else
    some false
  ).bind λt52=>
  if t52=true then
   (BB qV qZ (Sh.len ue)).bind λwC=>
   (Sh.get ue wC.1).bind λwH=>
   (Sh.get s1 wH).bind λc59=>
   (D0 c59 qV s1 qX qh N 0 wC.2 []).bind λ(f66,l67)=>
   (Bj 10 wH l67).bind λq70=>
   some (q70,f66)
  else
   (Iu qV qZ).bind λq79=>
   (FP q79.1).bind λq80=>
   some (q80,q79.2)
def Df (N:Nat):Nat->(List Int)->Int->(List Ac)->(List AN)->Int->Option (AE×Int)
 | 0,_,_,_,_,_=>none
 | n+1,qV,qZ,s1,qX,p2=>IJ N (Df N n) qV qZ s1 qX p2
def Mf (N:Nat)(qV:(List Int))(qZ:Int)(s1:(List Ac))(qX:(List AN))(p2:Int):Option (AE×Int):=Df N N qV qZ s1 qX p2
def Hn (N:Nat)(qV:(List Int))(qZ:Int)(s1:(List Ac))(qX:(List AN))(p2:(List Int))(p3:Int):Option (AE×Int):=
 (H3 N p2 p3).bind λq3=>
 (
  if (decide (0<(Sh.len q3)))=true then
   (BB qV qZ 6).bind λsF=>
   if (decide (0<sF.1))=true then
    some (true,sF.2)
   else
    (G1 N (AP.mk qX s1) ([]:List Int) p3).bind λsT=>
    some (!sT,sF.2)
  else
   some (false,qZ)
 ).bind λ(t6,f7)=>
 if t6=true then
  (BB qV f7 (Sh.len q3)).bind λtA=>
  (Sh.get q3 tA.1).bind λta=>
  (Ca ta).bind λrX=>
  some (rX,tA.2)
 else
  (Mf N qV f7 s1 qX p3).bind λrr=>
  some (rr.1,rr.2)
def Jv (N:Nat)(qV:(List Int))(qZ:Int)(s1:(List Ac))(qX:(List AN))(p2:(List Int)):Option (Int×Int):=
 (CC qV qZ [(1:Int),1,3,0,2,4,3]).bind λq3=>
 (
  if (decide ((Sh.len qX)<q3.1))=true then
   some true
  else
   (G1 N (AP.mk qX s1) p2 q3.1).bind λsI=>
   some (!sI)
 ).bind λt6=>
 if t6=true then
  some (1,q3.2)
 else
  some (q3.1,q3.2)
def FZ (qV:(List Int))(s1:(List Ac))(qX:(List AN))(p2:(List Int))(p3:(List Int))(p4:Int)(qb:(List Int)->Int->(List Ac)->(List AN)->(List Int)->Int->Int->Option (AE×Int)):Nat->Int->Int->(List AE)->Option (Int×(List AE))
 | 0,_,_,_=>none
 | n+1,i5,f6,l7=>
  if (decide (i5<(Sh.len p3)))=true then
   (Sh.get p3 i5).bind λsX=>
   (Sh.quo p4 (Sh.len p3)).bind λd17=>
   (qb qV f6 s1 qX p2 sX d17).bind λtH=>
   (Sh.app l7 [tH.1] 40).bind λyI=>
   FZ qV s1 qX p2 p3 p4 qb n (Sh.w (i5+1)) tH.2 yI
  else
   some (f6,l7)
def Fy (N:Nat)(qb:(List Int)->Int->(List Ac)->(List AN)->(List Int)->Int->Int->Option (AE×Int))(qV:(List Int))(qZ:Int)(s1:(List Ac))(qX:(List AN))(p2:(List Int))(p3:(List Int))(p4:Int):Option ((List AE)×Int):=
 (FZ qV s1 qX p2 p3 p4 qb N 0 qZ []).bind λ(f8,l9)=>
 some (l9,f8)
def EA (N:Nat)(qV:(List Int))(s1:(List Ac))(qX:(List AN))(p2:(List Int))(p3 p4:Int)(q8:(List Int))(qb:(List Int)->Int->(List Ac)->(List AN)->(List Int)->Int->Int->Option (AE×Int)):Nat->Int->Int->(List AE)->Option (Int×(List AE))
 | 0,_,_,_=>none
 | n+1,i13,f14,xI=>
  if (decide (i13<(Sh.len q8)))=true then
   (Sh.get q8 i13).bind λc25=>
   (Bw N qX c25).bind λvZ=>
   (Ek p2 vZ).bind λth=>
   (Sh.quo (Sh.w (p4-2)) (Sh.len q8)).bind λd28=>
   (qb qV f14 s1 qX th p3 d28).bind λvB=>
   (Sh.app xI [vB.1] 40).bind λl30=>
   EA N qV s1 qX p2 p3 p4 q8 qb n (Sh.w (i13+1)) vB.2 l30
  else
   some (f14,xI)
def JO (N:Nat)(qb:(List Int)->Int->(List Ac)->(List AN)->(List Int)->Int->Int->Option (AE×Int))(qV:(List Int))(qZ:Int)(s1:(List Ac))(qX:(List AN))(p2:(List Int))(p3 p4:Int):Option (AE×Int):=
 (CC qV qZ [(1:Int),1,3,4]).bind λq3=>
 (
  Option.bind (
   if (decide ((Sh.len qX)<q3.1))=true then
    some true
   else
    (G0 qX q3.1).bind λxF=>
    some xF
  ) λt32=>
  if t32=true then
   some 1
  else
   some q3.1
 ).bind λd5=>
 (GN N qX d5).bind λq8=>
 (Hn N qV q3.2 s1 qX p2 d5).bind λrl=>
 (EA N qV s1 qX p2 p3 p4 q8 qb N 0 rl.2 [rl.1]).bind λ(f16,l17)=>
 (Bj 8 d5 l17).bind λsW=>
 some (sW,f16)
def Ed (N:Nat)(sd:Ac)(p0:AP):Nat->Bool->Int->Option (Bool)
 | 0,_,_=>none
 | n+1,ok20,i21=>
  if (decide (i21<(Sh.len sd.params)))=true then
   (
    if ok20=true then
     (Sh.get sd.params i21).bind λze=>
     (G1 N p0 ([]:List Int) ze).bind λuC=>
     some uC
    else
     some false
   ).bind λok31=>
   Ed N sd p0 n ok31 (Sh.w (i21+1))
  else
   some ok20
def Ej (N:Nat)(p0:AP)(p1:Int):Nat->Int->(List Int)->Option (List Int)
 | 0,_,_=>none
 | n+1,f5,l6=>
  if (decide (f5<(Sh.len p0.funcs)))=true then
   (
    Option.bind (Sh.get p0.funcs f5) λsd=>
    (Ed N sd p0 N (decide (sd.result=p1)) 0).bind λok22=>
    if ok22=true then
     (Sh.app l6 [f5] 8).bind λl26=>
     some l26
    else
     some l6
   ).bind λru=>
   Ej N p0 p1 n (Sh.w (f5+1)) ru
  else
   some l6
def JM (N:Nat)(p0:AP)(p1:Int):Option (List Int):=
 (Ej N p0 p1 N 1 []).bind λl7=>
 some l7
def Eo (N:Nat)(qV:(List Int))(s1:(List Ac))(qX:(List AN))(p2:(List Int))(p3 p4:Int)(sO:Int×Int)(qb:(List Int)->Int->(List Ac)->(List AN)->(List Int)->Int->Int->Option (AE×Int)):Nat->Int->Option ((AE×Int) ⊕ (Unit))
 | 0,_=>none
 | n+1,va=>
  if (decide (va<=(Sh.len qX)))=true then
   (
    Option.bind (G0 qX va) λwD=>
    if wD=true then
     (Sh.get qX (Sh.w (va-1))).bind λc55=>
     if (decide (c55.to=p3))=true then
      (G1 N (AP.mk qX s1) p2 va).bind λym=>
      some ym
     else
      some false
    else
     some false
   ).bind λt45=>
   if t45=true then
    (Hn N qV sO.2 s1 qX p2 va).bind λue=>
    (Sh.get qX (Sh.w (va-1))).bind λvW=>
    (qb qV ue.2 s1 qX p2 vW.from_ (Sh.w (p4-2))).bind λq51=>
    (Bj 11 0 [ue.1,q51.1]).bind λq52=>
    some (Sum.inl (q52,q51.2))
   else
    Eo N qV s1 qX p2 p3 p4 sO qb n (Sh.w (va+1))
  else
   some (Sum.inr ())
def JJ (N:Nat)(qb:(List Int)->Int->(List Ac)->(List AN)->(List Int)->Int->Int->Option (AE×Int))(qV:(List Int))(qZ:Int)(s1:(List Ac))(qX:(List AN))(p2:(List Int))(p3 p4:Int):Option (AE×Int):=
 Sh.cont (
  (BB qV qZ 4).bind λsO=>
  if (decide (sO.1=0))=true then
   Sh.cont (Eo N qV s1 qX p2 p3 p4 sO qb N 1) (λx=>Sum.inl x) λ()=>
   some (Sum.inr sO.2)
  else
   some (Sum.inr sO.2)
 ) (id) λf3=>
 (GN N qX p3).bind λq6=>
 if (decide (0<(Sh.len q6)))=true then
  (BB qV f3 (Sh.len q6)).bind λtA=>
  (Sh.get q6 tA.1).bind λta=>
  (Bw N qX ta).bind λuZ=>
  (Fy N qb qV tA.2 s1 qX p2 uZ (Sh.w (p4-1))).bind λrr=>
  (Bj 6 ta rr.1).bind λsc=>
  some (sc,rr.2)
 else
 if (decide (0<p3))=true then
  (Hn N qV f3 s1 qX p2 p3).bind λrI=>
  some (rI.1,rI.2)
 else
  (BB qV f3 3).bind λwF=>
  if (decide (wF.1=0))=true then
   (Fy N qb qV wF.2 s1 qX p2 [(0:Int)] (Sh.w (p4-1))).bind λth=>
   (Bj 5 0 th.1).bind λsv=>
   some (sv,th.2)
  else
   (CC qV wF.2 [(1:Int),2,3,4]).bind λvE=>
   (Fy N qb qV vE.2 s1 qX p2 [(0:Int),0] (Sh.w (p4-1))).bind λyE=>
   (Bj vE.1 0 yE.1).bind λvD=>
   some (vD,yE.2)
def Lh (N:Nat)(qb:(List Int)->Int->(List Ac)->(List AN)->(List Int)->Int->Int->Option (AE×Int))(qV:(List Int))(qZ:Int)(s1:(List Ac))(qX:(List AN))(p2:(List Int))(p3 p4:Int):Option (AE×Int):=
 if (decide (p4<3))=true then
  (Hn N qV qZ s1 qX p2 p3).bind λq6=>
  some (q6.1,q6.2)
 else
  Sh.cont (
   (BB qV qZ 12).bind λrX=>
   if (decide (rX.1=0))=true then
    (Hn N qV rX.2 s1 qX p2 p3).bind λsF=>
    some (Sum.inl (sF.1,sF.2))
   else
    (
     if (decide (rX.1=1))=true then
      some true
     else
      some (decide (rX.1=2))
    ).bind λt19=>
    if t19=true then
     (Jv N qV rX.2 s1 qX p2).bind λsY=>
     (qb qV sY.2 s1 qX p2 sY.1 (Sh.w (Int.tdiv p4 2))).bind λuP=>
     (Ek p2 [sY.1]).bind λvZ=>
     (qb qV uP.2 s1 qX vZ p3 (Sh.w (Int.tdiv p4 2))).bind λth=>
     (Bj 13 0 [uP.1,th.1]).bind λsv=>
     some (Sum.inl (sv,th.2))
    else
    if (decide (rX.1=3))=true then
     (Fy N qb qV rX.2 s1 qX p2 [0,p3,p3] (Sh.w (p4-1))).bind λvD=>
     (Bj 7 0 vD.1).bind λuf=>
     some (Sum.inl (uf,vD.2))
    else
     (
      if (decide (rX.1=4))=true then
       some true
      else
      if (decide (rX.1=5))=true then
       some true
      else
       some (decide (rX.1=6))
     ).bind λt35=>
     if t35=true then
      (JO N qb qV rX.2 s1 qX p2 p3 p4).bind λvC=>
      some (Sum.inl (vC.1,vC.2))
     else
      (
       if (decide (rX.1=7))=true then
        some true
       else
        some (decide (rX.1=8))
      ).bind λt41=>
      if t41=true then
       (JM N (AP.mk qX s1) p3).bind λxG=>
       if (decide (0<(Sh.len xG)))=true then
        (BB qV rX.2 (Sh.len xG)).bind λue=>
        (Sh.get xG ue.1).bind λvW=>
        (Sh.get s1 vW).bind λc52=>
        (Fy N qb qV ue.2 s1 qX p2 c52.params (Sh.w (p4-1))).bind λwD=>
        (Bj 9 vW wD.1).bind λxH=>
        some (Sum.inl (xH,wD.2))
       else
        some (Sum.inr rX.2)
      else
       some (Sum.inr rX.2)
  ) (id) λf8=>
  (JJ N qb qV f8 s1 qX p2 p3 p4).bind λtA=>
  some (tA.1,tA.2)
def JC (N:Nat):Nat->(List Int)->Int->(List Ac)->(List AN)->(List Int)->Int->Int->Option (AE×Int)
 | 0,_,_,_,_,_,_,_=>none
 | n+1,qV,qZ,s1,qX,p2,p3,p4=>Lh N (JC N n) qV qZ s1 qX p2 p3 p4
def G4 (N:Nat)(qV:(List Int))(qZ:Int)(s1:(List Ac))(qX:(List AN))(p2:(List Int))(p3 p4:Int):Option (AE×Int):=JC N N qV qZ s1 qX p2 p3 p4
def Fi (qV:(List Int)):Nat->Int->Int->Int->Int->(List AE)->Option (Int×Int×Int×(List AE))
 | 0,_,_,_,_,_=>none
 | n+1,n21,f22,f23,f24,f25=>
  if (decide (0<n21))=true then
   (Iu qV f22).bind λxF=>
   (FP xF.1).bind λxh=>
   (Bj 6 1 [xh,AE.mk f23 f24 f25]).bind λtu=>
   Fi qV n (Sh.w (n21-1)) xF.2 tu.op tu.num tu.kids
  else
   some (f22,f23,f24,f25)
def Jy (N:Nat)(qV:(List Int))(qZ p1:Int):Option (AE×Int):=
 (Bj 6 0 ([]:List AE)).bind λq3=>
 if (decide (p1=3))=true then
  (Bj 6 2 ([]:List AE)).bind λq8=>
  (BB qV qZ 9).bind λrl=>
  (FP rl.1).bind λtA=>
  (Bj 6 3 [q8,tA,q8]).bind λsI=>
  (BB qV rl.2 9).bind λuZ=>
  (FP uZ.1).bind λrr=>
  (Bj 6 3 [sI,rr,q8]).bind λsc=>
  some (sc,uZ.2)
 else
  (BB qV qZ 3).bind λsW=>
  (Fi qV N (Sh.w (1+sW.1)) sW.2 q3.op q3.num q3.kids).bind λ(f26,f27,f28,f29)=>
  some (AE.mk f27 f28 f29,f26)
def JQ (N:Nat)(qV:(List Int))(qZ:Int)(s1:(List Ac))(qX:(List AN)):Option (AE×Int):=
 (CC qV qZ [(1:Int),1,3]).bind λq3=>
 (G4 N qV q3.2 s1 qX [q3.1] 0 16).bind λq5=>
 (
  Option.bind (BB qV q5.2 3) λsc=>
  if (decide (sc.1=0))=true then
   (Bj 5 0 [q5.1]).bind λtH=>
   some (sc.2,tH.op,tH.num,tH.kids)
  else
   some (sc.2,q5.1.op,q5.1.num,q5.1.kids)
 ).bind λ(f7,f8,f9,f10)=>
 (Jy N qV f7 q3.1).bind λrX=>
 (Bj 13 0 [rX.1,AE.mk f8 f9 f10]).bind λuZ=>
 some (uZ,rX.2)
def Eh (c3:Ac)(qV:(List Int))(p3:Int):Nat->Int->Int->(List AE)->Option (Int×(List AE))
 | 0,_,_,_=>none
 | n+1,i10,f11,wa=>
  if (decide (i10<(Sh.len c3.params)))=true then
   (
    if (decide (i10=p3))=true then
     (Ca (Sh.w ((Sh.len c3.params)+1))).bind λq67=>
     (Sh.app wa [q67] 40).bind λzh=>
     some (f11,zh)
    else
     (
      Option.bind (Sh.get c3.params i10) λc80=>
      if (decide (c80=0))=true then
       (BB qV f11 2).bind λq82=>
       some (decide (q82.1=0),q82.2)
      else
       some (false,f11)
     ).bind λ(t70,f71)=>
     if t70=true then
      (Ca i10).bind λq74=>
      (Ca (Sh.len c3.params)).bind λq75=>
      (Bj 1 0 [q74,q75]).bind λq76=>
      (Sh.app wa [q76] 40).bind λl77=>
      some (f71,l77)
     else
      (Ca i10).bind λq78=>
      (Sh.app wa [q78] 40).bind λl79=>
      some (f71,l79)
   ).bind λ(f62,l63)=>
   Eh c3 qV p3 n (Sh.w (i10+1)) f62 l63
  else
   some (f11,wa)
def JE (N:Nat)(qV:(List Int))(qZ:Int)(s1:(List Ac))(qX:(List AN))(p2 p3:Int):Option (AE×Int):=
 (Sh.get s1 p2).bind λc3=>
 (Ek c3.params [(0:Int),1]).bind λq6=>
 (Eh c3 qV p3 N 0 qZ []).bind λ(f13,ru)=>
 (Bj 9 p2 ru).bind λsF=>
 (
  Option.bind (
   if (decide (c3.result=1))=true then
    (BB qV f13 5).bind λym=>
    some (decide (0<ym.1),ym.2)
   else
    some (false,f13)
  ) λ(t30,f31)=>
  if t30=true then
   (G4 N qV f31 s1 qX q6 0 4).bind λuC=>
   (
    Option.bind (
     if (decide (1<(Sh.len c3.params)))=true then
      (Sh.get c3.params 0).bind λvW=>
      some (decide (vW=2))
     else
      some false
    ) λt43=>
    if t43=true then
     (Ca 0).bind λq46=>
     (Ca (Sh.len c3.params)).bind λwb=>
     (Bj 11 0 [q46,wb]).bind λyG=>
     some (yG.op,yG.num,yG.kids)
    else
     some (uC.1.op,uC.1.num,uC.1.kids)
   ).bind λ(f37,f38,f39)=>
   (Bj 6 1 [AE.mk f37 f38 f39,sF]).bind λwW=>
   some (uC.2,wW.op,wW.num,wW.kids)
  else
  if (decide (c3.result=0))=true then
   (CC qV f31 [(1:Int),2]).bind λwD=>
   (G4 N qV wD.2 s1 qX q6 0 4).bind λxH=>
   (Bj wD.1 0 [xH.1,sF]).bind λq55=>
   some (xH.2,q55.op,q55.num,q55.kids)
  else
   some (f31,sF.op,sF.num,sF.kids)
 ).bind λ(f20,f21,f22,f23)=>
 (Ca p3).bind λvZ=>
 (G4 N qV f20 s1 qX c3.params c3.result 4).bind λth=>
 (Bj 8 1 [vZ,th.1,AE.mk f21 f22 f23]).bind λsv=>
 some (sv,th.2)
def Ef (c3:Ac):Nat->Int->(List AE)->(List AE)->Option ((List AE)×(List AE))
 | 0,_,_,_=>none
 | n+1,i11,wa,wY=>
  if (decide (i11<(Sh.len c3.params)))=true then
   (Ca i11).bind λwb=>
   (Sh.app wa [wb] 40).bind λl48=>
   (Ca i11).bind λue=>
   (Sh.app wY [ue] 40).bind λl50=>
   Ef c3 n (Sh.w (i11+1)) l48 l50
  else
   some (wa,wY)
def JG (N:Nat)(qV:(List Int))(qZ:Int)(s1:(List Ac))(qX:(List AN))(p2:Int):Option (AE×Int):=
 (Sh.get s1 p2).bind λc3=>
 (Ca (Sh.len c3.params)).bind λq6=>
 (Ca (Sh.w ((Sh.len c3.params)+2))).bind λq8=>
 (Ef c3 N 1 [q6] [q8]).bind λ(ru,xI)=>
 (Bj 9 p2 ru).bind λtH=>
 (Bj 9 p2 xI).bind λsW=>
 (Ek c3.params [(3:Int),0,3]).bind λuB=>
 (G4 N qV qZ s1 qX uB 0 4).bind λsY=>
 (Bj 1 0 [sY.1,sW]).bind λwF=>
 (Bj 1 0 [tH,wF]).bind λuP=>
 (
  if (decide (c3.result=3))=true then
   (Ek c3.params [(3:Int),0,3]).bind λtu=>
   (G4 N qV sY.2 s1 qX tu 0 4).bind λvC=>
   (Ca (Sh.w ((Sh.len c3.params)+2))).bind λwG=>
   (Bj 6 3 [tH,vC.1,wG]).bind λwW=>
   some (vC.2,wW.op,wW.num,wW.kids)
  else
   some (sY.2,uP.op,uP.num,uP.kids)
 ).bind λ(f27,f28,f29,f30)=>
 (Ca 0).bind λuf=>
 (G4 N qV f27 s1 qX c3.params c3.result 4).bind λsO=>
 (Bj 8 3 [uf,sO.1,AE.mk f28 f29 f30]).bind λuC=>
 some (uC,sO.2)
def Ep (N:Nat)(c3:Ac)(qV:(List Int))(s1:(List Ac))(qX:(List AN)):Nat->Int->Int->(List AE)->Option (Int×(List AE))
 | 0,_,_,_=>none
 | n+1,i10,f11,wa=>
  if (decide (i10<(Sh.len c3.params)))=true then
   (Sh.get c3.params i10).bind λzi=>
   (Hn N qV f11 s1 qX c3.params zi).bind λwG=>
   (Sh.app wa [wG.1] 40).bind λyr=>
   Ep N c3 qV s1 qX n (Sh.w (i10+1)) wG.2 yr
  else
   some (f11,wa)
def JW (N:Nat)(qV:(List Int))(qZ:Int)(s1:(List Ac))(qX:(List AN))(p2:Int):Option (AE×Int):=
 (Sh.get s1 p2).bind λc3=>
 (Ca 0).bind λq5=>
 (FP 1).bind λq6=>
 (Bj 2 0 [q5,q6]).bind λq7=>
 (Ep N c3 qV s1 qX N 1 qZ [q7]).bind λ(f13,ru)=>
 (Bj 9 p2 ru).bind λsF=>
 (
  if (decide (c3.result=1))=true then
   (G4 N qV f13 s1 qX c3.params 0 3).bind λuf=>
   (Bj 6 1 [uf.1,sF]).bind λsO=>
   some (uf.2,sO.op,sO.num,sO.kids)
  else
   some (f13,sF.op,sF.num,sF.kids)
 ).bind λ(f19,f20,f21,f22)=>
 (FP 0).bind λuP=>
 (Ca 0).bind λvZ=>
 (Bj 4 0 [uP,vZ]).bind λth=>
 (G4 N qV f19 s1 qX c3.params c3.result 4).bind λvB=>
 (Bj 7 0 [th,AE.mk f20 f21 f22,vB.1]).bind λvE=>
 some (vE,vB.2)
def GF (N:Nat)(qV:(List Int))(s1:(List Ac))(qX:(List AN))(p2:(List Int))(p3:Int):Nat->Int->Int->Int->Int->(List AE)->Option (Int×Int×Int×(List AE))
 | 0,_,_,_,_,_=>none
 | n+1,budget5,f6,f7,f8,f9=>
  (
   Option.bind (Gv N (AE.mk f7 f8 f9)) λsY=>
   if (decide (sY<0))=true then
    some (decide (2<budget5))
   else
    some false
  ).bind λt18=>
  if t18=true then
   (G4 N qV f6 s1 qX p2 p3 (Sh.w (Int.tdiv budget5 2))).bind λuB=>
   GF N qV s1 qX p2 p3 n (Sh.w (Int.tdiv budget5 2)) uB.2 uB.1.op uB.1.num uB.1.kids
  else
   some (f6,f7,f8,f9)
def Iv (N:Nat)(qV:(List Int))(qZ:Int)(s1:(List Ac))(qX:(List AN))(p2:(List Int))(p3 p4:Int):Option (AE×Int):=
 (G4 N qV qZ s1 qX p2 p3 p4).bind λq3=>
 (GF N qV s1 qX p2 p3 N p4 q3.2 q3.1.op q3.1.num q3.1.kids).bind λ(f10,f11,f12,f13)=>
 some (AE.mk f11 f12 f13,f10)
def Ki (N:Nat)(qV:(List Int))(qZ:Int)(s1:(List Ac))(qX:(List AN))(p2:Int):Option (AE×Int):=
 (Sh.get s1 p2).bind λc3=>
 (Jz N c3.params 1).bind λq6=>
 (FP 0).bind λq8=>
 (BB qV qZ 4).bind λrl=>
 (
  Option.bind (
   if (decide (rl.1<3))=true then
    some (decide (p2=0))
   else
    some false
  ) λt25=>
  if t25=true then
   (JQ N qV rl.2 s1 qX).bind λsv=>
   some (sv.2,sv.1.op,sv.1.num,sv.1.kids)
  else
   (
    if (decide (rl.1<3))=true then
     if (decide (0<=q6))=true then
      if (decide (c3.result=0))=true then
       some true
      else
       some (decide (c3.result=1))
     else
      some false
    else
     some false
   ).bind λt30=>
   if t30=true then
    (JE N qV rl.2 s1 qX p2 q6).bind λuf=>
    some (uf.2,uf.1.op,uf.1.num,uf.1.kids)
   else
    (
     if (decide (rl.1<3))=true then
      if (decide (0<(Sh.len c3.params)))=true then
       (Sh.get c3.params 0).bind λc52=>
       if (decide (c52=3))=true then
        if (decide (c3.result=0))=true then
         some true
        else
         some (decide (c3.result=3))
       else
        some false
      else
       some false
     else
      some false
    ).bind λt35=>
    if t35=true then
     (JG N qV rl.2 s1 qX p2).bind λtu=>
     some (tu.2,tu.1.op,tu.1.num,tu.1.kids)
    else
     (
      if (decide (rl.1<3))=true then
       if (decide (0<(Sh.len c3.params)))=true then
        (Sh.get c3.params 0).bind λc47=>
        if (decide (c47=0))=true then
         if (decide (c3.result=0))=true then
          some true
         else
          some (decide (c3.result=1))
        else
         some false
       else
        some false
      else
       some false
     ).bind λt40=>
     if t40=true then
      (JW N qV rl.2 s1 qX p2).bind λyu=>
      some (yu.2,yu.1.op,yu.1.num,yu.1.kids)
     else
      (Iv N qV rl.2 s1 qX c3.params c3.result 18).bind λxj=>
      some (xj.2,xj.1.op,xj.1.num,xj.1.kids)
 ).bind λ(f12,f13,f14,f15)=>
 (Gv N (AE.mk f13 f14 f15)).bind λsT=>
 if (decide (sT<0))=true then
  (Iv N qV f12 s1 qX c3.params c3.result 12).bind λuB=>
  some (uB.1,uB.2)
 else
  some (AE.mk f13 f14 f15,f12)
def EB (N:Nat)(qV:(List Int))(q3:(List AN)×Int):Nat->Int->Int->(List Ac)->Option (Int×(List Ac))
 | 0,_,_,_=>none
 | n+1,f37,f38,l39=>
  if (decide (0<=f37))=true then
   (Ki N qV f38 l39 q3.1 f37).bind λue=>
   (Sh.get l39 f37).bind λvW=>
   EB N qV q3 n (Sh.w (f37-1)) ue.2 (Sh.put l39 f37 (Ac.mk vW.params vW.result ue.1))
  else
   some (f38,l39)
def HW (N:Nat)(qV:(List Int))(qZ:Int):Option (AP×Int):=
 (HP qV qZ).bind λq3=>
 (E5 [(1:Int)] 0).bind λq5=>
 (E5 [(1:Int),1] 1).bind λq6=>
 (E5 [(1:Int)] 1).bind λq7=>
 (E5 [(1:Int),0] 1).bind λq8=>
 (E5 [(2:Int),1] 1).bind λq9=>
 (E5 [(1:Int),1] 0).bind λrl=>
 (E5 [(3:Int)] 0).bind λsI=>
 (E5 [(0:Int)] 1).bind λrX=>
 (E5 [(0:Int),1] 1).bind λuZ=>
 (E5 [(3:Int),0] 3).bind λrr=>
 (E5 [(3:Int)] 1).bind λsc=>
 (E5 [(1:Int),3,0] 0).bind λsF=>
 (E5 [(0:Int)] 0).bind λsT=>
 (E5 [(0:Int),0] 0).bind λsW=>
 (E5 [(1:Int),0] 0).bind λrI=>
 (E5 [(0:Int)] 1).bind λuB=>
 (E5 ([]:List Int) 0).bind λwF=>
 (BB qV q3.2 (Sh.len [q5,q6,q7,q8,q9,rl])).bind λuP=>
 (Sh.get [q5,q6,q7,q8,q9,rl] uP.1).bind λzb=>
 (BB qV uP.2 (Sh.len [sI,rX,uZ,rr,sc,sF])).bind λth=>
 (Sh.get [sI,rX,uZ,rr,sc,sF] th.1).bind λyK=>
 (BB qV th.2 (Sh.len [sT,sW,rI,uB])).bind λvB=>
 (Sh.get [sT,sW,rI,uB] vB.1).bind λyp=>
 (CC qV vB.2 [(4:Int),4,3,2,4]).bind λvD=>
 (Sh.hi [wF,zb,yK,yp] vD.1).bind λyJ=>
 (EB N qV q3 N (Sh.w (vD.1-1)) vD.2 yJ).bind λ(f40,yr)=>
 some (AP.mk q3.1 yr,f40)
def JL (qg:(List AE)->Option (List AE))(p0:AE):Option (AE):=
 (qg p0.kids).bind λq3=>
 some (AE.mk p0.op p0.num q3)
def CV (p0:(List AE))(qg:(List AE)->Option (List AE)):Nat->Int->(List AE)->Option (List AE)
 | 0,_,_=>none
 | n+1,i5,l6=>
  if (decide (i5<(Sh.len p0)))=true then
   (Sh.get p0 i5).bind λsq=>
   (JL qg sq).bind λrr=>
   (Sh.app l6 [rr] 40).bind λyn=>
   CV p0 qg n (Sh.w (i5+1)) yn
  else
   some l6
def Hc (N:Nat)(qg:(List AE)->Option (List AE))(p0:(List AE)):Option (List AE):=
 (CV p0 qg N 0 []).bind λl7=>
 some l7
def DJ (N:Nat):Nat->(List AE)->Option (List AE)
 | 0,_=>none
 | n+1,p0=>Hc N (DJ N n) p0
def HQ (N:Nat)(p0:(List AE)):Option (List AE):=DJ N N p0
def MG (N:Nat)(rV:(List Int)->Int->AE->Option (AE×Int))(qV:(List Int))(qZ:Int)(p1:AE):Option (AE×Int):=
 (
  if (decide (0<(Sh.len p1.kids)))=true then
   (BB qV qZ 3).bind λwb=>
   some (decide (0<wb.1),wb.2)
  else
   some (false,qZ)
 ).bind λ(t4,f5)=>
 if t4=true then
  (HQ N p1.kids).bind λq9=>
  (BB qV f5 (Sh.len q9)).bind λtA=>
  (Sh.get q9 tA.1).bind λyH=>
  (rV qV tA.2 yH).bind λuZ=>
  (Bj p1.op p1.num (Sh.put q9 tA.1 uZ.1)).bind λsc=>
  some (sc,uZ.2)
 else
  (BB qV f5 5).bind λsT=>
  if (decide (sT.1=0))=true then
   (BB qV sT.2 15).bind λsY=>
   (Bj sY.1 p1.num p1.kids).bind λwF=>
   some (wF,sY.2)
  else
  if (decide (sT.1=1))=true then
   (CC qV sT.2 [(1:Int),-1,1000,2]).bind λsv=>
   (Bj p1.op (Sh.w (p1.num+sv.1)) p1.kids).bind λvB=>
   some (vB,sv.2)
  else
  if (decide (sT.1=2))=true then
   (HQ N p1.kids).bind λuf=>
   (FP 1).bind λsO=>
   (Sh.app uf [sO] 40).bind λl35=>
   (Bj p1.op p1.num l35).bind λxF=>
   some (xF,sT.2)
  else
  if (decide (sT.1=3))=true then
   (CC qV sT.2 [(0:Int),1,2,5,100,-1]).bind λwW=>
   (Ca wW.1).bind λq42=>
   some (q42,wW.2)
  else
   (CC qV sT.2 [(0:Int),1000,-1000,5]).bind λxj=>
   (FP xj.1).bind λxG=>
   some (xG,xj.2)
def Ja (N:Nat):Nat->(List Int)->Int->AE->Option (AE×Int)
 | 0,_,_,_=>none
 | n+1,qV,qZ,p1=>MG N (Ja N n) qV qZ p1
def RP (N:Nat)(qV:(List Int))(qZ:Int)(p1:AE):Option (AE×Int):=Ja N N qV qZ p1
def JH (qV:(List Int))(qZ:Int):Option ((List AN)×Int):=
 (HP qV qZ).bind λq3=>
 (BB qV q3.2 (Sh.len q3.1)).bind λq5=>
 (
  Option.bind (BB qV q5.2 14) λsI=>
  if (decide (sI.1=0))=true then
   (CC qV sI.2 [(-1:Int),5,0,2]).bind λrr=>
   (CC qV rr.2 [(0:Int),1,5]).bind λsc=>
   (Sh.get q3.1 q5.1).bind λsd=>
   some (sc.2,Sh.put q3.1 q5.1 (AN.mk rr.1 sc.1 []))
  else
  if (decide (sI.1=1))=true then
   (CC qV sI.2 [(-1:Int),0,4,5]).bind λsW=>
   (FH [sW.1]).bind λrI=>
   (FH [(0:Int),0,0,0]).bind λuB=>
   (FH ([]:List Int)).bind λsY=>
   (Sh.get q3.1 q5.1).bind λc24=>
   some (sW.2,Sh.put q3.1 q5.1 (AN.mk 0 0 [rI,uB,sY]))
  else
  if (decide (sI.1=2))=true then
   (FH [Sh.w (q5.1+1)]).bind λth=>
   (Sh.get q3.1 q5.1).bind λyK=>
   some (sI.2,Sh.put q3.1 q5.1 (AN.mk 0 0 [th]))
  else
  if (decide (sI.1=3))=true then
   (CC qV sI.2 [(0:Int),2,1]).bind λyE=>
   (Sh.app q3.1 ([AN.mk 2 yE.1 []]) 40).bind λl32=>
   some (yE.2,l32)
  else
  if (decide (sI.1=4))=true then
   (BB qV sI.2 2).bind λuC=>
   (FH ([]:List Int)).bind λxF=>
   (FH [(2:Int)]).bind λxh=>
   (FH ([]:List Int)).bind λtu=>
   (FH ([]:List Int)).bind λvC=>
   (BB qV uC.2 3).bind λwG=>
   (Sh.sl [xF,xh,tu,vC] wG.1 (Sh.len [xF,xh,tu,vC])).bind λyr=>
   (Sh.get q3.1 q5.1).bind λc42=>
   some (wG.2,Sh.put q3.1 q5.1 (AN.mk uC.1 0 yr))
  else
  if (decide (sI.1=5))=true then
   (Sh.app q3.1 ([AN.mk 0 0 [],AN.mk 3 0 []]) 40).bind λl45=>
   some (sI.2,l45)
  else
   some (sI.2,q3.1)
 ).bind λ(f7,l8)=>
 some (l8,f7)
def G7 (N:Nat)(qV:(List Int))(qZ:Int)(s1:(List Ac))(qX:(List AN)):Option (AP×Int):=
 (BB qV qZ (Sh.len s1)).bind λq3=>
 (Sh.get s1 q3.1).bind λc5=>
 (
  Option.bind (BB qV q3.2 24) λrX=>
  if (decide (rX.1=0))=true then
   (RP N qV rX.2 c5.body).bind λsc=>
   some (sc.2,Sh.put s1 q3.1 (Ac.mk c5.params c5.result sc.1),qX)
  else
  if (decide (rX.1=1))=true then
   (CC qV rX.2 [(0:Int),1,9,-1]).bind λsT=>
   (Ek c5.params [sT.1]).bind λsW=>
   some (sT.2,Sh.put s1 q3.1 (Ac.mk sW c5.result c5.body),qX)
  else
  if (decide (rX.1=2))=true then
   (CC qV rX.2 [(0:Int),1,3,5,-1]).bind λsY=>
   some (sY.2,Sh.put s1 q3.1 (Ac.mk c5.params sY.1 c5.body),qX)
  else
  if (decide (rX.1=3))=true then
   (JH qV rX.2).bind λvZ=>
   some (vZ.2,s1,vZ.1)
  else
  if (decide (rX.1=4))=true then
   (Sh.app s1 [c5] 72).bind λl29=>
   some (rX.2,l29,qX)
  else
   some (rX.2,s1,qX)
 ).bind λ(f7,l8,f9)=>
 some (AP.mk f9 l8,f7)
def H5 (N:Nat)(qV:(List Int))(qZ:Int):Option (AP×Int):=
 (HW N qV qZ).bind λq3=>
 (G7 N qV q3.2 q3.1.funcs q3.1.decls).bind λq4=>
 some (q4.1,q4.2)
def GP (p0:(List Int))(p1:Int):Nat->Int->Option ((Bool) ⊕ (Unit))
 | 0,_=>none
 | n+1,i4=>
  if (decide (i4<(Sh.len p0)))=true then
   (Sh.get p0 i4).bind λta=>
   if (decide (ta=p1))=true then
    some (Sum.inl true)
   else
    GP p0 p1 n (Sh.w (i4+1))
  else
   some (Sum.inr ())
def Mz (N:Nat)(p0:(List Int))(p1:Int):Option (Bool):=
 Sh.cont (GP p0 p1 N 0) (id) λ()=>
 some false
end RC
namespace RC
end RC
namespace RC
def TO (p0:AE)(sG:AE->Option (AE)):Nat->Int->(List AE)->Option (List AE)
 | 0,_,_=>none
 | n+1,k5,l6=>
  if (decide (k5<(Sh.len p0.kids)))=true then
   (Sh.get p0.kids k5).bind λc27=>
   (sG c27).bind λsv=>
   (Sh.app l6 [sv] 40).bind λl29=>
   TO p0 sG n (Sh.w (k5+1)) l29
  else
   some l6
def Hz (N:Nat)(p0:AE):Option (AE):=
 (HQ N p0.kids).bind λq3=>
 some (AE.mk p0.op p0.num q3)
def Dz (N:Nat)(p0:AP)(p1:(List AE)):Nat->Int->(List Ac)->Option ((AP×Bool) ⊕ (List Ac))
 | 0,_,_=>none
 | n+1,i6,l7=>
  if (decide (i6<(Sh.len p0.funcs)))=true then
   (Sh.get p1 i6).bind λsd=>
   (Gv N sd).bind λtH=>
   if (decide (tH<0))=true then
    some (Sum.inl (AP.mk [] [],false))
   else
    (Sh.get p0.funcs i6).bind λzk=>
    (FN zk.params).bind λuB=>
    (Hz N sd).bind λsY=>
    (Sh.app l7 [Ac.mk uB zk.result sY] 72).bind λl24=>
    Dz N p0 p1 n (Sh.w (i6+1)) l24
  else
   some (Sum.inr l7)
def IE (N:Nat)(p0:AP)(p1:(List AE)):Option (AP×Bool):=
 (Ii N p0.decls).bind λq3=>
 Sh.cont (Dz N p0 p1 N 0 []) (id) λl8=>
 some (AP.mk q3 l8,true)
def Co (p0:AE)(p1 p2:Int)(qu:AE->Int->Int->Option (AE)):Nat->Int->(List AE)->Option (List AE)
 | 0,_,_=>none
 | n+1,t9,l10=>
  if (decide (t9<(Sh.len p0.kids)))=true then
   (Sh.get p0.kids t9).bind λtL=>
   (qu tL p1 p2).bind λsW=>
   (Sh.app l10 [sW] 40).bind λl21=>
   Co p0 p1 p2 qu n (Sh.w (t9+1)) l21
  else
   some l10
def Io (N:Nat)(qu:AE->Int->Int->Option (AE))(p0:AE)(p1 p2:Int):Option (AE):=
 (
  Option.bind (
   if (decide (p0.op=12))=true then
    some (decide (p1<=p0.num))
   else
    some false
  ) λt25=>
  if t25=true then
   some (Sh.w (p0.num+p2))
  else
   some p0.num
 ).bind λf3=>
 (Co p0 p1 p2 qu N 0 []).bind λl11=>
 some (AE.mk p0.op f3 l11)
def D4 (N:Nat):Nat->AE->Int->Int->Option (AE)
 | 0,_,_,_=>none
 | n+1,p0,p1,p2=>Io N (D4 N n) p0 p1 p2
def Gz (N:Nat)(p0:AE)(p1 p2:Int):Option (AE):=D4 N N p0 p1 p2
def Ik (N:Nat)(p0:AE):Option (AE):=
 (Gz N p0 0 0).bind λq3=>
 some q3
def DQ (N:Nat)(p0:AP):Nat->Int->(List Ac)->Option (List Ac)
 | 0,_,_=>none
 | n+1,t6,l7=>
  if (decide (t6<(Sh.len p0.funcs)))=true then
   (Sh.get p0.funcs t6).bind λsX=>
   (CQ sX.params).bind λsF=>
   (Ik N sX.body).bind λtH=>
   (Sh.app l7 [Ac.mk sF sX.result tH] 72).bind λyI=>
   DQ N p0 n (Sh.w (t6+1)) yI
  else
   some l7
def HD (N:Nat)(p0:AP):Option (AP):=
 (IL N p0.decls).bind λq3=>
 (DQ N p0 N 0 []).bind λl8=>
 some (AP.mk q3 l8)
end RC
namespace RC
def F6 (N:Nat)(p0:List AE)(p2:Int):Nat->AE->Option AE
 | 0,b=>some b
 | i+1,b=>
  (Sh.get p0 (i:Int)).bind λx=>
  (Gz N x p2 (i:Int)).bind λq=>
  F6 N p0 p2 i (AE.mk 13 0 [q,b])
def Kc (N:Nat)(s0 p0:List AE)(qX qn p2:Int):Option AE:=
 if p0.length<=1048576 then F6 N p0 p2 p0.length (AE.mk qX qn s0) else none
theorem Qz {N:Nat}{p0:List AE}{p2:Int}:∀(n:Nat) {b r:AE},F6 N p0 p2 n b=some r->
  ∃bs:Nat->AE,bs n=b/\bs 0=r/\∀i,i<n->∃x q,Sh.get p0 (i:Int)=some x/\Gz N x p2 (i:Int)=some q/\bs i=AE.mk 13 0 [q,bs (i+1)]
 | 0,b,r,h=>by
  rw[F6]at h;cases h;exact⟨λ_=>b,rfl,rfl,λi hi=>by omega⟩
 | n+1,b,r,h=>by
  rw[F6]at h;obtain⟨x,h1,h⟩:=Sh.bind_some h;obtain⟨q,h2,h⟩:=Sh.bind_some h;obtain⟨bs,e1,e2,e3⟩:=Qz n h;refine⟨λi=>if i=n+1 then b else bs i,by simp,by simp[e2],λi hi=>?_⟩;by_cases re:i=n
  ·subst re;refine⟨x,q,h1,h2,?_⟩;simp[e1]
  ·obtain⟨x',q',g1,g2,g3⟩:=e3 i (by omega);refine⟨x',q',g1,g2,?_⟩;have n1:¬ i=n+1:=by omega
   have n2:¬ i+1=n+1:=by omega
   simp only[n1,n2,mC];exact g3
end RC
namespace RC
def J2 (N:Nat)(p0:AP)(p1:AE)(p2 p3:Int):Option (Int):=
 if (decide (p2=0))=true then
  some p3
 else
 if (decide (p1.op=13))=true then
  some (Sh.w (p3+1))
 else
 if (decide (p1.op=8))=true then
  (GN N p0.decls p1.num).bind λuZ=>
  (Sh.get uZ (Sh.w (p2-1))).bind λuO=>
  (Bw N p0.decls uO).bind λsc=>
  some (Sh.w (p3+(Sh.len sc)))
 else
  some p3
def JU (p0:Int):Option (Int):=
 some (if (if p0<999 then p0 else 999) > (-999) then (if p0<999 then p0 else 999) else (-999))
def Ms (p0 p1 p2:Int):Option (Int):=
 if (decide (p0=1))=true then
  (JU (Sh.w (p1+p2))).bind λq7=>
  some q7
 else
 if (decide (p0=2))=true then
  (JU (Sh.w (p1-p2))).bind λtA=>
  some tA
 else
 if (decide (p0=3))=true then
  (JU (Sh.w (p1*p2))).bind λrr=>
  some rr
 else
  (
   if (decide (p0=4))=true then
    some (decide (p1<p2))
   else
    some false
  ).bind λt18=>
  if t18=true then
   some 1
  else
   some 0
def Em (p0:(List AE))(p1 p2:Int)(qm:AE->Int->Int->Option (AE)):Nat->Int->(List AE)->Option (List AE)
 | 0,_,_=>none
 | n+1,i5,l6=>
  if (decide (i5<(Sh.len p0)))=true then
   (Sh.get p0 i5).bind λsq=>
   (qm sq p1 p2).bind λrr=>
   (Sh.app l6 [rr] 40).bind λyn=>
   Em p0 p1 p2 qm n (Sh.w (i5+1)) yn
  else
   some l6
def Kg (N:Nat)(qm:AE->Int->Int->Option (AE))(p0:(List AE))(p1 p2:Int):Option (List AE):=
 (Em p0 p1 p2 qm N 0 []).bind λl7=>
 some l7
def LQ (N:Nat)(qm:AE->Int->Int->Option (AE))(p0:AE)(p1 p2:Int):Option (AE):=
 (
  Option.bind (
   if (decide (p0.op=12))=true then
    some (decide (p1<=p0.num))
   else
    some false
  ) λt9=>
  if t9=true then
   some (Sh.w (p0.num+p2))
  else
   some p0.num
 ).bind λvG=>
 (Kg N qm p0.kids p1 p2).bind λq7=>
 some (AE.mk p0.op vG q7)
def Gy (N:Nat):Nat->AE->Int->Int->Option (AE)
 | 0,_,_,_=>none
 | n+1,p0,p1,p2=>LQ N (Gy N n) p0 p1 p2
def NV (N:Nat)(p0:AE)(p1 p2:Int):Option (AE):=Gy N N p0 p1 p2
def Gx (N:Nat)(p0:(List AE))(p2:Int):Nat->Int->Int->Int->(List AE)->Option (Int×Int×(List AE))
 | 0,_,_,_,_=>none
 | n+1,k5,f6,f7,f8=>
  if (decide (0<=k5))=true then
   (Sh.get p0 k5).bind λsu=>
   (NV N su p2 k5).bind λsT=>
   Gx N p0 p2 n (Sh.w (k5-1)) 13 0 [sT,AE.mk f6 f7 f8]
  else
   some (f6,f7,f8)
def MR (N:Nat)(p0:(List AE))(p1:AE)(p2:Int):Option (AE):=
 (Gx N p0 p2 N (Sh.w ((Sh.len p0)-1)) p1.op p1.num p1.kids).bind λ(f9,f10,f11)=>
 some (AE.mk f9 f10 f11)
def IH (N:Nat)(p0:AP)(p1:AE)(p2:Int):Option (AE):=
 Sh.cont (
  (
   if (decide (p1.op=1))=true then
    some true
   else
   if (decide (p1.op=2))=true then
    some true
   else
   if (decide (p1.op=3))=true then
    some true
   else
    some (decide (p1.op=4))
  ).bind λt7=>
  if t7=true then
   (
    Option.bind (Sh.get p1.kids 0) λsu=>
    if (decide (su.op=0))=true then
     (Sh.get p1.kids 1).bind λvX=>
     some (decide (vX.op=0))
    else
     some false
   ).bind λt11=>
   if t11=true then
    (Sh.get p1.kids 0).bind λuO=>
    (Sh.get p1.kids 1).bind λsX=>
    (Ms p1.op uO.num sX.num).bind λsF=>
    some (Sum.inl (AE.mk 0 sF []))
   else
    some (Sum.inr ())
  else
  if (decide (p1.op=7))=true then
   (
    Option.bind (Sh.get p1.kids 0) λc35=>
    if (decide (c35.op=0))=true then
     some (!decide (c35.num=0))
    else
     some false
   ).bind λt25=>
   if t25=true then
    (Sh.get p1.kids 1).bind λc29=>
    some (Sum.inl c29)
   else
    (Sh.get p1.kids 0).bind λc31=>
    if (decide (c31.op=0))=true then
     (Sh.get p1.kids 2).bind λze=>
     some (Sum.inl ze)
    else
     some (Sum.inr ())
  else
  if (decide (p1.op=8))=true then
   (Sh.get p1.kids 0).bind λzo=>
   if (decide (zo.op=6))=true then
    (GW N p0.decls (Sh.w (p1.num-1))).bind λyu=>
    (Sh.get p1.kids (Sh.w ((Sh.w (1+zo.num))-yu))).bind λc44=>
    (MR N zo.kids c44 p2).bind λxG=>
    some (Sum.inl xG)
   else
    some (Sum.inr ())
  else
   some (Sum.inr ())
 ) (id) λ()=>
 some p1
def Fa (N:Nat)(p0:AP)(p1:AE)(p2:Int)(rD:AP->AE->Int->Option (AE)):Nat->Int->(List AE)->Option (List AE)
 | 0,_,_=>none
 | n+1,k5,l6=>
  if (decide (k5<(Sh.len p1.kids)))=true then
   (Sh.get p1.kids k5).bind λuO=>
   (J2 N p0 p1 k5 p2).bind λsc=>
   (rD p0 uO sc).bind λsF=>
   (Sh.app l6 [sF] 40).bind λl18=>
   Fa N p0 p1 p2 rD n (Sh.w (k5+1)) l18
  else
   some l6
def L8 (N:Nat)(rD:AP->AE->Int->Option (AE))(p0:AP)(p1:AE)(p2:Int):Option (AE):=
 (Fa N p0 p1 p2 rD N 0 []).bind λl7=>
 (IH N p0 (AE.mk p1.op p1.num l7) p2).bind λrl=>
 some rl
def Gr (N:Nat):Nat->AP->AE->Int->Option (AE)
 | 0,_,_,_=>none
 | n+1,p0,p1,p2=>L8 N (Gr N n) p0 p1 p2
def Rp (N:Nat)(p0:AP)(p1:AE)(p2:Int):Option (AE):=Gr N N p0 p1 p2
def GS (N:Nat)(p0:AP):Nat->Int->(List AE)->Option (List AE)
 | 0,_,_=>none
 | n+1,i12,wY=>
  if (decide (i12<(Sh.len p0.funcs)))=true then
   (Sh.get p0.funcs i12).bind λwX=>
   (Rp N p0 wX.body (Sh.len wX.params)).bind λsY=>
   (Sh.app wY [sY] 40).bind λl24=>
   GS N p0 n (Sh.w (i12+1)) l24
  else
   some wY
def KE (N:Nat)(p0:AP):Option (AP×Bool):=
 (Be N p0).bind λq4=>
 if (!q4)=true then
  some (AP.mk [] [],false)
 else
  (GS N p0 N 0 []).bind λru=>
  (IE N p0 ru).bind λsF=>
  some (sF.1,sF.2)
def MZ (p0 p1 p2:Int):Option (Int):=
 (
  if (decide (p1<(-999)))=true then
   some true
  else
  if (decide (999<p1))=true then
   some true
  else
  if (decide (p2<(-999)))=true then
   some true
  else
   some (decide (999<p2))
 ).bind λt4=>
 if t4=true then
  some 0
 else
  (
   if (decide (p0=1))=true then
    some (Sh.w (p1+p2))
   else
   if (decide (p0=2))=true then
    some (Sh.w (p1-p2))
   else
   if (decide (p0=3))=true then
    some (Sh.w (p1*p2))
   else
   if (decide (p0=4))=true then
    if (decide (p1<p2))=true then
     some 1
    else
     some 0
   else
    some 0
  ).bind λug=>
  some (if 999<(if (-999) > ug then (-999) else ug) then 999 else (if (-999) > ug then (-999) else ug))
def Jl (N:Nat)(s0:(List AE))(p0:(List AN))(qX qn p2:Int):Option (AE):=
 Sh.cont (
  (
   if (decide (qX=1))=true then
    some true
   else
   if (decide (qX=2))=true then
    some true
   else
   if (decide (qX=3))=true then
    some true
   else
    some (decide (qX=4))
  ).bind λt7=>
  if t7=true then
   (
    Option.bind (Sh.get s0 0) λsu=>
    if (decide (su.op=0))=true then
     (Sh.get s0 1).bind λvX=>
     some (decide (vX.op=0))
    else
     some false
   ).bind λt11=>
   if t11=true then
    (Sh.get s0 0).bind λuO=>
    (Sh.get s0 1).bind λsX=>
    (MZ qX uO.num sX.num).bind λsF=>
    some (Sum.inl (AE.mk 0 sF []))
   else
    some (Sum.inr ())
  else
  if (decide (qX=7))=true then
   (Sh.get s0 0).bind λc24=>
   if (decide (c24.op=0))=true then
    if (!decide (c24.num=0))=true then
     (Sh.get s0 1).bind λc32=>
     some (Sum.inl c32)
    else
     (Sh.get s0 2).bind λc35=>
     some (Sum.inl c35)
   else
    some (Sum.inr ())
  else
  if (decide (qX=8))=true then
   (Sh.get s0 0).bind λzi=>
   if (decide (zi.op=6))=true then
    (Ha N p0 qn).bind λyu=>
    (GB N yu zi.num).bind λxj=>
    (Sh.get s0 (Sh.w (1+xj))).bind λc46=>
    (Sh.apart 0 (Sh.w (1+xj))).bind λu47=>
    (Kc N c46.kids zi.kids c46.op c46.num p2).bind λyG=>
    some (Sum.inl yG)
   else
    some (Sum.inr ())
  else
   some (Sum.inr ())
 ) (id) λ()=>
 some (AE.mk qX qn s0)
def MF (N:Nat)(qV:(List AN))(qZ:(List Ac))(s1:(List AE))(wI wJ p1:Int):Option (AE):=
 (Jl N s1 qV wI wJ p1).bind λq3=>
 some q3
def Cp (N:Nat)(s0:(List AE))(qs:(List AN))(qt:(List Ac))(p0:(List AN))(qX qn p2:Int)(qj:(List AE)->(List AN)->(List Ac)->(List AN)->Int->Int->Int->Option (AE)):Nat->Int->(List AE)->Option (List AE)
 | 0,_,_=>none
 | n+1,t4,l5=>
  if (decide (t4<(Sh.len s0)))=true then
   (
    Option.bind (
     if (decide (qX=13))=true then
      some (decide (t4=1))
     else
      some false
    ) λt23=>
    if t23=true then
     some (Sh.w (p2+1))
    else
     (
      if (decide (qX=8))=true then
       some (decide (0<t4))
      else
       some false
     ).bind λt27=>
     if t27=true then
      (Ha N p0 qn).bind λvE=>
      (Sh.get vE (Sh.w (t4-1))).bind λc31=>
      (EO N p0 c31).bind λvD=>
      some (Sh.w (p2+(Sh.len vD)))
     else
      some p2
   ).bind λyL=>
   (Sh.get l5 t4).bind λtL=>
   (qj tL.kids qs qt p0 tL.op tL.num yL).bind λsW=>
   Cp N s0 qs qt p0 qX qn p2 qj n (Sh.w (t4+1)) (Sh.put l5 t4 sW)
  else
   some l5
def HH (N:Nat)(qj:(List AE)->(List AN)->(List Ac)->(List AN)->Int->Int->Int->Option (AE))(s0:(List AE))(qs:(List AN))(qt:(List Ac))(p0:(List AN))(qX qn p2:Int):Option (AE):=
 (Cp N s0 qs qt p0 qX qn p2 qj N 0 s0).bind λl6=>
 (MF N qs qt l6 qX qn p2).bind λq9=>
 some q9
def DR (N:Nat):Nat->(List AE)->(List AN)->(List Ac)->(List AN)->Int->Int->Int->Option (AE)
 | 0,_,_,_,_,_,_,_=>none
 | n+1,s0,qs,qt,p0,qX,qn,p2=>HH N (DR N n) s0 qs qt p0 qX qn p2
def Jp (N:Nat)(s0:(List AE))(qs:(List AN))(qt:(List Ac))(p0:(List AN))(qX qn p2:Int):Option (AE):=DR N N s0 qs qt p0 qX qn p2
def Di (N:Nat)(qV:(List AN))(qZ:(List Ac))(p0 q3:AP):Nat->Int->(List Ac)->Option ((AP×Bool) ⊕ (List Ac))
 | 0,_,_=>none
 | n+1,t6,l7=>
  if (decide (t6<(Sh.len q3.funcs)))=true then
   (Sh.get l7 t6).bind λsd=>
   (Jp N sd.body.kids qV qZ p0.decls sd.body.op sd.body.num (Sh.len sd.params)).bind λtH=>
   (Sh.get (Sh.put l7 t6 (Ac.mk sd.params sd.result tH)) t6).bind λzk=>
   (Is N zk.body).bind λuB=>
   if (decide (uB<0))=true then
    some (Sum.inl (AP.mk [] [],false))
   else
    Di N qV qZ p0 q3 n (Sh.w (t6+1)) (Sh.put l7 t6 (Ac.mk sd.params sd.result tH))
  else
   some (Sum.inr l7)
def I4 (N:Nat)(qV:(List AN))(qZ:(List Ac))(p0:AP):Option (AP×Bool):=
 (HD N p0).bind λq3=>
 Sh.cont (Di N qV qZ p0 q3 N 0 q3.funcs) (id) λl8=>
 some (AP.mk q3.decls l8,true)
def JX (N:Nat)(p0:AP):Option (AP×Bool):=
 (Cw N p0).bind λq4=>
 if (!q4)=true then
  some (AP.mk [] [],false)
 else
  (I4 N p0.decls p0.funcs p0).bind λrl=>
  some (rl.1,rl.2)
end RC
namespace RC
def EK (p0:(List Int))(p1:(List Int)):Nat->Int->Option ((Bool) ⊕ (Unit))
 | 0,_=>none
 | n+1,i10=>
  if (decide (i10<(Sh.len p0)))=true then
   (Sh.get p0 i10).bind λsu=>
   (Sh.get p1 i10).bind λtL=>
   if (!decide (su=tL))=true then
    some (Sum.inl false)
   else
    EK p0 p1 n (Sh.w (i10+1))
  else
   some (Sum.inr ())
def HM (N:Nat)(p0:(List Int))(p1:(List Int)):Option (Bool):=
 if (!decide ((Sh.len p0)=(Sh.len p1)))=true then
  some false
 else
  Sh.cont (EK p0 p1 N 0) (id) λ()=>
  some true
def D2 (N:Nat)(i10:Int)(p0:(List AN))(p1:(List AN)):Nat->Int->Option ((Bool) ⊕ (Unit))
 | 0,_=>none
 | n+1,k24=>
  (Sh.get p0 i10).bind λyK=>
  if (decide (k24<(Sh.len yK.cons)))=true then
   (Sh.get yK.cons k24).bind λc32=>
   (Sh.get p1 i10).bind λxg=>
   (Sh.get xg.cons k24).bind λze=>
   (HM N c32.fields ze.fields).bind λuC=>
   if (!uC)=true then
    some (Sum.inl false)
   else
    D2 N i10 p0 p1 n (Sh.w (k24+1))
  else
   some (Sum.inr ())
def Dv (N:Nat)(p0:(List AN))(p1:(List AN)):Nat->Int->Option ((Bool) ⊕ (Unit))
 | 0,_=>none
 | n+1,i10=>
  if (decide (i10<(Sh.len p0)))=true then
   (
    Option.bind (Sh.get p0 i10) λzo=>
    (Sh.get p1 i10).bind λyF=>
    if (!decide (zo.from_=yF.from_))=true then
     some true
    else
    if (!decide (zo.to=yF.to))=true then
     some true
    else
     some (!decide ((Sh.len zo.cons)=(Sh.len yF.cons)))
   ).bind λt19=>
   if t19=true then
    some (Sum.inl false)
   else
    Sh.cont (D2 N i10 p0 p1 N 0) (λx=>Sum.inl x) λ()=>
    Dv N p0 p1 n (Sh.w (i10+1))
  else
   some (Sum.inr ())
def IM (N:Nat)(p0:(List AN))(p1:(List AN)):Option (Bool):=
 if (!decide ((Sh.len p0)=(Sh.len p1)))=true then
  some false
 else
  Sh.cont (Dv N p0 p1 N 0) (id) λ()=>
  some true
def Dl (p0 p1:AE)(qq:AE->AE->Option (Bool)):Nat->Int->Option ((Bool) ⊕ (Unit))
 | 0,_=>none
 | n+1,i10=>
  if (decide (i10<(Sh.len p0.kids)))=true then
   (Sh.get p0.kids i10).bind λsu=>
   (Sh.get p1.kids i10).bind λtL=>
   (qq su tL).bind λsW=>
   if (!sW)=true then
    some (Sum.inl false)
   else
    Dl p0 p1 qq n (Sh.w (i10+1))
  else
   some (Sum.inr ())
def I6 (N:Nat)(qq:AE->AE->Option (Bool))(p0 p1:AE):Option (Bool):=
 (
  if (!decide (p0.op=p1.op))=true then
   some true
  else
  if (!decide (p0.num=p1.num))=true then
   some true
  else
   some (!decide ((Sh.len p0.kids)=(Sh.len p1.kids)))
 ).bind λt4=>
 if t4=true then
  some false
 else
  Sh.cont (Dl p0 p1 qq N 0) (id) λ()=>
  some true
def FB (N:Nat):Nat->AE->AE->Option (Bool)
 | 0,_,_=>none
 | n+1,p0,p1=>I6 N (FB N n) p0 p1
def Lw (N:Nat)(p0 p1:AE):Option (Bool):=FB N N p0 p1
def DO (N:Nat)(p0 p1:AP):Nat->Int->Option ((Bool) ⊕ (Unit))
 | 0,_=>none
 | n+1,i10=>
  if (decide (i10<(Sh.len p0.funcs)))=true then
   (
    Option.bind (Sh.get p0.funcs i10) λwX=>
    (Sh.get p1.funcs i10).bind λwZ=>
    (HM N wX.params wZ.params).bind λwF=>
    if (!wF)=true then
     some true
    else
    if (!decide (wX.result=wZ.result))=true then
     some true
    else
     (Lw N wX.body wZ.body).bind λth=>
     some (!th)
   ).bind λt18=>
   if t18=true then
    some (Sum.inl false)
   else
    DO N p0 p1 n (Sh.w (i10+1))
  else
   some (Sum.inr ())
def GI (N:Nat)(p0 p1:AP):Option (Bool):=
 (
  Option.bind (IM N p0.decls p1.decls) λsv=>
  if (!sv)=true then
   some true
  else
   some (!decide ((Sh.len p0.funcs)=(Sh.len p1.funcs)))
 ).bind λt4=>
 if t4=true then
  some false
 else
  Sh.cont (DO N p0 p1 N 0) (id) λ()=>
  some true
end RC
namespace RC
def JY (N:Nat)(p0:(List Int)):Option (AP):=
 (Ip p0).bind λq3=>
 (H5 N q3.1 q3.2).bind λq4=>
 some q4.1
end RC
namespace RC
def Fb (N:Nat)(p0:(List Int))(p1:(List Int)):Nat->Int->Option ((Bool) ⊕ (Unit))
 | 0,_=>none
 | n+1,i4=>
  if (decide (i4<(Sh.len p0)))=true then
   (Sh.get p0 i4).bind λta=>
   (Mz N p1 ta).bind λrX=>
   if (!rX)=true then
    some (Sum.inl false)
   else
    Fb N p0 p1 n (Sh.w (i4+1))
  else
   some (Sum.inr ())
def Kp (N:Nat)(p0:(List Int))(p1:(List Int)):Option (Bool):=
 Sh.cont (Fb N p0 p1 N 0) (id) λ()=>
 some true
def DB (N:Nat)(q7:AP)(q9:AP×Bool):Nat->Int->Option ((Bool) ⊕ (Unit))
 | 0,_=>none
 | n+1,f24=>
  if (decide (f24<(Sh.len q7.funcs)))=true then
   (
    if (decide ((Sh.len q9.1.funcs)<=f24))=true then
     some true
    else
     (HK N q9.1 f24).bind λxh=>
     (HK N q7 f24).bind λtu=>
     (Kp N xh tu).bind λvC=>
     some (!vC)
   ).bind λt32=>
   if t32=true then
    some (Sum.inl false)
   else
    DB N q7 q9 n (Sh.w (f24+1))
  else
   some (Sum.inr ())
def Hw (N:Nat)(p0:(List Int)):Option (Bool):=
 if (decide (1048576<(Sh.len p0)))=true then
  some true
 else
  (JY N p0).bind λq7=>
  (JX N q7).bind λq9=>
  (KE N q7).bind λtA=>
  (
   Option.bind (GI N q9.1 tA.1) λwG=>
   if (!wG)=true then
    some true
   else
   if (q9.2 != tA.2)=true then
    some true
   else
    some (!q9.2)
  ).bind λt14=>
  if t14=true then
   (
    Option.bind (GI N q9.1 tA.1) λsW=>
    if sW=true then
     some (q9.2==tA.2)
    else
     some false
   ).bind λt18=>
   some t18
  else
   Sh.cont (DB N q7 q9 N 0) (id) λ()=>
   some (decide ((Sh.len q9.1.funcs)=(Sh.len q7.funcs)))
end RC
