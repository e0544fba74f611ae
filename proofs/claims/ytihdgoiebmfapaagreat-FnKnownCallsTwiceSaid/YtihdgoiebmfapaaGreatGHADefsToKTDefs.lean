import Derived.Test.YtihdgoiebmfapaaGreatSufF
set_option linter.all false
namespace RC
def Wh (p0:(List Int))(p1:Int):Option (Int):=
 if (decide ((Sh.w (p1-(Sh.len p0)))<0))=true then
  some (-1)
 else
  some (Sh.w (p1-(Sh.len p0)))
def DN (p0 p1 p2:Int):Option (Bool):=
 (
  if (decide (p1<=p0))=true then
   some (decide (p0<=p2))
  else
   some false
 ).bind λt3=>
 some t3
def CI (p0:(List Int)):Option (List Int):=
 (Sh.app ([]:List Int) p0 8).bind λl6=>
 some l6
end RC
namespace RC
def Wv (p0:Dd)(p1:Int):Option (Int):=
 (Wh p0.fields p1).bind λq3=>
 if (decide (q3<0))=true then
  some (-1)
 else
  some q3
def TA (p0:(List Dd)):Nat->Int->Int->Option ((Int) ⊕ (Int))
 | 0,_,_=>none
 | n+1,left9,i10=>
  if (decide (i10<(Sh.len p0)))=true then
   (Sh.get p0 i10).bind λnw=>
   (Wv nw left9).bind λnN=>
   if (decide (nN<0))=true then
    some (Sum.inl (-1))
   else
    TA p0 n nN (Sh.w (i10+1))
  else
   some (Sum.inr left9)
def E3 (p0:(List AN))(p1:(List Int)):Nat->Int->Option ((Bool) ⊕ (Unit))
 | 0,_=>none
 | n+1,i4=>
  if (decide (i4<(Sh.len p1)))=true then
   (Sh.get p1 i4).bind λpA=>
   (DN pA 0 (Sh.len p0)).bind λmR=>
   if (!mR)=true then
    some (Sum.inl false)
   else
    E3 p0 p1 n (Sh.w (i4+1))
  else
   some (Sum.inr ())
def HV (N:Nat)(p0:(List AN))(p1:(List Int)):Option (Bool):=
 Sh.cont (E3 p0 p1 N 0) (id) λ()=>
 some true
def Ej (N:Nat)(c3:AN)(p0:(List AN)):Nat->Int->Option ((Bool) ⊕ (Unit))
 | 0,_=>none
 | n+1,i15=>
  if (decide (i15<(Sh.len c3.cons)))=true then
   (
    Option.bind (Sh.get c3.cons i15) λwO=>
    if (decide (3<(Sh.len wO.fields)))=true then
     some true
    else
     (HV N p0 wO.fields).bind λpW=>
     some (!pW)
   ).bind λt23=>
   if t23=true then
    some (Sum.inl false)
   else
    Ej N c3 p0 n (Sh.w (i15+1))
  else
   some (Sum.inr ())
def Ei (c3:AN)(p0:(List AN))(p1:Int):Nat->Int->Option ((Bool) ⊕ (Unit))
 | 0,_=>none
 | n+1,i34=>
  if (decide (i34<p1))=true then
   (
    Option.bind (Sh.get p0 i34) λvK=>
    if (decide ((Sh.len vK.cons)=0))=true then
     if (decide (vK.from_=c3.from_))=true then
      some (decide (vK.to=c3.to))
     else
      some false
    else
     some false
   ).bind λt47=>
   if t47=true then
    some (Sum.inl false)
   else
    Ei c3 p0 p1 n (Sh.w (i34+1))
  else
   some (Sum.inr ())
def H2 (N:Nat)(p0:(List AN))(p1:Int):Option (Bool):=
 (Sh.get p0 p1).bind λc3=>
 if (decide (0<(Sh.len c3.cons)))=true then
  (
   if (decide (3<(Sh.len c3.cons)))=true then
    some true
   else
   if (!decide (c3.from_=0))=true then
    some true
   else
    some (!decide (c3.to=0))
  ).bind λt9=>
  if t9=true then
   some false
  else
   Sh.cont (Ej N c3 p0 N 0) (id) λ()=>
   some true
 else
  Sh.cont (Ei c3 p0 p1 N 0) (id) λ()=>
  (
   Option.bind (DN c3.from_ 0 (Sh.len p0)) λqB=>
   if qB=true then
    (DN c3.to 0 (Sh.len p0)).bind λqt=>
    some qt
   else
    some false
  ).bind λt37=>
  some t37
def EI (N:Nat)(p0:(List AN)):Nat->Int->Option ((Bool) ⊕ (Unit))
 | 0,_=>none
 | n+1,i8=>
  if (decide (i8<(Sh.len p0)))=true then
   (H2 N p0 i8).bind λnp=>
   if (!np)=true then
    some (Sum.inl false)
   else
    EI N p0 n (Sh.w (i8+1))
  else
   some (Sum.inr ())
def HY (N:Nat)(p0:(List AN)):Option (Bool):=
 if (decide (4<(Sh.len p0)))=true then
  some false
 else
  Sh.cont (EI N p0 N 0) (id) λ()=>
  some true
def EA (N:Nat)(p0:AP):Nat->Int->Option ((Bool) ⊕ (Unit))
 | 0,_=>none
 | n+1,i10=>
  if (decide (i10<(Sh.len p0.funcs)))=true then
   (Sh.get p0.funcs i10).bind λqf=>
   (
    if (decide (3<(Sh.len qf.params)))=true then
     some true
    else
     (HV N p0.decls qf.params).bind λpW=>
     if (!pW)=true then
      some true
     else
      (DN qf.result 0 (Sh.len p0.decls)).bind λsC=>
      some (!sC)
   ).bind λt24=>
   if t24=true then
    some (Sum.inl false)
   else
    EA N p0 n (Sh.w (i10+1))
  else
   some (Sum.inr ())
def G3 (N:Nat)(p0:AP):Option (Bool):=
 (
  Option.bind (HY N p0.decls) λpB=>
  if (!pB)=true then
   some true
  else
   (DN (Sh.len p0.funcs) 1 4).bind λnH=>
   some (!nH)
 ).bind λt4=>
 if t4=true then
  some false
 else
  Sh.cont (EA N p0 N 0) (id) λ()=>
  (
   Option.bind (Sh.get p0.funcs 0) λqQ=>
   if (decide ((Sh.len qQ.params)=0))=true then
    some (decide (qQ.result=0))
   else
    some false
  ).bind λt13=>
  some t13
def Eb (p0:(List AN))(p1:Int):Nat->Int->Int->Option (Int)
 | 0,_,_=>none
 | n+1,n5,i6=>
  if (decide (i6<p1))=true then
   (Sh.get p0 i6).bind λnq=>
   Eb p0 p1 n (Sh.w (n5+(Sh.len nq.cons))) (Sh.w (i6+1))
  else
   some n5
def Gt (N:Nat)(p0:(List AN))(p1:Int):Option (Int):=
 (Eb p0 p1 N 0 0).bind λn7=>
 some n7
def Dw (N:Nat)(p0:(List AN))(p1:Int):Nat->Int->Option ((Int) ⊕ (Unit))
 | 0,_=>none
 | n+1,i4=>
  if (decide (i4<(Sh.len p0)))=true then
   (Gt N p0 i4).bind λmz=>
   (Sh.get p0 i4).bind λnq=>
   (DN p1 mz (Sh.w ((Sh.w (mz+(Sh.len nq.cons)))-1))).bind λmm=>
   if mm=true then
    some (Sum.inl (Sh.w (i4+1)))
   else
    Dw N p0 p1 n (Sh.w (i4+1))
  else
   some (Sum.inr ())
def F6 (N:Nat)(p0:(List AN))(p1:Int):Option (Int):=
 Sh.cont (Dw N p0 p1 N 0) (id) λ()=>
 some (-1)
def Bs (N:Nat)(p0:(List AN))(p1:Int):Option (List Int):=
 (F6 N p0 p1).bind λq3=>
 if (decide (q3<1))=true then
  some []
 else
  (Sh.get p0 (Sh.w (q3-1))).bind λc9=>
  (Gt N p0 (Sh.w (q3-1))).bind λme=>
  (Sh.get c9.cons (Sh.w (p1-me))).bind λxL=>
  some xL.fields
def FM (N:Nat)(p0:(List AN))(p1:Int):Nat->Int->(List Int)->Option (List Int)
 | 0,_,_=>none
 | n+1,i12,rf=>
  (Sh.get p0 (Sh.w (p1-1))).bind λnw=>
  if (decide (i12<(Sh.len nw.cons)))=true then
   (Gt N p0 (Sh.w (p1-1))).bind λod=>
   (Sh.app rf [Sh.w (od+i12)] 8).bind λtp=>
   FM N p0 p1 n (Sh.w (i12+1)) tp
  else
   some rf
def Gb (N:Nat)(p0:(List AN))(p1:Int):Option (List Int):=
 (DN p1 1 (Sh.len p0)).bind λq5=>
 if (!q5)=true then
  some []
 else
  (FM N p0 p1 N 0 []).bind λmf=>
  some mf
def G8 (p0:(List AN))(p1:Int):Option (Bool):=
 (
  if (decide (0<=p1))=true then
   some (decide (p1<=(Sh.len p0)))
  else
   some false
 ).bind λt3=>
 some t3
def E0 (p0:(List AN))(p1:(List Int)):Nat->Int->Option ((Bool) ⊕ (Unit))
 | 0,_=>none
 | n+1,t4=>
  if (decide (t4<(Sh.len p1)))=true then
   (Sh.get p1 t4).bind λpA=>
   (G8 p0 pA).bind λpe=>
   if (!pe)=true then
    some (Sum.inl false)
   else
    E0 p0 p1 n (Sh.w (t4+1))
  else
   some (Sum.inr ())
def Gq (N:Nat)(p0:(List AN))(p1:(List Int)):Option (Bool):=
 Sh.cont (E0 p0 p1 N 0) (id) λ()=>
 some true
def Dh (nh:AN)(vL:(List AN)):Nat->Int->Option ((Bool) ⊕ (Unit))
 | 0,_=>none
 | n+1,t29=>
  if (decide (t29<(Sh.len vL)))=true then
   (Sh.get vL t29).bind λxM=>
   (
    if (decide ((Sh.len nh.cons)=0))=true then
     if (decide ((Sh.len xM.cons)=0))=true then
      if (decide (xM.from_=nh.from_))=true then
       some (decide (xM.to=nh.to))
      else
       some false
     else
      some false
    else
     some false
   ).bind λt38=>
   if t38=true then
    some (Sum.inl false)
   else
    Dh nh vL n (Sh.w (t29+1))
  else
   some (Sum.inr ())
def Dk (N:Nat)(nh:AN)(p0:(List AN)):Nat->Int->Option ((Bool) ⊕ (Unit))
 | 0,_=>none
 | n+1,t25=>
  if (decide (t25<(Sh.len nh.cons)))=true then
   (Sh.get nh.cons t25).bind λqC=>
   (
    if (decide (3<(Sh.len qC.fields)))=true then
     some true
    else
     (Gq N p0 qC.fields).bind λsX=>
     some (!sX)
   ).bind λt52=>
   if t52=true then
    some (Sum.inl false)
   else
    Dk N nh p0 n (Sh.w (t25+1))
  else
   some (Sum.inr ())
def EJ (N:Nat)(p0:(List AN)):Nat->Int->Option ((Bool) ⊕ (Unit))
 | 0,_=>none
 | n+1,t8=>
  if (decide (t8<(Sh.len p0)))=true then
   (Sh.get p0 t8).bind λnh=>
   (
    Option.bind (G8 p0 nh.from_) λq58=>
    if (!q58)=true then
     some true
    else
     (G8 p0 nh.to).bind λq60=>
     if (!q60)=true then
      some true
     else
     if (decide (3<(Sh.len nh.cons)))=true then
      some true
     else
     if (decide (0<(Sh.len nh.cons)))=true then
      if (!decide (nh.from_=0))=true then
       some true
      else
       some (!decide (nh.to=0))
     else
      some false
   ).bind λt19=>
   if t19=true then
    some (Sum.inl false)
   else
    Sh.cont (Dk N nh p0 N 0) (λx=>Sum.inl x) λ()=>
    (Sh.sl p0 0 t8).bind λvL=>
    Sh.cont (Dh nh vL N 0) (λx=>Sum.inl x) λ()=>
    EJ N p0 n (Sh.w (t8+1))
  else
   some (Sum.inr ())
def Hn (N:Nat)(p0:(List AN)):Option (Bool):=
 if (decide (4<(Sh.len p0)))=true then
  some false
 else
  Sh.cont (EJ N p0 N 0) (id) λ()=>
  some true
def D6 (oQ:Bo):Nat->Int->Option ((Bool) ⊕ (Unit))
 | 0,_=>none
 | n+1,t26=>
  if (decide (t26<(Sh.len oQ.Fp)))=true then
   (Sh.get oQ.Fp t26).bind λrh=>
   (
    if (decide (rh<0))=true then
     some true
    else
    if (decide ((Sh.len oQ.params)<=rh))=true then
     some true
    else
     (Sh.get oQ.params rh).bind λtL=>
     if (decide (tL=0))=true then
      some true
     else
     if (decide (0<t26))=true then
      (Sh.get oQ.Fp (Sh.w (t26-1))).bind λc44=>
      some (decide (rh<=c44))
     else
      some false
   ).bind λt35=>
   if t35=true then
    some (Sum.inl false)
   else
    D6 oQ n (Sh.w (t26+1))
  else
   some (Sum.inr ())
def D3 (N:Nat)(p0:(List AN))(p1:(List Bo)):Nat->Int->Option ((Bool) ⊕ (Unit))
 | 0,_=>none
 | n+1,t10=>
  if (decide (t10<(Sh.len p1)))=true then
   (Sh.get p1 t10).bind λoQ=>
   (
    if (decide (3<(Sh.len oQ.params)))=true then
     some true
    else
     (Gq N p0 oQ.params).bind λvM=>
     if (!vM)=true then
      some true
     else
      (G8 p0 oQ.result).bind λtM=>
      some (!tM)
   ).bind λt21=>
   if t21=true then
    some (Sum.inl false)
   else
    Sh.cont (D6 oQ N 0) (λx=>Sum.inl x) λ()=>
    D3 N p0 p1 n (Sh.w (t10+1))
  else
   some (Sum.inr ())
def H9 (N:Nat)(p0:(List AN))(p1:(List Bo)):Option (Bool):=
 (
  Option.bind (Hn N p0) λpP=>
  if (!pP)=true then
   some true
  else
  if (decide ((Sh.len p1)<1))=true then
   some true
  else
  if (decide (4<(Sh.len p1)))=true then
   some true
  else
   (Sh.get p1 0).bind λzU=>
   if (decide (0<(Sh.len zU.params)))=true then
    some true
   else
    some (!decide (zU.result=0))
 ).bind λt4=>
 if t4=true then
  some false
 else
  Sh.cont (D3 N p0 p1 N 0) (id) λ()=>
  some true
def EX (p0:(List AN)):Nat->Int->Int->Option (Int)
 | 0,_,_=>none
 | n+1,n5,t6=>
  if (decide (t6<(Sh.len p0)))=true then
   (Sh.get p0 t6).bind λqQ=>
   EX p0 n (Sh.w (n5+(Sh.len qQ.cons))) (Sh.w (t6+1))
  else
   some n5
def Iv (N:Nat)(p0:(List AN)):Option (Int):=
 (EX p0 N 0 0).bind λn7=>
 some n7
def FG (nq:AN)(me:Int):Nat->Int->(List Int)->Option (List Int)
 | 0,_,_=>none
 | n+1,t15,tq=>
  if (decide (t15<(Sh.len nq.cons)))=true then
   (Sh.app tq [Sh.w (me+t15)] 8).bind λtr=>
   FG nq me n (Sh.w (t15+1)) tr
  else
   some tq
def GY (N:Nat)(p0:(List AN))(p1:Int):Option (List Int):=
 (
  if (decide (p1<1))=true then
   some true
  else
   some (decide ((Sh.len p0)<p1))
 ).bind λt4=>
 if t4=true then
  some []
 else
  (Sh.sl p0 0 (Sh.w (p1-1))).bind λl9=>
  (Iv N l9).bind λme=>
  (Sh.get p0 (Sh.w (p1-1))).bind λnq=>
  (FG nq me N 0 []).bind λtu=>
  some tu
def FC (p0:(List AN)):Nat->Int->Int->Option ((Int×Dd) ⊕ (Unit))
 | 0,_,_=>none
 | n+1,c4,t5=>
  if (decide (t5<(Sh.len p0)))=true then
   (Sh.get p0 t5).bind λtN=>
   (
    if (decide (0<=c4))=true then
     some (decide (c4<(Sh.len tN.cons)))
    else
     some false
   ).bind λt16=>
   if t16=true then
    (Sh.get tN.cons c4).bind λrM=>
    some (Sum.inl (Sh.w (t5+1),rM))
   else
    FC p0 n (Sh.w (c4-(Sh.len tN.cons))) (Sh.w (t5+1))
  else
   some (Sum.inr ())
def Hu (N:Nat)(p0:(List AN))(p1:Int):Option (Int×Dd):=
 Sh.cont (FC p0 N p1 0) (id) λ()=>
 some (-1,Dd.mk [])
def Ds (N:Nat)(p0:(List AN))(p1:Int):Option (List Int):=
 (Hu N p0 p1).bind λq3=>
 some q3.2.fields
end RC
namespace RC
end RC
namespace RC
def NH (p0:(List AG))(lx:AG->Int->Option (Int)):Nat->Int->Int->Option ((Int) ⊕ (Int))
 | 0,_,_=>none
 | n+1,left9,i10=>
  if (decide (i10<(Sh.len p0)))=true then
   (Sh.get p0 i10).bind λnw=>
   (lx nw left9).bind λnN=>
   if (decide (nN<0))=true then
    some (Sum.inl (-1))
   else
    NH p0 lx n nN (Sh.w (i10+1))
  else
   some (Sum.inr left9)
def VD (N:Nat)(lx:AG->Int->Option (Int))(p0:(List AG))(p1:Int):Option (Int):=
 if (decide ((Sh.w (p1-(Sh.len p0)))<0))=true then
  some (-1)
 else
  Sh.cont (NH p0 lx N (Sh.w (p1-(Sh.len p0))) 0) (id) λqD=>
  some qD
def Uc (N:Nat)(lx:AG->Int->Option (Int))(p0:AG)(p1:Int):Option (Int):=
 (VD N lx p0.kids p1).bind λq3=>
 if (decide (q3<0))=true then
  some (-1)
 else
  some q3
def UY (N:Nat):Nat->AG->Int->Option (Int)
 | 0,_,_=>none
 | n+1,p0,p1=>Uc N (UY N n) p0 p1
def DS (p0:AG)(lb:AG->Int->Option (Int)):Nat->Int->Int->Option ((Int) ⊕ (Int))
 | 0,_,_=>none
 | n+1,left9,i10=>
  if (decide (i10<(Sh.len p0.kids)))=true then
   (Sh.get p0.kids i10).bind λnw=>
   (lb nw left9).bind λnN=>
   if (decide (nN<0))=true then
    some (Sum.inl (-1))
   else
    DS p0 lb n nN (Sh.w (i10+1))
  else
   some (Sum.inr left9)
def IX (N:Nat)(lb:AG->Int->Option (Int))(p0:AG)(p1:Int):Option (Int):=
 if (decide (p1<1))=true then
  some (-1)
 else
  Sh.cont (DS p0 lb N (Sh.w (p1-1)) 0) (id) λqD=>
  some qD
def E1 (N:Nat):Nat->AG->Int->Option (Int)
 | 0,_,_=>none
 | n+1,p0,p1=>IX N (E1 N n) p0 p1
def LB (N:Nat)(p0:AG)(p1:Int):Option (Int):=E1 N N p0 p1
def Ge (N:Nat)(p0:AG):Option (Int):=
 (LB N p0 30).bind λq3=>
 if (decide (q3<0))=true then
  some (-1)
 else
  some (Sh.w (30-q3))
def FZ (p0:AP)(p1:(List Int))(p2:(List AG))(p3:Int)(lM:AP->(List Int)->AG->Option (Int)):Nat->Int->Option ((Bool) ⊕ (Unit))
 | 0,_=>none
 | n+1,i10=>
  if (decide (i10<p3))=true then
   (Sh.get p2 i10).bind λoQ=>
   (lM p0 p1 oQ).bind λnS=>
   if (!decide (nS=0))=true then
    some (Sum.inl false)
   else
    FZ p0 p1 p2 p3 lM n (Sh.w (i10+1))
  else
   some (Sum.inr ())
def IF (N:Nat)(lM:AP->(List Int)->AG->Option (Int))(p0:AP)(p1:(List Int))(p2:(List AG))(p3:Int):Option (Bool):=
 if (!decide ((Sh.len p2)=p3))=true then
  some false
 else
  Sh.cont (FZ p0 p1 p2 p3 lM N 0) (id) λ()=>
  some true
def F9 (p0:AP)(p1:(List Int))(p2:(List AG))(p3:(List Int))(lM:AP->(List Int)->AG->Option (Int)):Nat->Int->Option ((Bool) ⊕ (Unit))
 | 0,_=>none
 | n+1,i10=>
  if (decide (i10<(Sh.len p3)))=true then
   (Sh.get p2 i10).bind λoQ=>
   (lM p0 p1 oQ).bind λnS=>
   (Sh.get p3 i10).bind λrM=>
   if (!decide (nS=rM))=true then
    some (Sum.inl false)
   else
    F9 p0 p1 p2 p3 lM n (Sh.w (i10+1))
  else
   some (Sum.inr ())
def Ic (N:Nat)(lM:AP->(List Int)->AG->Option (Int))(p0:AP)(p1:(List Int))(p2:(List AG))(p3:(List Int)):Option (Bool):=
 if (!decide ((Sh.len p2)=(Sh.len p3)))=true then
  some false
 else
  Sh.cont (F9 p0 p1 p2 p3 lM N 0) (id) λ()=>
  some true
def FB (p0:(List Int)):Option (List Int):=
 (Sh.app ([]:List Int) p0 8).bind λl3=>
 some l3
def ES (p0:(List Int))(p1:(List Int)):Option (List Int):=
 (FB p0).bind λq3=>
 (Sh.app q3 p1 8).bind λl4=>
 some l4
def D7 (N:Nat)(p0:AP)(p1:(List Int))(p2:AG)(mm:Int)(q3:(List Int))(lM:AP->(List Int)->AG->Option (Int)):Nat->Int->Option ((Int) ⊕ (Unit))
 | 0,_=>none
 | n+1,i18=>
  if (decide (i18<(Sh.len q3)))=true then
   (Sh.get q3 i18).bind λtO=>
   (Bs N p0.decls tO).bind λoR=>
   (ES p1 oR).bind λnd=>
   (Sh.get p2.kids (Sh.w (1+i18))).bind λc29=>
   (lM p0 nd c29).bind λqg=>
   if (!decide (qg=mm))=true then
    some (Sum.inl (-1))
   else
    D7 N p0 p1 p2 mm q3 lM n (Sh.w (i18+1))
  else
   some (Sum.inr ())
def JV (N:Nat)(lM:AP->(List Int)->AG->Option (Int))(p0:AP)(p1:(List Int))(p2:AG):Option (Int):=
 (Gb N p0.decls p2.num).bind λq3=>
 (
  if (decide ((Sh.len q3)=0))=true then
   some true
  else
  if (!decide ((Sh.len p2.kids)=(Sh.w (1+(Sh.len q3)))))=true then
   some true
  else
   (Sh.get p2.kids 0).bind λc37=>
   (lM p0 p1 c37).bind λpC=>
   some (!decide (pC=p2.num))
 ).bind λt6=>
 if t6=true then
  some (-1)
 else
  (Sh.get q3 0).bind λxL=>
  (Bs N p0.decls xL).bind λmz=>
  (ES p1 mz).bind λmR=>
  (Sh.get p2.kids 1).bind λnq=>
  (lM p0 mR nq).bind λmm=>
  Sh.cont (D7 N p0 p1 p2 mm q3 lM N 1) (id) λ()=>
  some mm
def Ew (p0:(List AN))(p1 p2:Int):Nat->Int->Option ((Int) ⊕ (Unit))
 | 0,_=>none
 | n+1,i4=>
  if (decide (i4<(Sh.len p0)))=true then
   (
    Option.bind (Sh.get p0 i4) λnh=>
    if (decide ((Sh.len nh.cons)=0))=true then
     if (decide (nh.from_=p1))=true then
      some (decide (nh.to=p2))
     else
      some false
    else
     some false
   ).bind λt12=>
   if t12=true then
    some (Sum.inl (Sh.w (i4+1)))
   else
    Ew p0 p1 p2 n (Sh.w (i4+1))
  else
   some (Sum.inr ())
def IH (N:Nat)(p0:(List AN))(p1 p2:Int):Option (Int):=
 Sh.cont (Ew p0 p1 p2 N 0) (id) λ()=>
 some (-1)
def FD (N:Nat)(lM:AP->(List Int)->AG->Option (Int))(p0:AP)(p1:(List Int))(p2:AG):Option (Int):=
 (DN p2.num 0 (Sh.w ((Sh.len p0.funcs)-1))).bind λq4=>
 if (!q4)=true then
  some (-1)
 else
  (Sh.get p0.funcs p2.num).bind λpf=>
  if (decide (p2.op=9))=true then
   (Ic N lM p0 p1 p2.kids pf.params).bind λnX=>
   if (!nX)=true then
    some (-1)
   else
    some pf.result
  else
   (
    if (decide ((Sh.len pf.params)=0))=true then
     some true
    else
     (Sh.sl pf.params 0 (Sh.w ((Sh.len pf.params)-1))).bind λl33=>
     (Ic N lM p0 p1 p2.kids l33).bind λnH=>
     some (!nH)
   ).bind λt25=>
   if t25=true then
    some (-1)
   else
    (Sh.get pf.params (Sh.w ((Sh.len pf.params)-1))).bind λsY=>
    (IH N p0.decls sY pf.result).bind λsC=>
    some sC
def Gj (p0:(List AN))(p1:Int):Option (Bool):=
 (
  Option.bind (DN p1 1 (Sh.len p0)) λq5=>
  if q5=true then
   (Sh.get p0 (Sh.w (p1-1))).bind λc7=>
   some (decide ((Sh.len c7.cons)=0))
  else
   some false
 ).bind λt3=>
 some t3
def Bg (N:Nat)(lM:AP->(List Int)->AG->Option (Int))(p0:AP)(p1:(List Int))(p2:AG):Option (Int):=
 Sh.cont (
  if (decide (p2.op=0))=true then
   (
    if (decide ((Sh.len p2.kids)=0))=true then
     (DN p2.num (-999) 999).bind λmm=>
     some mm
    else
     some false
   ).bind λt10=>
   if t10=true then
    some (Sum.inl 0)
   else
    some (Sum.inr ())
  else
  if (decide (p2.op=12))=true then
   (
    if (decide ((Sh.len p2.kids)=0))=true then
     (DN p2.num 0 (Sh.w ((Sh.len p1)-1))).bind λpD=>
     some pD
    else
     some false
   ).bind λt19=>
   if t19=true then
    (Sh.get p1 p2.num).bind λqu=>
    some (Sum.inl qu)
   else
    some (Sum.inr ())
  else
   (
    if (decide (p2.op=1))=true then
     some true
    else
    if (decide (p2.op=2))=true then
     some true
    else
    if (decide (p2.op=3))=true then
     some true
    else
     some (decide (p2.op=4))
   ).bind λt27=>
   if t27=true then
    (
     if (decide (p2.num=0))=true then
      (IF N lM p0 p1 p2.kids 2).bind λrN=>
      some rN
     else
      some false
    ).bind λt31=>
    if t31=true then
     some (Sum.inl 0)
    else
     some (Sum.inr ())
   else
   if (decide (p2.op=5))=true then
    (
     if (decide (p2.num=0))=true then
      (IF N lM p0 p1 p2.kids 1).bind λsD=>
      some sD
     else
      some false
    ).bind λt40=>
    if t40=true then
     some (Sum.inl 0)
    else
     some (Sum.inr ())
   else
   if (decide (p2.op=6))=true then
    (
     Option.bind (F6 N p0.decls p2.num) λrO=>
     if (decide (0<rO))=true then
      (Bs N p0.decls p2.num).bind λqh=>
      (Ic N lM p0 p1 p2.kids qh).bind λsX=>
      some sX
     else
      some false
    ).bind λt49=>
    if t49=true then
     (F6 N p0.decls p2.num).bind λqi=>
     some (Sum.inl qi)
    else
     some (Sum.inr ())
   else
   if (decide (p2.op=13))=true then
    (
     if (decide (p2.num=0))=true then
      some (decide ((Sh.len p2.kids)=2))
     else
      some false
    ).bind λt61=>
    if t61=true then
     (Sh.get p2.kids 0).bind λc65=>
     (lM p0 p1 c65).bind λzV=>
     if (decide (0<=zV))=true then
      (ES p1 [zV]).bind λtv=>
      (Sh.get p2.kids 1).bind λc71=>
      (lM p0 tv c71).bind λq72=>
      some (Sum.inl q72)
     else
      some (Sum.inr ())
    else
     some (Sum.inr ())
   else
   if (decide (p2.op=7))=true then
    (
     if (decide (p2.num=0))=true then
      if (decide ((Sh.len p2.kids)=3))=true then
       (Sh.get p2.kids 0).bind λc90=>
       (lM p0 p1 c90).bind λq91=>
       some (decide (q91=0))
      else
       some false
     else
      some false
    ).bind λt77=>
    if t77=true then
     (Sh.get p2.kids 1).bind λzW=>
     (lM p0 p1 zW).bind λvN=>
     (Sh.get p2.kids 2).bind λxN=>
     (lM p0 p1 xN).bind λxO=>
     if (decide (xO=vN))=true then
      some (Sum.inl vN)
     else
      some (Sum.inr ())
    else
     some (Sum.inr ())
   else
   if (decide (p2.op=8))=true then
    (JV N lM p0 p1 p2).bind λwP=>
    some (Sum.inl wP)
   else
    (
     if (decide (p2.op=9))=true then
      some true
     else
      some (decide (p2.op=10))
    ).bind λt97=>
    if t97=true then
     (FD N lM p0 p1 p2).bind λxP=>
     some (Sum.inl xP)
    else
    if (decide (p2.op=11))=true then
     (
      if (decide (p2.num=0))=true then
       some (decide ((Sh.len p2.kids)=2))
      else
       some false
     ).bind λt105=>
     if t105=true then
      (Sh.get p2.kids 0).bind λxQ=>
      (lM p0 p1 xQ).bind λqj=>
      (
       Option.bind (Gj p0.decls qj) λxR=>
       if xR=true then
        (Sh.get p2.kids 1).bind λxS=>
        (lM p0 p1 xS).bind λxT=>
        (Sh.get p0.decls (Sh.w (qj-1))).bind λxU=>
        some (decide (xT=xU.from_))
       else
        some false
      ).bind λt112=>
      if t112=true then
       (Sh.get p0.decls (Sh.w (qj-1))).bind λxV=>
       some (Sum.inl xV.to)
      else
       some (Sum.inr ())
     else
      some (Sum.inr ())
    else
     some (Sum.inr ())
 ) (id) λ()=>
 some (-1)
def Cf (N:Nat):Nat->AP->(List Int)->AG->Option (Int)
 | 0,_,_,_=>none
 | n+1,p0,p1,p2=>Bg N (Cf N n) p0 p1 p2
def J4 (N:Nat)(p0:AP)(p1:(List Int))(p2:AG):Option (Int):=Cf N N p0 p1 p2
def CB (N:Nat)(p0:AP):Nat->Int->Option ((Bool) ⊕ (Unit))
 | 0,_=>none
 | n+1,i11=>
  if (decide (i11<(Sh.len p0.funcs)))=true then
   (
    Option.bind (Sh.get p0.funcs i11) λqu=>
    (Ge N qu.body).bind λqk=>
    if (decide (qk<0))=true then
     some true
    else
     (J4 N p0 qu.params qu.body).bind λqF=>
     some (!decide (qF=qu.result))
   ).bind λt19=>
   if t19=true then
    some (Sum.inl false)
   else
    CB N p0 n (Sh.w (i11+1))
  else
   some (Sum.inr ())
def Bn (N:Nat)(p0:AP):Option (Bool):=
 (G3 N p0).bind λq4=>
 if (!q4)=true then
  some false
 else
  Sh.cont (CB N p0 N 0) (id) λ()=>
  some true
def DZ (p0:AP):Nat->Int->(List Bo)->Option (List Bo)
 | 0,_,_=>none
 | n+1,t9,tP=>
  if (decide (t9<(Sh.len p0.funcs)))=true then
   (Sh.get p0.funcs t9).bind λrM=>
   (Sh.app tP ([Bo.mk rM.params [] rM.result]) 56).bind λxW=>
   DZ p0 n (Sh.w (t9+1)) xW
  else
   some tP
def G0 (N:Nat)(p0:AP):Option (Bool):=
 if (decide (4<(Sh.len p0.funcs)))=true then
  some false
 else
  (DZ p0 N 0 []).bind λvO=>
  (H9 N p0.decls vO).bind λpe=>
  some pe
def DF (p0:AG)(la:Int->AG->Option (Bool×Int)):Nat->Int->Int->Option ((Bool×Int) ⊕ (Int))
 | 0,_,_=>none
 | n+1,t9,f10=>
  if (decide (t9<(Sh.len p0.kids)))=true then
   (Sh.get p0.kids t9).bind λnw=>
   (la f10 nw).bind λmA=>
   if (!mA.1)=true then
    some (Sum.inl (false,mA.2))
   else
    DF p0 la n (Sh.w (t9+1)) mA.2
  else
   some (Sum.inr f10)
def Hw (N:Nat)(la:Int->AG->Option (Bool×Int))(lJ:Int)(p0:AG):Option (Bool×Int):=
 if (decide (30<(Sh.w (lJ+1))))=true then
  some (false,Sh.w (lJ+1))
 else
  Sh.cont (DF p0 la N 0 (Sh.w (lJ+1))) (id) λf11=>
  some (true,f11)
def Ek (N:Nat):Nat->Int->AG->Option (Bool×Int)
 | 0,_,_=>none
 | n+1,lJ,p0=>Hw N (Ek N n) lJ p0
def KJ (N:Nat)(lJ:Int)(p0:AG):Option (Bool×Int):=Ek N N lJ p0
def Gg (N:Nat)(p0:AG):Option (Int):=
 (KJ N 0 p0).bind λq5=>
 if (!q5.1)=true then
  some (-1)
 else
  some q5.2
def FO (p0:AP):Nat->Int->(List Bo)->Option (List Bo)
 | 0,_,_=>none
 | n+1,t5,l6=>
  if (decide (t5<(Sh.len p0.funcs)))=true then
   (Sh.get p0.funcs t5).bind λqQ=>
   (Sh.app l6 ([Bo.mk qQ.params [] qQ.result]) 56).bind λtq=>
   FO p0 n (Sh.w (t5+1)) tq
  else
   some l6
def Jq (N:Nat)(p0:AP):Option (BL):=
 (FO p0 N 0 []).bind λl7=>
 some (BL.mk p0.decls l7)
def F8 (p1:Int):Option (List Int):=
 if (decide (p1<0))=true then
  none
 else
  (
   if (decide (0<(Sh.w (p1-(Sh.w (0-0))))))=true then
    (Sh.mk 0 (Sh.w (p1-(Sh.w (0-0)))) 8).bind λqv=>
    (Sh.hi qv 0).bind λrf=>
    some rf
   else
    some []
  ).bind λl6=>
  some l6
def Cd (p0:(List (List Int))):Nat->Int->(List Int)->Option (List Int)
 | 0,_,_=>none
 | n+1,t13,mf=>
  if (decide (t13<(Sh.len p0)))=true then
   (Sh.get p0 t13).bind λqu=>
   (Sh.app mf qu 8).bind λvP=>
   Cd p0 n (Sh.w (t13+1)) vP
  else
   some mf
def Ce (p0:(List (List Int))):Nat->Int->Int->Option (Int)
 | 0,_,_=>none
 | n+1,size5,t6=>
  if (decide (t6<(Sh.len p0)))=true then
   (Sh.get p0 t6).bind λsY=>
   if (decide ((Sh.w (size5+(Sh.len sY)))<0))=true then
    none
   else
    Ce p0 n (Sh.w (size5+(Sh.len sY))) (Sh.w (t6+1))
  else
   some size5
def Ff (N:Nat)(p0:(List (List Int))):Option (List Int):=
 (Ce p0 N 0 0).bind λvQ=>
 (F8 vQ).bind λme=>
 (Cd p0 N 0 me).bind λrP=>
 some rP
def Be (N:Nat)(p0:BL)(p1:(List Int))(p2:(List AG))(p3:(List (List Int)))(lN:(List Int)->BL->AG->Option (Int)):Nat->Int->Int->Option ((Int) ⊕ (Int))
 | 0,_,_=>none
 | n+1,ll,t6=>
  if (decide (t6<(Sh.len p2)))=true then
   (Sh.get p2 t6).bind λqQ=>
   (Sh.get p3 t6).bind λnT=>
   (Ff N [p1,nT]).bind λnr=>
   (lN nr p0 qQ).bind λnS=>
   (
    if (decide (nS<0))=true then
     some true
    else
    if (decide (0<t6))=true then
     some (!decide (nS=ll))
    else
     some false
   ).bind λt23=>
   if t23=true then
    some (Sum.inl (-1))
   else
    Be N p0 p1 p2 p3 lN n nS (Sh.w (t6+1))
  else
   some (Sum.inr ll)
def EF (N:Nat)(lN:(List Int)->BL->AG->Option (Int))(p0:BL)(p1:(List Int))(p2:(List AG))(p3:(List (List Int))):Option (Int):=
 Sh.cont (Be N p0 p1 p2 p3 lN N (-1) 0) (id) λnA=>
 some nA
def JM (p0:(List AN))(p1:Int):Option (AN×Bool):=
 (
  if (decide (p1<1))=true then
   some true
  else
  if (decide ((Sh.len p0)<p1))=true then
   some true
  else
   (Sh.get p0 (Sh.w (p1-1))).bind λpA=>
   some (decide (0<(Sh.len pA.cons)))
 ).bind λt4=>
 if t4=true then
  some (AN.mk 0 0 [],false)
 else
  (Sh.get p0 (Sh.w (p1-1))).bind λc9=>
  some (c9,true)
def Cx (p0:(List Int))(p1:(List Int)):Nat->Int->Option ((Bool) ⊕ (Unit))
 | 0,_=>none
 | n+1,t10=>
  if (decide (t10<(Sh.len p0)))=true then
   (Sh.get p0 t10).bind λnw=>
   (Sh.get p1 t10).bind λrM=>
   if (!decide (nw=rM))=true then
    some (Sum.inl false)
   else
    Cx p0 p1 n (Sh.w (t10+1))
  else
   some (Sum.inr ())
def DH (N:Nat)(p0:(List Int))(p1:(List Int)):Option (Bool):=
 if (!decide ((Sh.len p0)=(Sh.len p1)))=true then
  some false
 else
  Sh.cont (Cx p0 p1 N 0) (id) λ()=>
  some true
def Eu (p0:(List AN))(p1 p2:Int):Nat->Int->Option ((Int) ⊕ (Unit))
 | 0,_=>none
 | n+1,t4=>
  if (decide (t4<(Sh.len p0)))=true then
   (Sh.get p0 t4).bind λpA=>
   (
    if (decide ((Sh.len pA.cons)=0))=true then
     if (decide (pA.from_=p1))=true then
      some (decide (pA.to=p2))
     else
      some false
    else
     some false
   ).bind λt14=>
   if t14=true then
    some (Sum.inl (Sh.w (t4+1)))
   else
    Eu p0 p1 p2 n (Sh.w (t4+1))
  else
   some (Sum.inr ())
def JN (N:Nat)(p0:(List AN))(p1 p2:Int):Option (Int):=
 Sh.cont (Eu p0 p1 p2 N 0) (id) λ()=>
 some (-1)
def BE (N:Nat)(p0:BL)(p1 p2:Int)(p3:(List Int)):Option (Int×Bool):=
 Sh.cont (
  if (decide (p1=0))=true then
   (
    if (decide ((-999)<=p2))=true then
     if (decide (p2<=999))=true then
      some (decide ((Sh.len p3)=0))
     else
      some false
    else
     some false
   ).bind λt15=>
   some (Sum.inl (0,t15))
  else
   (
    if (decide (p1=1))=true then
     some true
    else
    if (decide (p1=2))=true then
     some true
    else
    if (decide (p1=3))=true then
     some true
    else
     some (decide (p1=4))
   ).bind λt20=>
   if t20=true then
    some (Sum.inr [(0:Int),0])
   else
   if (decide (p1=5))=true then
    some (Sum.inr [(0:Int)])
   else
   if (decide (p1=11))=true then
    if (!decide ((Sh.len p3)=2))=true then
     some (Sum.inl (-1,false))
    else
     (Sh.get p3 0).bind λvR=>
     (JM p0.decls vR).bind λoe=>
     (
      if oe.2=true then
       (Sh.get p3 1).bind λtL=>
       if (decide (tL=oe.1.from_))=true then
        some (decide (p2=0))
       else
        some false
      else
       some false
     ).bind λt38=>
     some (Sum.inl (oe.1.to,t38))
   else
   if (decide (p1=6))=true then
    (Hu N p0.decls p2).bind λrQ=>
    (
     if (decide (0<=rQ.1))=true then
      (DH N p3 rQ.2.fields).bind λsD=>
      some sD
     else
      some false
    ).bind λt42=>
    some (Sum.inl (rQ.1,t42))
   else
    (
     if (decide (p1=9))=true then
      some true
     else
      some (decide (p1=10))
    ).bind λt47=>
    if t47=true then
     (
      if (decide (p2<0))=true then
       some true
      else
       some (decide ((Sh.len p0.funcs)<=p2))
     ).bind λt52=>
     if t52=true then
      some (Sum.inl (-1,false))
     else
      (Sh.get p0.funcs p2).bind λql=>
      if (decide (p1=9))=true then
       (DH N p3 ql.params).bind λq62=>
       some (Sum.inl (ql.result,q62))
      else
      if (decide ((Sh.w ((Sh.len ql.params)-1))<0))=true then
       some (Sum.inl (-1,false))
      else
       (Sh.get ql.params (Sh.w ((Sh.len ql.params)-1))).bind λc69=>
       (JN N p0.decls c69 ql.result).bind λtv=>
       (
        if (decide (0<=tv))=true then
         (Sh.sl ql.params 0 (Sh.w ((Sh.len ql.params)-1))).bind λl75=>
         (DH N p3 l75).bind λtw=>
         some tw
        else
         some false
       ).bind λt72=>
       some (Sum.inl (tv,t72))
    else
     some (Sum.inl (-1,false))
 ) (id) λl4=>
 (
  if (decide (p2=0))=true then
   (DH N p3 l4).bind λme=>
   some me
  else
   some false
 ).bind λt7=>
 some (0,t7)
def CA (N:Nat)(p0:BL)(qh:(List Int)):Nat->Int->(List (List Int))->Option (List (List Int))
 | 0,_,_=>none
 | n+1,t67,tQ=>
  if (decide (t67<(Sh.len qh)))=true then
   (Sh.get qh t67).bind λc79=>
   (Ds N p0.decls c79).bind λxX=>
   (Sh.get tQ t67).bind λzW=>
   CA N p0 qh n (Sh.w (t67+1)) (Sh.put tQ t67 xX)
  else
   some tQ
def Bz (s0:(List Int))(p0:BL)(p2:AG)(lN:(List Int)->BL->AG->Option (Int)):Nat->Int->(List Int)->Option ((Int) ⊕ (List Int))
 | 0,_,_=>none
 | n+1,t90,l91=>
  if (decide (t90<(Sh.len p2.kids)))=true then
   (Sh.get p2.kids t90).bind λxY=>
   (lN s0 p0 xY).bind λqj=>
   (Sh.get l91 t90).bind λc111=>
   (Sh.get (Sh.put l91 t90 qj) t90).bind λxZ=>
   if (decide (xZ<0))=true then
    some (Sum.inl (-1))
   else
    Bz s0 p0 p2 lN n (Sh.w (t90+1)) (Sh.put l91 t90 qj)
  else
   some (Sum.inr l91)
def Ak (N:Nat)(lN:(List Int)->BL->AG->Option (Int))(s0:(List Int))(p0:BL)(p2:AG):Option (Int):=
 if (decide (p2.op=12))=true then
  (
   if (decide (0<(Sh.len p2.kids)))=true then
    some true
   else
   if (decide (p2.num<0))=true then
    some true
   else
    some (decide ((Sh.len s0)<=p2.num))
  ).bind λt8=>
  if t8=true then
   some (-1)
  else
   (Sh.get s0 p2.num).bind λtN=>
   some tN
 else
 if (decide (p2.op=13))=true then
  (
   if (!decide ((Sh.len p2.kids)=2))=true then
    some true
   else
    some (!decide (p2.num=0))
  ).bind λt20=>
  if t20=true then
   some (-1)
  else
   (Sh.get p2.kids 0).bind λtx=>
   (lN s0 p0 tx).bind λqF=>
   if (decide (qF<0))=true then
    some (-1)
   else
    (Sh.app s0 [qF] 8).bind λxb=>
    (Sh.get p2.kids 1).bind λrh=>
    (lN xb p0 rh).bind λnH=>
    some nH
 else
 if (decide (p2.op=7))=true then
  (
   if (!decide ((Sh.len p2.kids)=3))=true then
    some true
   else
   if (!decide (p2.num=0))=true then
    some true
   else
    (Sh.get p2.kids 0).bind λvK=>
    (lN s0 p0 vK).bind λxc=>
    some (!decide (xc=0))
  ).bind λt41=>
  if t41=true then
   some (-1)
  else
   (Sh.sl p2.kids 1 (Sh.len p2.kids)).bind λl46=>
   (Sh.mk [] 2 24).bind λl47=>
   (EF N lN p0 s0 l46 l47).bind λtM=>
   some tM
 else
 if (decide (p2.op=8))=true then
  (GY N p0.decls p2.num).bind λqh=>
  (
   if (decide ((Sh.len qh)=0))=true then
    some true
   else
   if (!decide ((Sh.len p2.kids)=(Sh.w (1+(Sh.len qh)))))=true then
    some true
   else
    (Sh.get p2.kids 0).bind λxN=>
    (lN s0 p0 xN).bind λxO=>
    some (!decide (xO=p2.num))
  ).bind λt59=>
  if t59=true then
   some (-1)
  else
   (Sh.mk [] (Sh.len qh) 24).bind λl64=>
   (CA N p0 qh N 0 l64).bind λl69=>
   (Sh.sl p2.kids 1 (Sh.len p2.kids)).bind λl72=>
   (EF N lN p0 s0 l72 l69).bind λq73=>
   some q73
 else
  (Sh.mk 0 (Sh.len p2.kids) 8).bind λl87=>
  Sh.cont (Bz s0 p0 p2 lN N 0 l87) (id) λl92=>
  (BE N p0 p2.op p2.num l92).bind λwP=>
  if (!wP.2)=true then
   some (-1)
  else
   some wP.1
def BY (N:Nat):Nat->(List Int)->BL->AG->Option (Int)
 | 0,_,_,_=>none
 | n+1,s0,p0,p2=>Ak N (BY N n) s0 p0 p2
def Ha (N:Nat)(s0:(List Int))(p0:BL)(p2:AG):Option (Int):=BY N N s0 p0 p2
def LR (N:Nat)(p0:AP)(p1:(List Int))(p2:AG):Option (Int):=
 (
  Option.bind (G0 N p0) λmR=>
  if (!mR)=true then
   some true
  else
   (Gg N p2).bind λmm=>
   if (decide (mm<0))=true then
    some true
   else
    (Gq N p0.decls p1).bind λnX=>
    some (!nX)
 ).bind λt4=>
 if t4=true then
  some (-1)
 else
  (Jq N p0).bind λq9=>
  (CI p1).bind λme=>
  (Ha N me q9 p2).bind λoL=>
  some oL
def De (N:Nat)(p0:AP):Nat->Int->Option ((Bool) ⊕ (Unit))
 | 0,_=>none
 | n+1,t11=>
  if (decide (t11<(Sh.len p0.funcs)))=true then
   (Sh.get p0.funcs t11).bind λnw=>
   (LR N p0 nw.params nw.body).bind λmA=>
   if (!decide (mA=nw.result))=true then
    some (Sum.inl false)
   else
    De N p0 n (Sh.w (t11+1))
  else
   some (Sum.inr ())
def Eg (N:Nat)(p0:AP):Option (Bool):=
 (G0 N p0).bind λq4=>
 if (!q4)=true then
  some false
 else
  Sh.cont (De N p0 N 0) (id) λ()=>
  some true
end RC
namespace RC
end RC
namespace RC
end RC
namespace RC
end RC
namespace RC
end RC
namespace RC
def F3 (p0:(List Int))(p1:Int):Nat->Int->Option ((Bool) ⊕ (Unit))
 | 0,_=>none
 | n+1,i4=>
  if (decide (i4<(Sh.len p0)))=true then
   (Sh.get p0 i4).bind λpA=>
   if (decide (pA=p1))=true then
    some (Sum.inl true)
   else
    F3 p0 p1 n (Sh.w (i4+1))
  else
   some (Sum.inr ())
def Ja (N:Nat)(p0:(List Int))(p1:Int):Option (Bool):=
 Sh.cont (F3 p0 p1 N 0) (id) λ()=>
 some false
end RC
namespace RC
def DP (p0:(List AN)):Option (List AN):=
 (Sh.app ([]:List AN) p0 40).bind λl6=>
 some l6
def Ct (p0:(List Dd)):Option (List Dd):=
 (Sh.app ([]:List Dd) p0 24).bind λl6=>
 some l6
end RC
namespace RC
def EK (cs:List Dd):Nat->Int->List Dd->Option (List Dd)
 | 0,_,_=>none
 | n+1,i,q=>
  if decide (i<Sh.len cs)=true then
   (Sh.get cs i).bind λc=>
   (CI c.fields).bind λf=>
   (Sh.get q i).bind λ_=>
   EK cs n (Sh.w (i+1)) (Sh.put q i (Dd.mk f))
  else some q
def EH (N:Nat)(m:Int):Nat->Int->List AN->Option (List AN)
 | 0,_,_=>none
 | n+1,t,l=>
  if decide (t<m)=true then
   (Sh.get l t).bind λd=>
   (Ct d.cons).bind λmA=>
   (EK d.cons N 0 mA).bind λq=>
   EH N m n (Sh.w (t+1)) (Sh.put l t (AN.mk d.from_ d.to q))
  else some l
def Hf (N:Nat)(p0:List AN):Option (List AN):=
 (DP p0).bind λq9=>
 (EH N (Sh.len q9) N 0 q9).bind λl=>
 some l
end RC
namespace RC
def D9 (i5:Int)(p0:(List AN)):Nat->Int->(List Dd)->Option (List Dd)
 | 0,_,_=>none
 | n+1,k17,wQ=>
  (Sh.get p0 i5).bind λtx=>
  if (decide (k17<(Sh.len tx.cons)))=true then
   (Sh.get tx.cons k17).bind λsE=>
   (FB sE.fields).bind λpW=>
   (Sh.app wQ [Dd.mk pW] 24).bind λxe=>
   D9 i5 p0 n (Sh.w (k17+1)) xe
  else
   some wQ
def Eh (N:Nat)(p0:(List AN)):Nat->Int->(List AN)->Option (List AN)
 | 0,_,_=>none
 | n+1,i5,l6=>
  if (decide (i5<(Sh.len p0)))=true then
   (D9 i5 p0 N 0 []).bind λtR=>
   (Sh.get p0 i5).bind λtS=>
   (Sh.app l6 [AN.mk tS.from_ tS.to tR] 40).bind λxf=>
   Eh N p0 n (Sh.w (i5+1)) xf
  else
   some l6
def H3 (N:Nat)(p0:(List AN)):Option (List AN):=
 (Eh N p0 N 0 []).bind λl7=>
 some l7
end RC
namespace RC
def H0 (p0:(List Int)):Option ((List Int)×Int):=
 (
  if (decide (2000<(Sh.len p0)))=true then
   (Sh.sl p0 0 2000).bind λl8=>
   some l8
  else
   some p0
 ).bind λvS=>
 some (vS,0)
def E7 (p0:(List Int)):Option (Dd):=
 some (Dd.mk p0)
def Ax (lJ:(List Int))(lO p1:Int):Option (Int×Int):=
 (
  if (decide (p1<1))=true then
   some true
  else
   some (decide ((Sh.len lJ)=0))
 ).bind λt5=>
 if t5=true then
  some (0,Sh.w (lO+1))
 else
 if (decide ((Sh.w ((Sh.w (lO+1))-1))<(Sh.len lJ)))=true then
  (Sh.get lJ (Sh.w ((Sh.w (lO+1))-1))).bind λnq=>
  (Sh.rem (Sh.wk .i64 nq) p1).bind λd15=>
  some (d15,Sh.w (lO+1))
 else
  (Sh.rem (Sh.w ((Sh.w (lO+1))-1)) (Sh.len lJ)).bind λd17=>
  (Sh.get lJ d17).bind λoQ=>
  (Sh.rem (Sh.w ((Sh.w ((Sh.w ((Sh.w (lO+1))-1))*7))+3)) (Sh.len lJ)).bind λd19=>
  (Sh.get lJ d19).bind λrM=>
  (Sh.quo (Sh.w ((Sh.w (lO+1))-1)) (Sh.len lJ)).bind λd21=>
  (Sh.rem (Sh.xor (Sh.w ((Sh.w ((Sh.w ((Sh.w ((Sh.wk .i64 oQ)*131))+(Sh.w ((Sh.wk .i64 rM)*1117))))+(Sh.w ((Sh.w ((Sh.w (lO+1))-1))*29))))+(Sh.w (d21*53)))) (Sh.w (Int.tdiv (Sh.w ((Sh.w ((Sh.w ((Sh.w ((Sh.wk .i64 oQ)*131))+(Sh.w ((Sh.wk .i64 rM)*1117))))+(Sh.w ((Sh.w ((Sh.w (lO+1))-1))*29))))+(Sh.w (d21*53)))) 64))) p1).bind λd24=>
  some (d24,Sh.w (lO+1))
def G2 (lJ:(List Int))(lO:Int):Option ((List AN)×Int):=
 (E7 ([]:List Int)).bind λq3=>
 (E7 [(0:Int),1]).bind λq4=>
 (E7 ([]:List Int)).bind λq6=>
 (E7 [(3:Int),0,3]).bind λq7=>
 (E7 [(1:Int),3]).bind λq9=>
 (E7 [(1:Int),1,0]).bind λme=>
 (E7 [(0:Int)]).bind λoL=>
 (E7 [(3:Int)]).bind λmz=>
 (Ax lJ lO 5).bind λmm=>
 (
  if (decide (mm.1<4))=true then
   (Sh.get ([AN.mk 0 0 [q9],AN.mk 1 0 [],AN.mk 0 0 [me,oL,mz],AN.mk 0 1 []]) mm.1).bind λqf=>
   (Sh.app ([AN.mk 0 0 [q3,q4],AN.mk 0 0 [],AN.mk 0 0 [q6,q7]]) [qf] 40).bind λtp=>
   some tp
  else
   some ([AN.mk 0 0 [q3,q4],AN.mk 0 0 [],AN.mk 0 0 [q6,q7]])
 ).bind λtu=>
 some (tu,mm.2)
def Ep (p0:(List Int))(p1:Int):Option (Ad):=
 some (Ad.mk p0 p1 (AG.mk 0 0 []))
def Bu (lJ:(List Int))(lO:Int)(p1:(List Int)):Option (Int×Int):=
 (Ax lJ lO (Sh.len p1)).bind λq3=>
 (Sh.get p1 q3.1).bind λc4=>
 some (c4,q3.2)
def Et (p0:(List Int))(p1:Int):Nat->Int->Option ((Int) ⊕ (Unit))
 | 0,_=>none
 | n+1,i4=>
  if (decide (i4<(Sh.len p0)))=true then
   (Sh.get p0 i4).bind λpA=>
   if (decide (pA=p1))=true then
    some (Sum.inl i4)
   else
    Et p0 p1 n (Sh.w (i4+1))
  else
   some (Sum.inr ())
def JP (N:Nat)(p0:(List Int))(p1:Int):Option (Int):=
 Sh.cont (Et p0 p1 N 0) (id) λ()=>
 some (-1)
def FA (p0:Int):Option (AG):=
 some (AG.mk 0 p0 [])
def Dg (p0:(List Int))(p1:Int):Nat->Int->(List Int)->Option (List Int)
 | 0,_,_=>none
 | n+1,i5,l6=>
  if (decide (i5<(Sh.len p0)))=true then
   (
    Option.bind (Sh.get p0 i5) λnT=>
    if (decide (nT=p1))=true then
     (Sh.app l6 [i5] 8).bind λtR=>
     some tR
    else
     some l6
   ).bind λmf=>
   Dg p0 p1 n (Sh.w (i5+1)) mf
  else
   some l6
def Hk (N:Nat)(p0:(List Int))(p1:Int):Option (List Int):=
 (Dg p0 p1 N 0 []).bind λl7=>
 some l7
def ET (N:Nat)(p0:AP)(p1:Int):Nat->Int->(List Int)->Option (List Int)
 | 0,_,_=>none
 | n+1,f5,l6=>
  if (decide (f5<(Sh.len p0.funcs)))=true then
   (
    Option.bind (Sh.get p0.funcs f5) λnT=>
    (
     if (decide (0<(Sh.len nT.params)))=true then
      (Sh.get nT.params (Sh.w ((Sh.len nT.params)-1))).bind λzX=>
      (IH N p0.decls zX nT.result).bind λpD=>
      some (decide (pD=p1))
     else
      some false
    ).bind λt19=>
    if t19=true then
     (Sh.app l6 [f5] 8).bind λxf=>
     some xf
    else
     some l6
   ).bind λmf=>
   ET N p0 p1 n (Sh.w (f5+1)) mf
  else
   some l6
def Hj (N:Nat)(p0:AP)(p1:Int):Option (List Int):=
 (ET N p0 p1 N 0 []).bind λl7=>
 some l7
def Gd (N:Nat)(p0:AP)(p1:(List Int))(p2:Int):Option (Bool):=
 (
  Option.bind (Gj p0.decls p2) λq5=>
  if (!q5)=true then
   some true
  else
   (Hj N p0 p2).bind λq7=>
   if (decide (0<(Sh.len q7)))=true then
    some true
   else
    (Ja N p1 p2).bind λq9=>
    some q9
 ).bind λt3=>
 some t3
def CW (p0:Int):Option (AG):=
 some (AG.mk 12 p0 [])
def Bd (p0 p1:Int)(p2:(List AG)):Option (AG):=
 some (AG.mk p0 p1 p2)
def ID (lJ:(List Int))(lO:Int):Option (Int×Int):=
 (Ax lJ lO 6).bind λq3=>
 (Ax lJ q3.2 6).bind λq4=>
 (Ax lJ q4.2 40).bind λq5=>
 (Bu lJ q5.2 [q3.1,q4.1,0,1,2,-1,3,q5.1,999,-998]).bind λq6=>
 some (q6.1,q6.2)
def Cr (lJ:(List Int))(s1:(List Ad))(lL:(List AN))(nr:(List Int))(lV:(List Int)->Int->(List Ad)->(List AN)->Int->Option (AG×Int)):Nat->Int->Int->(List AG)->Option (Int×(List AG))
 | 0,_,_,_=>none
 | n+1,i21,f22,tp=>
  if (decide (i21<(Sh.len nr)))=true then
   (Sh.get nr i21).bind λrh=>
   (lV lJ f22 s1 lL rh).bind λnH=>
   (Sh.app tp [nH.1] 40).bind λxg=>
   Cr lJ s1 lL nr lV n (Sh.w (i21+1)) nH.2 xg
  else
   some (f22,tp)
def Dn (vT:Ad)(lJ:(List Int))(s1:(List Ad))(lL:(List AN))(lV:(List Int)->Int->(List Ad)->(List AN)->Int->Option (AG×Int)):Nat->Int->Int->(List AG)->Option (Int×(List AG))
 | 0,_,_,_=>none
 | n+1,i63,f64,l65=>
  if (decide ((Sh.w (i63+1))<(Sh.len vT.params)))=true then
   (Sh.get vT.params i63).bind λc75=>
   (lV lJ f64 s1 lL c75).bind λtw=>
   (Sh.app l65 [tw.1] 40).bind λxh=>
   Dn vT lJ s1 lL lV n (Sh.w (i63+1)) tw.2 xh
  else
   some (f64,l65)
def Hd (N:Nat)(lV:(List Int)->Int->(List Ad)->(List AN)->Int->Option (AG×Int))(lJ:(List Int))(lO:Int)(s1:(List Ad))(lL:(List AN))(p2:Int):Option (AG×Int):=
 (Gb N lL p2).bind λq3=>
 if (decide (0<(Sh.len q3)))=true then
  (Sh.get q3 0).bind λc8=>
  (
   Option.bind (
    if (decide (1<(Sh.len q3)))=true then
     (Ax lJ lO 4).bind λqR=>
     some (decide (qR.1=0),qR.2)
    else
     some (false,lO)
   ) λ(t41,f42)=>
   if t41=true then
    (Sh.get q3 1).bind λtz=>
    some (tz,f42)
   else
    some (c8,f42)
  ).bind λ(pf,f11)=>
  (
   Option.bind (Bs N lL pf) λsZ=>
   (Ja N sZ p2).bind λpC=>
   if pC=true then
    some c8
   else
    some pf
  ).bind λnq=>
  (Bs N lL nq).bind λnr=>
  (Cr lJ s1 lL nr lV N 0 f11 []).bind λ(f24,tr)=>
  (Bd 6 nq tr).bind λnd=>
  some (nd,f24)
 else
  (Hj N (AP.mk lL s1) p2).bind λpP=>
  (
   if (decide (0<p2))=true then
    some (decide (0<(Sh.len pP)))
   else
    some false
  ).bind λt52=>
  if t52=true then
   (Ax lJ lO (Sh.len pP)).bind λqh=>
   (Sh.get pP qh.1).bind λql=>
   (Sh.get s1 ql).bind λvT=>
   (Dn vT lJ s1 lL lV N 0 qh.2 []).bind λ(f66,l67)=>
   (Bd 10 ql l67).bind λtv=>
   some (tv,f66)
  else
   (ID lJ lO).bind λzY=>
   (FA zY.1).bind λxX=>
   some (xX,zY.2)
def DR (N:Nat):Nat->(List Int)->Int->(List Ad)->(List AN)->Int->Option (AG×Int)
 | 0,_,_,_,_,_=>none
 | n+1,lJ,lO,s1,lL,p2=>Hd N (DR N n) lJ lO s1 lL p2
def L6 (N:Nat)(lJ:(List Int))(lO:Int)(s1:(List Ad))(lL:(List AN))(p2:Int):Option (AG×Int):=DR N N lJ lO s1 lL p2
def HK (N:Nat)(lJ:(List Int))(lO:Int)(s1:(List Ad))(lL:(List AN))(p2:(List Int))(p3:Int):Option (AG×Int):=
 (Hk N p2 p3).bind λq3=>
 (
  if (decide (0<(Sh.len q3)))=true then
   (Ax lJ lO 6).bind λnX=>
   if (decide (0<nX.1))=true then
    some (true,nX.2)
   else
    (Gd N (AP.mk lL s1) ([]:List Int) p3).bind λnS=>
    some (!nS,nX.2)
  else
   some (false,lO)
 ).bind λ(t6,f7)=>
 if t6=true then
  (Ax lJ f7 (Sh.len q3)).bind λoL=>
  (Sh.get q3 oL.1).bind λpA=>
  (CW pA).bind λmR=>
  some (mR,oL.2)
 else
  (L6 N lJ f7 s1 lL p3).bind λmm=>
  some (mm.1,mm.2)
def JO (N:Nat)(lJ:(List Int))(lO:Int)(s1:(List Ad))(lL:(List AN))(p2:(List Int)):Option (Int×Int):=
 (Bu lJ lO [(1:Int),1,3,0,2,4,3]).bind λq3=>
 (
  if (decide ((Sh.len lL)<q3.1))=true then
   some true
  else
   (Gd N (AP.mk lL s1) p2 q3.1).bind λmz=>
   some (!mz)
 ).bind λt6=>
 if t6=true then
  some (1,q3.2)
 else
  some (q3.1,q3.2)
def FK (lJ:(List Int))(s1:(List Ad))(lL:(List AN))(p2:(List Int))(p3:(List Int))(p4:Int)(lP:(List Int)->Int->(List Ad)->(List AN)->(List Int)->Int->Int->Option (AG×Int)):Nat->Int->Int->(List AG)->Option (Int×(List AG))
 | 0,_,_,_=>none
 | n+1,i5,f6,l7=>
  if (decide (i5<(Sh.len p3)))=true then
   (Sh.get p3 i5).bind λnh=>
   (Sh.quo p4 (Sh.len p3)).bind λd17=>
   (lP lJ f6 s1 lL p2 nh d17).bind λnr=>
   (Sh.app l7 [nr.1] 40).bind λtR=>
   FK lJ s1 lL p2 p3 p4 lP n (Sh.w (i5+1)) nr.2 tR
  else
   some (f6,l7)
def Fk (N:Nat)(lP:(List Int)->Int->(List Ad)->(List AN)->(List Int)->Int->Int->Option (AG×Int))(lJ:(List Int))(lO:Int)(s1:(List Ad))(lL:(List AN))(p2:(List Int))(p3:(List Int))(p4:Int):Option ((List AG)×Int):=
 (FK lJ s1 lL p2 p3 p4 lP N 0 lO []).bind λ(f8,l9)=>
 some (l9,f8)
def Dx (N:Nat)(lJ:(List Int))(s1:(List Ad))(lL:(List AN))(p2:(List Int))(p3 p4:Int)(q8:(List Int))(lP:(List Int)->Int->(List Ad)->(List AN)->(List Int)->Int->Int->Option (AG×Int)):Nat->Int->Int->(List AG)->Option (Int×(List AG))
 | 0,_,_,_=>none
 | n+1,i13,f14,rP=>
  if (decide (i13<(Sh.len q8)))=true then
   (Sh.get q8 i13).bind λtx=>
   (Bs N lL tx).bind λqF=>
   (ES p2 qF).bind λoR=>
   (Sh.quo (Sh.w (p4-2)) (Sh.len q8)).bind λd28=>
   (lP lJ f14 s1 lL oR p3 d28).bind λpW=>
   (Sh.app rP [pW.1] 40).bind λxe=>
   Dx N lJ s1 lL p2 p3 p4 q8 lP n (Sh.w (i13+1)) pW.2 xe
  else
   some (f14,rP)
def Il (N:Nat)(lP:(List Int)->Int->(List Ad)->(List AN)->(List Int)->Int->Int->Option (AG×Int))(lJ:(List Int))(lO:Int)(s1:(List Ad))(lL:(List AN))(p2:(List Int))(p3 p4:Int):Option (AG×Int):=
 (Bu lJ lO [(1:Int),1,3,4]).bind λq3=>
 (
  Option.bind (
   if (decide ((Sh.len lL)<q3.1))=true then
    some true
   else
    (Gj lL q3.1).bind λrN=>
    some rN
  ) λt32=>
  if t32=true then
   some 1
  else
   some q3.1
 ).bind λd5=>
 (Gb N lL d5).bind λq8=>
 (HK N lJ q3.2 s1 lL p2 d5).bind λme=>
 (Dx N lJ s1 lL p2 p3 p4 q8 lP N 0 me.2 [me.1]).bind λ(f16,tu)=>
 (Bd 8 d5 tu).bind λnN=>
 some (nN,f16)
def EV (N:Nat)(nT:Ad)(p0:AP):Nat->Bool->Int->Option (Bool)
 | 0,_,_=>none
 | n+1,ok20,i21=>
  if (decide (i21<(Sh.len nT.params)))=true then
   (
    if ok20=true then
     (Sh.get nT.params i21).bind λvR=>
     (Gd N p0 ([]:List Int) vR).bind λoe=>
     some oe
    else
     some false
   ).bind λxj=>
   EV N nT p0 n xj (Sh.w (i21+1))
  else
   some ok20
def EZ (N:Nat)(p0:AP)(p1:Int):Nat->Int->(List Int)->Option (List Int)
 | 0,_,_=>none
 | n+1,f5,l6=>
  if (decide (f5<(Sh.len p0.funcs)))=true then
   (
    Option.bind (Sh.get p0.funcs f5) λnT=>
    (EV N nT p0 N (decide (nT.result=p1)) 0).bind λxk=>
    if xk=true then
     (Sh.app l6 [f5] 8).bind λl26=>
     some l26
    else
     some l6
   ).bind λmf=>
   EZ N p0 p1 n (Sh.w (f5+1)) mf
  else
   some l6
def Ik (N:Nat)(p0:AP)(p1:Int):Option (List Int):=
 (EZ N p0 p1 N 1 []).bind λl7=>
 some l7
def Ec (N:Nat)(lJ:(List Int))(s1:(List Ad))(lL:(List AN))(p2:(List Int))(p3 p4:Int)(nH:Int×Int)(lP:(List Int)->Int->(List Ad)->(List AN)->(List Int)->Int->Int->Option (AG×Int)):Nat->Int->Option ((AG×Int) ⊕ (Unit))
 | 0,_=>none
 | n+1,qG=>
  if (decide (qG<=(Sh.len lL)))=true then
   (
    Option.bind (Gj lL qG) λqi=>
    if qi=true then
     (Sh.get lL (Sh.w (qG-1))).bind λc55=>
     if (decide (c55.to=p3))=true then
      (Gd N (AP.mk lL s1) p2 qG).bind λsX=>
      some sX
     else
      some false
    else
     some false
   ).bind λt45=>
   if t45=true then
    (HK N lJ nH.2 s1 lL p2 qG).bind λpP=>
    (Sh.get lL (Sh.w (qG-1))).bind λqC=>
    (lP lJ pP.2 s1 lL p2 qC.from_ (Sh.w (p4-2))).bind λzZ=>
    (Bd 11 0 [pP.1,zZ.1]).bind λxc=>
    some (Sum.inl (xc,zZ.2))
   else
    Ec N lJ s1 lL p2 p3 p4 nH lP n (Sh.w (qG+1))
  else
   some (Sum.inr ())
def Ii (N:Nat)(lP:(List Int)->Int->(List Ad)->(List AN)->(List Int)->Int->Int->Option (AG×Int))(lJ:(List Int))(lO:Int)(s1:(List Ad))(lL:(List AN))(p2:(List Int))(p3 p4:Int):Option (AG×Int):=
 Sh.cont (
  (Ax lJ lO 4).bind λnH=>
  if (decide (nH.1=0))=true then
   Sh.cont (Ec N lJ s1 lL p2 p3 p4 nH lP N 1) (λx=>Sum.inl x) λ()=>
   some (Sum.inr nH.2)
  else
   some (Sum.inr nH.2)
 ) (id) λf3=>
 (Gb N lL p3).bind λq6=>
 if (decide (0<(Sh.len q6)))=true then
  (Ax lJ f3 (Sh.len q6)).bind λoL=>
  (Sh.get q6 oL.1).bind λpA=>
  (Bs N lL pA).bind λpe=>
  (Fk N lP lJ oL.2 s1 lL p2 pe (Sh.w (p4-1))).bind λmm=>
  (Bd 6 pA mm.1).bind λnp=>
  some (np,mm.2)
 else
 if (decide (0<p3))=true then
  (HK N lJ f3 s1 lL p2 p3).bind λmA=>
  some (mA.1,mA.2)
 else
  (Ax lJ f3 3).bind λqk=>
  if (decide (qk.1=0))=true then
   (Fk N lP lJ qk.2 s1 lL p2 [(0:Int)] (Sh.w (p4-1))).bind λoR=>
   (Bd 5 0 oR.1).bind λnd=>
   some (nd,oR.2)
  else
   (Bu lJ qk.2 [(1:Int),2,3,4]).bind λqg=>
   (Fk N lP lJ qg.2 s1 lL p2 [(0:Int),0] (Sh.w (p4-1))).bind λsC=>
   (Bd qg.1 0 sC.1).bind λpB=>
   some (pB,sC.2)
def Km (N:Nat)(lP:(List Int)->Int->(List Ad)->(List AN)->(List Int)->Int->Int->Option (AG×Int))(lJ:(List Int))(lO:Int)(s1:(List Ad))(lL:(List AN))(p2:(List Int))(p3 p4:Int):Option (AG×Int):=
 if (decide (p4<3))=true then
  (HK N lJ lO s1 lL p2 p3).bind λq6=>
  some (q6.1,q6.2)
 else
  Sh.cont (
   (Ax lJ lO 12).bind λmR=>
   if (decide (mR.1=0))=true then
    (HK N lJ mR.2 s1 lL p2 p3).bind λnX=>
    some (Sum.inl (nX.1,nX.2))
   else
    (
     if (decide (mR.1=1))=true then
      some true
     else
      some (decide (mR.1=2))
    ).bind λt19=>
    if t19=true then
     (JO N lJ mR.2 s1 lL p2).bind λnB=>
     (lP lJ nB.2 s1 lL p2 nB.1 (Sh.w (Int.tdiv p4 2))).bind λpD=>
     (ES p2 [nB.1]).bind λqF=>
     (lP lJ pD.2 s1 lL qF p3 (Sh.w (Int.tdiv p4 2))).bind λoR=>
     (Bd 13 0 [pD.1,oR.1]).bind λnd=>
     some (Sum.inl (nd,oR.2))
    else
    if (decide (mR.1=3))=true then
     (Fk N lP lJ mR.2 s1 lL p2 [0,p3,p3] (Sh.w (p4-1))).bind λpB=>
     (Bd 7 0 pB.1).bind λpQ=>
     some (Sum.inl (pQ,pB.2))
    else
     (
      if (decide (mR.1=4))=true then
       some true
      else
      if (decide (mR.1=5))=true then
       some true
      else
       some (decide (mR.1=6))
     ).bind λt35=>
     if t35=true then
      (Il N lP lJ mR.2 s1 lL p2 p3 p4).bind λqB=>
      some (Sum.inl (qB.1,qB.2))
     else
      (
       if (decide (mR.1=7))=true then
        some true
       else
        some (decide (mR.1=8))
      ).bind λt41=>
      if t41=true then
       (Ik N (AP.mk lL s1) p3).bind λsD=>
       if (decide (0<(Sh.len sD)))=true then
        (Ax lJ mR.2 (Sh.len sD)).bind λpP=>
        (Sh.get sD pP.1).bind λqC=>
        (Sh.get s1 qC).bind λvU=>
        (Fk N lP lJ pP.2 s1 lL p2 vU.params (Sh.w (p4-1))).bind λqi=>
        (Bd 9 qC qi.1).bind λrO=>
        some (Sum.inl (rO,qi.2))
       else
        some (Sum.inr mR.2)
      else
       some (Sum.inr mR.2)
  ) (id) λf8=>
  (Ii N lP lJ f8 s1 lL p2 p3 p4).bind λoL=>
  some (oL.1,oL.2)
def Ip (N:Nat):Nat->(List Int)->Int->(List Ad)->(List AN)->(List Int)->Int->Int->Option (AG×Int)
 | 0,_,_,_,_,_,_,_=>none
 | n+1,lJ,lO,s1,lL,p2,p3,p4=>Km N (Ip N n) lJ lO s1 lL p2 p3 p4
def Gl (N:Nat)(lJ:(List Int))(lO:Int)(s1:(List Ad))(lL:(List AN))(p2:(List Int))(p3 p4:Int):Option (AG×Int):=Ip N N lJ lO s1 lL p2 p3 p4
def FX (lJ:(List Int)):Nat->Int->Int->Int->Int->(List AG)->Option (Int×Int×Int×(List AG))
 | 0,_,_,_,_,_=>none
 | n+1,uA,f22,f23,f24,f25=>
  if (decide (0<uA))=true then
   (ID lJ f22).bind λrN=>
   (FA rN.1).bind λsZ=>
   (Bd 6 1 [sZ,AG.mk f23 f24 f25]).bind λpC=>
   FX lJ n (Sh.w (uA-1)) rN.2 pC.op pC.num pC.kids
  else
   some (f22,f23,f24,f25)
def JQ (N:Nat)(lJ:(List Int))(lO p1:Int):Option (AG×Int):=
 (Bd 6 0 ([]:List AG)).bind λq3=>
 if (decide (p1=3))=true then
  (Bd 6 2 ([]:List AG)).bind λq8=>
  (Ax lJ lO 9).bind λme=>
  (FA me.1).bind λoL=>
  (Bd 6 3 [q8,oL,q8]).bind λmz=>
  (Ax lJ me.2 9).bind λpe=>
  (FA pe.1).bind λmm=>
  (Bd 6 3 [mz,mm,q8]).bind λnp=>
  some (np,pe.2)
 else
  (Ax lJ lO 3).bind λnN=>
  (FX lJ N (Sh.w (1+nN.1)) nN.2 q3.op q3.num q3.kids).bind λ(f26,f27,f28,f29)=>
  some (AG.mk f27 f28 f29,f26)
def Iz (N:Nat)(lJ:(List Int))(lO:Int)(s1:(List Ad))(lL:(List AN)):Option (AG×Int):=
 (Bu lJ lO [(1:Int),1,3]).bind λq3=>
 (Gl N lJ q3.2 s1 lL [q3.1] 0 16).bind λq5=>
 (
  Option.bind (Ax lJ q5.2 3) λnp=>
  if (decide (np.1=0))=true then
   (Bd 5 0 [q5.1]).bind λnr=>
   some (np.2,nr.op,nr.num,nr.kids)
  else
   some (np.2,q5.1.op,q5.1.num,q5.1.kids)
 ).bind λ(f7,f8,f9,f10)=>
 (JQ N lJ f7 q3.1).bind λmR=>
 (Bd 13 0 [mR.1,AG.mk f8 f9 f10]).bind λpe=>
 some (pe,mR.2)
def Ea (c3:Ad)(lJ:(List Int))(p3:Int):Nat->Int->Int->(List AG)->Option (Int×(List AG))
 | 0,_,_,_=>none
 | n+1,i10,f11,qv=>
  if (decide (i10<(Sh.len c3.params)))=true then
   (
    if (decide (i10=p3))=true then
     (CW (Sh.w ((Sh.len c3.params)+1))).bind λq67=>
     (Sh.app qv [q67] 40).bind λtQ=>
     some (f11,tQ)
    else
     (
      Option.bind (Sh.get c3.params i10) λc80=>
      if (decide (c80=0))=true then
       (Ax lJ f11 2).bind λvN=>
       some (decide (vN.1=0),vN.2)
      else
       some (false,f11)
     ).bind λ(t70,f71)=>
     if t70=true then
      (CW i10).bind λq74=>
      (CW (Sh.len c3.params)).bind λq75=>
      (Bd 1 0 [q74,q75]).bind λtw=>
      (Sh.app qv [tw] 40).bind λxh=>
      some (f71,xh)
     else
      (CW i10).bind λq78=>
      (Sh.app qv [q78] 40).bind λl79=>
      some (f71,l79)
   ).bind λ(f62,l63)=>
   Ea c3 lJ p3 n (Sh.w (i10+1)) f62 l63
  else
   some (f11,qv)
def Iy (N:Nat)(lJ:(List Int))(lO:Int)(s1:(List Ad))(lL:(List AN))(p2 p3:Int):Option (AG×Int):=
 (Sh.get s1 p2).bind λc3=>
 (ES c3.params [(0:Int),1]).bind λq6=>
 (Ea c3 lJ p3 N 0 lO []).bind λ(f13,mf)=>
 (Bd 9 p2 mf).bind λnX=>
 (
  Option.bind (
   if (decide (c3.result=1))=true then
    (Ax lJ f13 5).bind λsX=>
    some (decide (0<sX.1),sX.2)
   else
    some (false,f13)
  ) λ(t30,f31)=>
  if t30=true then
   (Gl N lJ f31 s1 lL q6 0 4).bind λoe=>
   (
    Option.bind (
     if (decide (1<(Sh.len c3.params)))=true then
      (Sh.get c3.params 0).bind λqC=>
      some (decide (qC=2))
     else
      some false
    ) λt43=>
    if t43=true then
     (CW 0).bind λvM=>
     (CW (Sh.len c3.params)).bind λqR=>
     (Bd 11 0 [vM,qR]).bind λtM=>
     some (tM.op,tM.num,tM.kids)
    else
     some (oe.1.op,oe.1.num,oe.1.kids)
   ).bind λ(f37,f38,f39)=>
   (Bd 6 1 [AG.mk f37 f38 f39,nX]).bind λqt=>
   some (oe.2,qt.op,qt.num,qt.kids)
  else
  if (decide (c3.result=0))=true then
   (Bu lJ f31 [(1:Int),2]).bind λqi=>
   (Gl N lJ qi.2 s1 lL q6 0 4).bind λrO=>
   (Bd qi.1 0 [rO.1,nX]).bind λxl=>
   some (rO.2,xl.op,xl.num,xl.kids)
  else
   some (f31,nX.op,nX.num,nX.kids)
 ).bind λ(f20,f21,f22,f23)=>
 (CW p3).bind λqF=>
 (Gl N lJ f20 s1 lL c3.params c3.result 4).bind λoR=>
 (Bd 8 1 [qF,oR.1,AG.mk f21 f22 f23]).bind λnd=>
 some (nd,oR.2)
def EW (c3:Ad):Nat->Int->(List AG)->(List AG)->Option ((List AG)×(List AG))
 | 0,_,_,_=>none
 | n+1,i11,qv,rf=>
  if (decide (i11<(Sh.len c3.params)))=true then
   (CW i11).bind λqR=>
   (Sh.app qv [qR] 40).bind λl48=>
   (CW i11).bind λpP=>
   (Sh.app rf [pP] 40).bind λl50=>
   EW c3 n (Sh.w (i11+1)) l48 l50
  else
   some (qv,rf)
def Iq (N:Nat)(lJ:(List Int))(lO:Int)(s1:(List Ad))(lL:(List AN))(p2:Int):Option (AG×Int):=
 (Sh.get s1 p2).bind λc3=>
 (CW (Sh.len c3.params)).bind λq6=>
 (CW (Sh.w ((Sh.len c3.params)+2))).bind λq8=>
 (EW c3 N 1 [q6] [q8]).bind λ(mf,rP)=>
 (Bd 9 p2 mf).bind λnr=>
 (Bd 9 p2 rP).bind λnN=>
 (ES c3.params [(3:Int),0,3]).bind λod=>
 (Gl N lJ lO s1 lL od 0 4).bind λnB=>
 (Bd 1 0 [nB.1,nN]).bind λqk=>
 (Bd 1 0 [nr,qk]).bind λpD=>
 (
  if (decide (c3.result=3))=true then
   (ES c3.params [(3:Int),0,3]).bind λpC=>
   (Gl N lJ nB.2 s1 lL pC 0 4).bind λqB=>
   (CW (Sh.w ((Sh.len c3.params)+2))).bind λrQ=>
   (Bd 6 3 [nr,qB.1,rQ]).bind λqt=>
   some (qB.2,qt.op,qt.num,qt.kids)
  else
   some (nB.2,pD.op,pD.num,pD.kids)
 ).bind λ(f27,f28,f29,f30)=>
 (CW 0).bind λpQ=>
 (Gl N lJ f27 s1 lL c3.params c3.result 4).bind λnH=>
 (Bd 8 3 [pQ,nH.1,AG.mk f28 f29 f30]).bind λoe=>
 some (oe,nH.2)
def EU (N:Nat)(c3:Ad)(lJ:(List Int))(s1:(List Ad))(lL:(List AN)):Nat->Int->Int->(List AG)->Option (Int×(List AG))
 | 0,_,_,_=>none
 | n+1,i10,f11,qv=>
  if (decide (i10<(Sh.len c3.params)))=true then
   (Sh.get c3.params i10).bind λc39=>
   (HK N lJ f11 s1 lL c3.params c39).bind λrQ=>
   (Sh.app qv [rQ.1] 40).bind λuB=>
   EU N c3 lJ s1 lL n (Sh.w (i10+1)) rQ.2 uB
  else
   some (f11,qv)
def Im (N:Nat)(lJ:(List Int))(lO:Int)(s1:(List Ad))(lL:(List AN))(p2:Int):Option (AG×Int):=
 (Sh.get s1 p2).bind λc3=>
 (CW 0).bind λq5=>
 (FA 1).bind λq6=>
 (Bd 2 0 [q5,q6]).bind λq7=>
 (EU N c3 lJ s1 lL N 1 lO [q7]).bind λ(f13,mf)=>
 (Bd 9 p2 mf).bind λnX=>
 (
  if (decide (c3.result=1))=true then
   (Gl N lJ f13 s1 lL c3.params 0 3).bind λpQ=>
   (Bd 6 1 [pQ.1,nX]).bind λnH=>
   some (pQ.2,nH.op,nH.num,nH.kids)
  else
   some (f13,nX.op,nX.num,nX.kids)
 ).bind λ(f19,f20,f21,f22)=>
 (FA 0).bind λpD=>
 (CW 0).bind λqF=>
 (Bd 4 0 [pD,qF]).bind λoR=>
 (Gl N lJ f19 s1 lL c3.params c3.result 4).bind λpW=>
 (Bd 7 0 [oR,AG.mk f20 f21 f22,pW.1]).bind λqg=>
 some (qg,pW.2)
def Fz (N:Nat)(lJ:(List Int))(s1:(List Ad))(lL:(List AN))(p2:(List Int))(p3:Int):Nat->Int->Int->Int->Int->(List AG)->Option (Int×Int×Int×(List AG))
 | 0,_,_,_,_,_=>none
 | n+1,budget5,f6,f7,f8,f9=>
  (
   Option.bind (Ge N (AG.mk f7 f8 f9)) λnB=>
   if (decide (nB<0))=true then
    some (decide (2<budget5))
   else
    some false
  ).bind λt18=>
  if t18=true then
   (Gl N lJ f6 s1 lL p2 p3 (Sh.w (Int.tdiv budget5 2))).bind λod=>
   Fz N lJ s1 lL p2 p3 n (Sh.w (Int.tdiv budget5 2)) od.2 od.1.op od.1.num od.1.kids
  else
   some (f6,f7,f8,f9)
def IE (N:Nat)(lJ:(List Int))(lO:Int)(s1:(List Ad))(lL:(List AN))(p2:(List Int))(p3 p4:Int):Option (AG×Int):=
 (Gl N lJ lO s1 lL p2 p3 p4).bind λq3=>
 (Fz N lJ s1 lL p2 p3 N p4 q3.2 q3.1.op q3.1.num q3.1.kids).bind λ(f10,f11,f12,f13)=>
 some (AG.mk f11 f12 f13,f10)
def Jv (N:Nat)(lJ:(List Int))(lO:Int)(s1:(List Ad))(lL:(List AN))(p2:Int):Option (AG×Int):=
 (Sh.get s1 p2).bind λc3=>
 (JP N c3.params 1).bind λq6=>
 (FA 0).bind λq8=>
 (Ax lJ lO 4).bind λme=>
 (
  Option.bind (
   if (decide (me.1<3))=true then
    some (decide (p2=0))
   else
    some false
  ) λt25=>
  if t25=true then
   (Iz N lJ me.2 s1 lL).bind λnd=>
   some (nd.2,nd.1.op,nd.1.num,nd.1.kids)
  else
   (
    if (decide (me.1<3))=true then
     if (decide (0<=q6))=true then
      if (decide (c3.result=0))=true then
       some true
      else
       some (decide (c3.result=1))
     else
      some false
    else
     some false
   ).bind λt30=>
   if t30=true then
    (Iy N lJ me.2 s1 lL p2 q6).bind λpQ=>
    some (pQ.2,pQ.1.op,pQ.1.num,pQ.1.kids)
   else
    (
     if (decide (me.1<3))=true then
      if (decide (0<(Sh.len c3.params)))=true then
       (Sh.get c3.params 0).bind λvU=>
       if (decide (vU=3))=true then
        if (decide (c3.result=0))=true then
         some true
        else
         some (decide (c3.result=3))
       else
        some false
      else
       some false
     else
      some false
    ).bind λt35=>
    if t35=true then
     (Iq N lJ me.2 s1 lL p2).bind λpC=>
     some (pC.2,pC.1.op,pC.1.num,pC.1.kids)
    else
     (
      if (decide (me.1<3))=true then
       if (decide (0<(Sh.len c3.params)))=true then
        (Sh.get c3.params 0).bind λc47=>
        if (decide (c47=0))=true then
         if (decide (c3.result=0))=true then
          some true
         else
          some (decide (c3.result=1))
        else
         some false
       else
        some false
      else
       some false
     ).bind λt40=>
     if t40=true then
      (Im N lJ me.2 s1 lL p2).bind λwR=>
      some (wR.2,wR.1.op,wR.1.num,wR.1.kids)
     else
      (IE N lJ me.2 s1 lL c3.params c3.result 18).bind λsF=>
      some (sF.2,sF.1.op,sF.1.num,sF.1.kids)
 ).bind λ(f12,f13,f14,f15)=>
 (Ge N (AG.mk f13 f14 f15)).bind λnS=>
 if (decide (nS<0))=true then
  (IE N lJ f12 s1 lL c3.params c3.result 12).bind λod=>
  some (od.1,od.2)
 else
  some (AG.mk f13 f14 f15,f12)
def D0 (N:Nat)(lJ:(List Int))(q3:(List AN)×Int):Nat->Int->Int->(List Ad)->Option (Int×(List Ad))
 | 0,_,_,_=>none
 | n+1,f37,f38,l39=>
  if (decide (0<=f37))=true then
   (Jv N lJ f38 l39 q3.1 f37).bind λpP=>
   (Sh.get l39 f37).bind λqC=>
   D0 N lJ q3 n (Sh.w (f37-1)) pP.2 (Sh.put l39 f37 (Ad.mk qC.params qC.result pP.1))
  else
   some (f38,l39)
def G6 (N:Nat)(lJ:(List Int))(lO:Int):Option (AP×Int):=
 (G2 lJ lO).bind λq3=>
 (Ep [(1:Int)] 0).bind λq5=>
 (Ep [(1:Int),1] 1).bind λq6=>
 (Ep [(1:Int)] 1).bind λq7=>
 (Ep [(1:Int),0] 1).bind λq8=>
 (Ep [(2:Int),1] 1).bind λq9=>
 (Ep [(1:Int),1] 0).bind λme=>
 (Ep [(3:Int)] 0).bind λmz=>
 (Ep [(0:Int)] 1).bind λmR=>
 (Ep [(0:Int),1] 1).bind λpe=>
 (Ep [(3:Int),0] 3).bind λmm=>
 (Ep [(3:Int)] 1).bind λnp=>
 (Ep [(1:Int),3,0] 0).bind λnX=>
 (Ep [(0:Int)] 0).bind λnS=>
 (Ep [(0:Int),0] 0).bind λnN=>
 (Ep [(1:Int),0] 0).bind λmA=>
 (Ep [(0:Int)] 1).bind λod=>
 (Ep ([]:List Int) 0).bind λqk=>
 (Ax lJ q3.2 (Sh.len [q5,q6,q7,q8,q9,me])).bind λpD=>
 (Sh.get [q5,q6,q7,q8,q9,me] pD.1).bind λtO=>
 (Ax lJ pD.2 (Sh.len [mz,mR,pe,mm,np,nX])).bind λoR=>
 (Sh.get [mz,mR,pe,mm,np,nX] oR.1).bind λsE=>
 (Ax lJ oR.2 (Sh.len [nS,nN,mA,od])).bind λpW=>
 (Sh.get [nS,nN,mA,od] pW.1).bind λsY=>
 (Bu lJ pW.2 [(4:Int),4,3,2,4]).bind λpB=>
 (Sh.hi [qk,tO,sE,sY] pB.1).bind λuC=>
 (D0 N lJ q3 N (Sh.w (pB.1-1)) pB.2 uC).bind λ(f40,uB)=>
 some (AP.mk q3.1 uB,f40)
def Ix (lT:(List AG)->Option (List AG))(p0:AG):Option (AG):=
 (lT p0.kids).bind λq3=>
 some (AG.mk p0.op p0.num q3)
def CQ (p0:(List AG))(lT:(List AG)->Option (List AG)):Nat->Int->(List AG)->Option (List AG)
 | 0,_,_=>none
 | n+1,i5,l6=>
  if (decide (i5<(Sh.len p0)))=true then
   (Sh.get p0 i5).bind λnq=>
   (Ix lT nq).bind λmm=>
   (Sh.app l6 [mm] 40).bind λtq=>
   CQ p0 lT n (Sh.w (i5+1)) tq
  else
   some l6
def HF (N:Nat)(lT:(List AG)->Option (List AG))(p0:(List AG)):Option (List AG):=
 (CQ p0 lT N 0 []).bind λl7=>
 some l7
def C9 (N:Nat):Nat->(List AG)->Option (List AG)
 | 0,_=>none
 | n+1,p0=>HF N (C9 N n) p0
def GK (N:Nat)(p0:(List AG)):Option (List AG):=C9 N N p0
def LN (N:Nat)(mN:(List Int)->Int->AG->Option (AG×Int))(lJ:(List Int))(lO:Int)(p1:AG):Option (AG×Int):=
 (
  if (decide (0<(Sh.len p1.kids)))=true then
   (Ax lJ lO 3).bind λqR=>
   some (decide (0<qR.1),qR.2)
  else
   some (false,lO)
 ).bind λ(t4,f5)=>
 if t4=true then
  (GK N p1.kids).bind λq9=>
  (Ax lJ f5 (Sh.len q9)).bind λoL=>
  (Sh.get q9 oL.1).bind λtN=>
  (mN lJ oL.2 tN).bind λpe=>
  (Bd p1.op p1.num (Sh.put q9 oL.1 pe.1)).bind λnp=>
  some (np,pe.2)
 else
  (Ax lJ f5 5).bind λnS=>
  if (decide (nS.1=0))=true then
   (Ax lJ nS.2 15).bind λnB=>
   (Bd nB.1 p1.num p1.kids).bind λqk=>
   some (qk,nB.2)
  else
  if (decide (nS.1=1))=true then
   (Bu lJ nS.2 [(1:Int),-1,1000,2]).bind λnd=>
   (Bd p1.op (Sh.w (p1.num+nd.1)) p1.kids).bind λpW=>
   some (pW,nd.2)
  else
  if (decide (nS.1=2))=true then
   (GK N p1.kids).bind λpQ=>
   (FA 1).bind λnH=>
   (Sh.app pQ [nH] 40).bind λxg=>
   (Bd p1.op p1.num xg).bind λrN=>
   some (rN,nS.2)
  else
  if (decide (nS.1=3))=true then
   (Bu lJ nS.2 [(0:Int),1,2,5,100,-1]).bind λqt=>
   (CW qt.1).bind λq42=>
   some (q42,qt.2)
  else
   (Bu lJ nS.2 [(0:Int),1000,-1000,5]).bind λsF=>
   (FA sF.1).bind λsD=>
   some (sD,sF.2)
def JC (N:Nat):Nat->(List Int)->Int->AG->Option (AG×Int)
 | 0,_,_,_=>none
 | n+1,lJ,lO,p1=>LN N (JC N n) lJ lO p1
def QN (N:Nat)(lJ:(List Int))(lO:Int)(p1:AG):Option (AG×Int):=JC N N lJ lO p1
def Is (lJ:(List Int))(lO:Int):Option ((List AN)×Int):=
 (G2 lJ lO).bind λq3=>
 (Ax lJ q3.2 (Sh.len q3.1)).bind λq5=>
 (
  Option.bind (Ax lJ q5.2 14) λmz=>
  if (decide (mz.1=0))=true then
   (Bu lJ mz.2 [(-1:Int),5,0,2]).bind λmm=>
   (Bu lJ mm.2 [(0:Int),1,5]).bind λnp=>
   (Sh.get q3.1 q5.1).bind λnT=>
   some (np.2,Sh.put q3.1 q5.1 (AN.mk mm.1 np.1 []))
  else
  if (decide (mz.1=1))=true then
   (Bu lJ mz.2 [(-1:Int),0,4,5]).bind λnN=>
   (E7 [nN.1]).bind λmA=>
   (E7 [(0:Int),0,0,0]).bind λod=>
   (E7 ([]:List Int)).bind λnB=>
   (Sh.get q3.1 q5.1).bind λzX=>
   some (nN.2,Sh.put q3.1 q5.1 (AN.mk 0 0 [mA,od,nB]))
  else
  if (decide (mz.1=2))=true then
   (E7 [Sh.w (q5.1+1)]).bind λoR=>
   (Sh.get q3.1 q5.1).bind λsE=>
   some (mz.2,Sh.put q3.1 q5.1 (AN.mk 0 0 [oR]))
  else
  if (decide (mz.1=3))=true then
   (Bu lJ mz.2 [(0:Int),2,1]).bind λsC=>
   (Sh.app q3.1 ([AN.mk 2 sC.1 []]) 40).bind λxb=>
   some (sC.2,xb)
  else
  if (decide (mz.1=4))=true then
   (Ax lJ mz.2 2).bind λoe=>
   (E7 ([]:List Int)).bind λrN=>
   (E7 [(2:Int)]).bind λsZ=>
   (E7 ([]:List Int)).bind λpC=>
   (E7 ([]:List Int)).bind λqB=>
   (Ax lJ oe.2 3).bind λrQ=>
   (Sh.sl [rN,sZ,pC,qB] rQ.1 (Sh.len [rN,sZ,pC,qB])).bind λuB=>
   (Sh.get q3.1 q5.1).bind λc42=>
   some (rQ.2,Sh.put q3.1 q5.1 (AN.mk oe.1 0 uB))
  else
  if (decide (mz.1=5))=true then
   (Sh.app q3.1 ([AN.mk 0 0 [],AN.mk 3 0 []]) 40).bind λl45=>
   some (mz.2,l45)
  else
   some (mz.2,q3.1)
 ).bind λ(f7,l8)=>
 some (l8,f7)
def Gs (N:Nat)(lJ:(List Int))(lO:Int)(s1:(List Ad))(lL:(List AN)):Option (AP×Int):=
 (Ax lJ lO (Sh.len s1)).bind λq3=>
 (Sh.get s1 q3.1).bind λc5=>
 (
  Option.bind (Ax lJ q3.2 24) λmR=>
  if (decide (mR.1=0))=true then
   (QN N lJ mR.2 c5.body).bind λnp=>
   some (np.2,Sh.put s1 q3.1 (Ad.mk c5.params c5.result np.1),lL)
  else
  if (decide (mR.1=1))=true then
   (Bu lJ mR.2 [(0:Int),1,9,-1]).bind λnS=>
   (ES c5.params [nS.1]).bind λnN=>
   some (nS.2,Sh.put s1 q3.1 (Ad.mk nN c5.result c5.body),lL)
  else
  if (decide (mR.1=2))=true then
   (Bu lJ mR.2 [(0:Int),1,3,5,-1]).bind λnB=>
   some (nB.2,Sh.put s1 q3.1 (Ad.mk c5.params nB.1 c5.body),lL)
  else
  if (decide (mR.1=3))=true then
   (Is lJ mR.2).bind λqF=>
   some (qF.2,s1,qF.1)
  else
  if (decide (mR.1=4))=true then
   (Sh.app s1 [c5] 72).bind λxm=>
   some (mR.2,xm,lL)
  else
   some (mR.2,s1,lL)
 ).bind λ(f7,l8,f9)=>
 some (AP.mk f9 l8,f7)
def HU (N:Nat)(lJ:(List Int))(lO:Int):Option (AP×Int):=
 (G6 N lJ lO).bind λq3=>
 (Gs N lJ q3.2 q3.1.funcs q3.1.decls).bind λq4=>
 some (q4.1,q4.2)
end RC
namespace RC
end RC
namespace RC
def Eo (p0:AG)(lq:AG->Option (AG)):Nat->Int->(List AG)->Option (List AG)
 | 0,_,_=>none
 | n+1,k5,l6=>
  if (decide (k5<(Sh.len p0.kids)))=true then
   (Sh.get p0.kids k5).bind λwO=>
   (lq wO).bind λnd=>
   (Sh.app l6 [nd] 40).bind λxm=>
   Eo p0 lq n (Sh.w (k5+1)) xm
  else
   some l6
def Kd (N:Nat)(lq:AG->Option (AG))(p0:AG):Option (AG):=
 (Eo p0 lq N 0 []).bind λl7=>
 (
  if (decide (p0.op=11))=true then
   (Sh.get l7 0).bind λqf=>
   some (decide (qf.op=10))
  else
   some false
 ).bind λt11=>
 if t11=true then
  (Sh.get l7 0).bind λqQ=>
  (GK N qQ.kids).bind λnp=>
  (Sh.get l7 1).bind λnT=>
  (Sh.app np [nT] 40).bind λwQ=>
  some (AG.mk 9 qQ.num wQ)
 else
  some (AG.mk p0.op p0.num l7)
def Gh (N:Nat):Nat->AG->Option (AG)
 | 0,_=>none
 | n+1,p0=>Kd N (Gh N n) p0
def MD (N:Nat)(p0:AG):Option (AG):=Gh N N p0
def Hm (N:Nat)(p0:AG):Option (AG):=
 (GK N p0.kids).bind λq3=>
 some (AG.mk p0.op p0.num q3)
def Di (N:Nat)(p0:AP)(p1:(List AG)):Nat->Int->(List Ad)->Option ((AP×Bool) ⊕ (List Ad))
 | 0,_,_=>none
 | n+1,i6,l7=>
  if (decide (i6<(Sh.len p0.funcs)))=true then
   (Sh.get p1 i6).bind λnT=>
   (Ge N nT).bind λnr=>
   if (decide (nr<0))=true then
    some (Sum.inl (AP.mk [] [],false))
   else
    (Sh.get p0.funcs i6).bind λtS=>
    (FB tS.params).bind λod=>
    (Hm N nT).bind λnB=>
    (Sh.app l7 [Ad.mk od tS.result nB] 72).bind λvP=>
    Di N p0 p1 n (Sh.w (i6+1)) vP
  else
   some (Sum.inr l7)
def HZ (N:Nat)(p0:AP)(p1:(List AG)):Option (AP×Bool):=
 (H3 N p0.decls).bind λq3=>
 Sh.cont (Di N p0 p1 N 0 []) (id) λl8=>
 some (AP.mk q3 l8,true)
def DO (N:Nat)(p0:AP):Nat->Int->(List AG)->Option (List AG)
 | 0,_,_=>none
 | n+1,i12,rf=>
  if (decide (i12<(Sh.len p0.funcs)))=true then
   (Sh.get p0.funcs i12).bind λqf=>
   (MD N qf.body).bind λnB=>
   (Sh.app rf [nB] 40).bind λvP=>
   DO N p0 n (Sh.w (i12+1)) vP
  else
   some rf
def Fw (N:Nat)(p0:AP):Option (AP×Bool):=
 (Bn N p0).bind λq4=>
 if (!q4)=true then
  some (AP.mk [] [],false)
 else
  (DO N p0 N 0 []).bind λmf=>
  (HZ N p0 mf).bind λnX=>
  some (nX.1,nX.2)
def D4 (p0:AG)(p1 p2:Int)(lg:AG->Int->Int->Option (AG)):Nat->Int->(List AG)->Option (List AG)
 | 0,_,_=>none
 | n+1,t9,tP=>
  if (decide (t9<(Sh.len p0.kids)))=true then
   (Sh.get p0.kids t9).bind λnw=>
   (lg nw p1 p2).bind λnN=>
   (Sh.app tP [nN] 40).bind λxW=>
   D4 p0 p1 p2 lg n (Sh.w (t9+1)) xW
  else
   some tP
def JY (N:Nat)(lg:AG->Int->Int->Option (AG))(p0:AG)(p1 p2:Int):Option (AG):=
 (
  Option.bind (
   if (decide (p0.op=12))=true then
    some (decide (p1<=p0.num))
   else
    some false
  ) λt25=>
  if t25=true then
   some (Sh.w (p0.num+p2))
  else
   some p0.num
 ).bind λf3=>
 (D4 p0 p1 p2 lg N 0 []).bind λvO=>
 some (AG.mk p0.op f3 vO)
def Fo (N:Nat):Nat->AG->Int->Int->Option (AG)
 | 0,_,_,_=>none
 | n+1,p0,p1,p2=>JY N (Fo N n) p0 p1 p2
def Mc (N:Nat)(p0:AG)(p1 p2:Int):Option (AG):=Fo N N p0 p1 p2
def H5 (N:Nat)(p0:AG):Option (AG):=
 (Mc N p0 0 0).bind λq3=>
 some q3
def DG (N:Nat)(p0:AP):Nat->Int->(List Ad)->Option (List Ad)
 | 0,_,_=>none
 | n+1,t6,l7=>
  if (decide (t6<(Sh.len p0.funcs)))=true then
   (Sh.get p0.funcs t6).bind λnh=>
   (CI nh.params).bind λnX=>
   (H5 N nh.body).bind λnr=>
   (Sh.app l7 [Ad.mk nX nh.result nr] 72).bind λtR=>
   DG N p0 n (Sh.w (t6+1)) tR
  else
   some l7
def Gn (N:Nat)(p0:AP):Option (AP):=
 (Hf N p0.decls).bind λq3=>
 (DG N p0 N 0 []).bind λl8=>
 some (AP.mk q3 l8)
def Gu (s0:(List AG))(mn mw p1:Int):Option (AG):=
 (
  if (decide (mn=11))=true then
   (Sh.get s0 0).bind λqQ=>
   some (decide (qQ.op=10))
  else
   some false
 ).bind λt4=>
 if t4=true then
  (Sh.get s0 0).bind λc8=>
  (Sh.get s0 1).bind λc9=>
  (Sh.app c8.kids [c9] 40).bind λtP=>
  some (AG.mk 9 c8.num tP)
 else
  some (AG.mk mn mw s0)
def Cu (N:Nat)(s0:(List AG))(p0:(List AN))(lL lu p2:Int)(lZ:(List AG)->(List AN)->Int->Int->Int->Option (AG)):Nat->Int->(List AG)->Option (List AG)
 | 0,_,_=>none
 | n+1,t4,l5=>
  if (decide (t4<(Sh.len s0)))=true then
   (
    Option.bind (
     if (decide (lL=13))=true then
      some (decide (t4=1))
     else
      some false
    ) λt23=>
    if t23=true then
     some (Sh.w (p2+1))
    else
     (
      if (decide (lL=8))=true then
       some (decide (0<t4))
      else
       some false
     ).bind λt27=>
     if t27=true then
      (GY N p0 lu).bind λqg=>
      (Sh.get qg (Sh.w (t4-1))).bind λxn=>
      (Ds N p0 xn).bind λpB=>
      some (Sh.w (p2+(Sh.len pB)))
     else
      some p2
   ).bind λsG=>
   (Sh.get l5 t4).bind λnw=>
   (lZ nw.kids p0 nw.op nw.num sG).bind λnN=>
   Cu N s0 p0 lL lu p2 lZ n (Sh.w (t4+1)) (Sh.put l5 t4 nN)
  else
   some l5
def HS (N:Nat)(lZ:(List AG)->(List AN)->Int->Int->Int->Option (AG))(s0:(List AG))(p0:(List AN))(lL lu p2:Int):Option (AG):=
 (Cu N s0 p0 lL lu p2 lZ N 0 s0).bind λl6=>
 (Gu l6 lL lu p2).bind λq9=>
 some q9
def EM (N:Nat):Nat->(List AG)->(List AN)->Int->Int->Int->Option (AG)
 | 0,_,_,_,_,_=>none
 | n+1,s0,p0,lL,lu,p2=>HS N (EM N n) s0 p0 lL lu p2
def IW (N:Nat)(s0:(List AG))(p0:(List AN))(lL lu p2:Int):Option (AG):=EM N N s0 p0 lL lu p2
def Da (N:Nat)(p0 q3:AP):Nat->Int->(List Ad)->Option ((AP×Bool) ⊕ (List Ad))
 | 0,_,_=>none
 | n+1,t6,l7=>
  if (decide (t6<(Sh.len q3.funcs)))=true then
   (Sh.get l7 t6).bind λnT=>
   (IW N nT.body.kids p0.decls nT.body.op nT.body.num (Sh.len nT.params)).bind λnr=>
   (Sh.get (Sh.put l7 t6 (Ad.mk nT.params nT.result nr)) t6).bind λtS=>
   (Gg N tS.body).bind λod=>
   if (decide (od<0))=true then
    some (Sum.inl (AP.mk [] [],false))
   else
    Da N p0 q3 n (Sh.w (t6+1)) (Sh.put l7 t6 (Ad.mk nT.params nT.result nr))
  else
   some (Sum.inr l7)
def H8 (N:Nat)(p0:AP):Option (AP×Bool):=
 (Gn N p0).bind λq3=>
 Sh.cont (Da N p0 q3 N 0 q3.funcs) (id) λl8=>
 some (AP.mk q3.decls l8,true)
def FY (N:Nat)(p0:AP):Option (AP×Bool):=
 (Eg N p0).bind λq4=>
 if (!q4)=true then
  some (AP.mk [] [],false)
 else
  (H8 N p0).bind λme=>
  some (me.1,me.2)
end RC
namespace RC
def GA (N:Nat)(p0:(List Int)):Option (AP):=
 (H0 p0).bind λq3=>
 (HU N q3.1 q3.2).bind λq4=>
 some q4.1
def D8 (p0:(List Int))(p1:(List Int)):Nat->Int->Option ((Bool) ⊕ (Unit))
 | 0,_=>none
 | n+1,i10=>
  if (decide (i10<(Sh.len p0)))=true then
   (Sh.get p0 i10).bind λoQ=>
   (Sh.get p1 i10).bind λnw=>
   if (!decide (oQ=nw))=true then
    some (Sum.inl false)
   else
    D8 p0 p1 n (Sh.w (i10+1))
  else
   some (Sum.inr ())
def G1 (N:Nat)(p0:(List Int))(p1:(List Int)):Option (Bool):=
 if (!decide ((Sh.len p0)=(Sh.len p1)))=true then
  some false
 else
  Sh.cont (D8 p0 p1 N 0) (id) λ()=>
  some true
def Dq (N:Nat)(i10:Int)(p0:(List AN))(p1:(List AN)):Nat->Int->Option ((Bool) ⊕ (Unit))
 | 0,_=>none
 | n+1,k24=>
  (Sh.get p0 i10).bind λsE=>
  if (decide (k24<(Sh.len sE.cons)))=true then
   (Sh.get sE.cons k24).bind λc32=>
   (Sh.get p1 i10).bind λrh=>
   (Sh.get rh.cons k24).bind λvR=>
   (G1 N c32.fields vR.fields).bind λoe=>
   if (!oe)=true then
    some (Sum.inl false)
   else
    Dq N i10 p0 p1 n (Sh.w (k24+1))
  else
   some (Sum.inr ())
def Df (N:Nat)(p0:(List AN))(p1:(List AN)):Nat->Int->Option ((Bool) ⊕ (Unit))
 | 0,_=>none
 | n+1,i10=>
  if (decide (i10<(Sh.len p0)))=true then
   (
    Option.bind (Sh.get p0 i10) λxp=>
    (Sh.get p1 i10).bind λtL=>
    if (!decide (xp.from_=tL.from_))=true then
     some true
    else
    if (!decide (xp.to=tL.to))=true then
     some true
    else
     some (!decide ((Sh.len xp.cons)=(Sh.len tL.cons)))
   ).bind λt19=>
   if t19=true then
    some (Sum.inl false)
   else
    Sh.cont (Dq N i10 p0 p1 N 0) (λx=>Sum.inl x) λ()=>
    Df N p0 p1 n (Sh.w (i10+1))
  else
   some (Sum.inr ())
def HW (N:Nat)(p0:(List AN))(p1:(List AN)):Option (Bool):=
 if (!decide ((Sh.len p0)=(Sh.len p1)))=true then
  some false
 else
  Sh.cont (Df N p0 p1 N 0) (id) λ()=>
  some true
def DW (p0 p1:AG)(ld:AG->AG->Option (Bool)):Nat->Int->Option ((Bool) ⊕ (Unit))
 | 0,_=>none
 | n+1,i10=>
  if (decide (i10<(Sh.len p0.kids)))=true then
   (Sh.get p0.kids i10).bind λoQ=>
   (Sh.get p1.kids i10).bind λnw=>
   (ld oQ nw).bind λnN=>
   if (!nN)=true then
    some (Sum.inl false)
   else
    DW p0 p1 ld n (Sh.w (i10+1))
  else
   some (Sum.inr ())
def IQ (N:Nat)(ld:AG->AG->Option (Bool))(p0 p1:AG):Option (Bool):=
 (
  if (!decide (p0.op=p1.op))=true then
   some true
  else
  if (!decide (p0.num=p1.num))=true then
   some true
  else
   some (!decide ((Sh.len p0.kids)=(Sh.len p1.kids)))
 ).bind λt4=>
 if t4=true then
  some false
 else
  Sh.cont (DW p0 p1 ld N 0) (id) λ()=>
  some true
def Ez (N:Nat):Nat->AG->AG->Option (Bool)
 | 0,_,_=>none
 | n+1,p0,p1=>IQ N (Ez N n) p0 p1
def Kz (N:Nat)(p0 p1:AG):Option (Bool):=Ez N N p0 p1
def DE (N:Nat)(p0 p1:AP):Nat->Int->Option ((Bool) ⊕ (Unit))
 | 0,_=>none
 | n+1,i10=>
  if (decide (i10<(Sh.len p0.funcs)))=true then
   (
    Option.bind (Sh.get p0.funcs i10) λqf=>
    (Sh.get p1.funcs i10).bind λqu=>
    (G1 N qf.params qu.params).bind λqk=>
    if (!qk)=true then
     some true
    else
    if (!decide (qf.result=qu.result))=true then
     some true
    else
     (Kz N qf.body qu.body).bind λoR=>
     some (!oR)
   ).bind λt18=>
   if t18=true then
    some (Sum.inl false)
   else
    DE N p0 p1 n (Sh.w (i10+1))
  else
   some (Sum.inr ())
def FR (N:Nat)(p0 p1:AP):Option (Bool):=
 (
  Option.bind (HW N p0.decls p1.decls) λnd=>
  if (!nd)=true then
   some true
  else
   some (!decide ((Sh.len p0.funcs)=(Sh.len p1.funcs)))
 ).bind λt4=>
 if t4=true then
  some false
 else
  Sh.cont (DE N p0 p1 N 0) (id) λ()=>
  some true
def CY (N:Nat)(q7:AP)(q9:AP×Bool):Nat->Int->Option ((Bool) ⊕ (Unit))
 | 0,_=>none
 | n+1,f26=>
  if (decide (f26<(Sh.len q7.funcs)))=true then
   (
    if (decide ((Sh.len q9.1.funcs)<=f26))=true then
     some true
    else
     (Sh.get q9.1.funcs f26).bind λc43=>
     (Gg N c43.body).bind λsF=>
     (Sh.get q7.funcs f26).bind λtz=>
     (Gg N tz.body).bind λvM=>
     some (decide (vM<sF))
   ).bind λt38=>
   if t38=true then
    some (Sum.inl false)
   else
    CY N q7 q9 n (Sh.w (f26+1))
  else
   some (Sum.inr ())
def GH (N:Nat)(p0:(List Int)):Option (Bool):=
 if (decide (1048576<(Sh.len p0)))=true then
  some true
 else
  (GA N p0).bind λq7=>
  (FY N q7).bind λq9=>
  (Fw N q7).bind λoL=>
  (
   Option.bind (FR N q9.1 oL.1) λqR=>
   if (!qR)=true then
    some true
   else
   if (q9.2 != oL.2)=true then
    some true
   else
    some (!q9.2)
  ).bind λt14=>
  if t14=true then
   (
    Option.bind (FR N q9.1 oL.1) λnN=>
    if nN=true then
     some (q9.2==oL.2)
    else
     some false
   ).bind λt18=>
   some t18
  else
   (FY N q9.1).bind λnB=>
   Sh.cont (CY N q7 q9 N 0) (id) λ()=>
   (
    if nB.2=true then
     (FR N nB.1 q9.1).bind λpB=>
     some pB
    else
     some false
   ).bind λt29=>
   some t29
end RC
