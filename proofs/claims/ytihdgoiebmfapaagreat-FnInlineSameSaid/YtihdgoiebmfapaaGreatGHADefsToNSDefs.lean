import Derived.Test.YtihdgoiebmfapaaGreatSufF
set_option linter.all false
namespace RC
def aC (p0:List Int)(p1:Int):Option Int:=
 if (decide ((Sh.w (p1-(Sh.len p0)))<0))=true then
  some (-1)
 else
  some (Sh.w (p1-(Sh.len p0)))
def Cw (p0 p1 p2:Int):Option Bool:=
 (
  if decide (p1<=p0)=true then
   some (decide (p0<=p2))
  else
   some false
 ).bind λt3=>
 some t3
def CN (p0:List Int):Option (List Int):=
 (Sh.app ([]:List Int) p0 8).bind λl6=>
 some l6
end RC
namespace RC
def cd (p0:D7)(p1:Int):Option Int:=
 (aC p0.fields p1).bind λq3=>
 if decide (q3<0)=true then
  some (-1)
 else
  some q3
def WZ (p0:List D7):Nat->Int->Int->Option (Int⊕Int)
 |0,_,_=>none
 |n+1,left9,i10=>
  if decide (i10<Sh.len p0)=true then
   (Sh.get p0 i10).bind λwR=>
   (cd wR left9).bind λvz=>
   if decide (vz<0)=true then
    some (Sum.inl (-1))
   else
    WZ p0 n vz (Sh.w (i10+1))
  else
   some (Sum.inr left9)
def Fc (p0:List AK)(p1:List Int):Nat->Int->Option (Bool⊕Unit)
 |0,_=>none
 |n+1,i4=>
  if decide (i4<Sh.len p1)=true then
   (Sh.get p1 i4).bind λyS=>
   (Cw yS 0 (Sh.len p0)).bind λvW=>
   if (!vW)=true then
    some (Sum.inl false)
   else
    Fc p0 p1 n (Sh.w (i4+1))
  else
   some (Sum.inr ())
def IT (N:Nat)(p0:List AK)(p1:List Int):Option Bool:=
 Sh.cont (Fc p0 p1 N 0) id λ()=>
 some true
def FJ (N:Nat)(c3:AK)(p0:List AK):Nat->Int->Option (Bool⊕Unit)
 |0,_=>none
 |n+1,i15=>
  if decide (i15<Sh.len c3.cons)=true then
   (
    Option.bind (Sh.get c3.cons i15) λc27=>
    if decide (3<Sh.len c27.fields)=true then
     some true
    else
     (IT N p0 c27.fields).bind λzF=>
     some (!zF)
   ).bind λt23=>
   if t23=true then
    some (Sum.inl false)
   else
    FJ N c3 p0 n (Sh.w (i15+1))
  else
   some (Sum.inr ())
def FC (c3:AK)(p0:List AK)(p1:Int):Nat->Int->Option (Bool⊕Unit)
 |0,_=>none
 |n+1,i34=>
  if decide (i34<p1)=true then
   (
    Option.bind (Sh.get p0 i34) λc51=>
    if decide ((Sh.len c51.cons)=0)=true then
     if decide (c51.from_=c3.from_)=true then
      some (decide (c51.to=c3.to))
     else
      some false
    else
     some false
   ).bind λt47=>
   if t47=true then
    some (Sum.inl false)
   else
    FC c3 p0 p1 n (Sh.w (i34+1))
  else
   some (Sum.inr ())
def JG (N:Nat)(p0:List AK)(p1:Int):Option Bool:=
 (Sh.get p0 p1).bind λc3=>
 if decide (0<Sh.len c3.cons)=true then
  (
   if decide (3<Sh.len c3.cons)=true then
    some true
   else
   if (!decide (c3.from_=0))=true then
    some true
   else
    some (!decide (c3.to=0))
  ).bind λt9=>
  if t9=true then
   some false
  else
   Sh.cont (FJ N c3 p0 N 0) id λ()=>
   some true
 else
  Sh.cont (FC c3 p0 p1 N 0) id λ()=>
  (
   Option.bind (Cw c3.from_ 0 (Sh.len p0)) λzY=>
   if zY=true then
    (Cw c3.to 0 (Sh.len p0)).bind λq41=>
    some q41
   else
    some false
  ).bind λt37=>
  some t37
def Ep (N:Nat)(p0:List AK):Nat->Int->Option (Bool⊕Unit)
 |0,_=>none
 |n+1,i8=>
  if decide (i8<Sh.len p0)=true then
   (JG N p0 i8).bind λwL=>
   if (!wL)=true then
    some (Sum.inl false)
   else
    Ep N p0 n (Sh.w (i8+1))
  else
   some (Sum.inr ())
def IV (N:Nat)(p0:List AK):Option Bool:=
 if decide (4<Sh.len p0)=true then
  some false
 else
  Sh.cont (Ep N p0 N 0) id λ()=>
  some true
def EX (N:Nat)(p0:AJ):Nat->Int->Option (Bool⊕Unit)
 |0,_=>none
 |n+1,i10=>
  if decide (i10<Sh.len p0.funcs)=true then
   (Sh.get p0.funcs i10).bind λc22=>
   (
    if decide (3<Sh.len c22.params)=true then
     some true
    else
     (IT N p0.decls c22.params).bind λzF=>
     if (!zF)=true then
      some true
     else
      (Cw c22.result 0 (Sh.len p0.decls)).bind λq31=>
      some (!q31)
   ).bind λt24=>
   if t24=true then
    some (Sum.inl false)
   else
    EX N p0 n (Sh.w (i10+1))
  else
   some (Sum.inr ())
def Ht (N:Nat)(p0:AJ):Option Bool:=
 (
  Option.bind (IV N p0.decls) λxy=>
  if (!xy)=true then
   some true
  else
   (Cw (Sh.len p0.funcs) 1 4).bind λwA=>
   some (!wA)
 ).bind λt4=>
 if t4=true then
  some false
 else
  Sh.cont (EX N p0 N 0) id λ()=>
  (
   Option.bind (Sh.get p0.funcs 0) λzZ=>
   if decide ((Sh.len zZ.params)=0)=true then
    some (decide (zZ.result=0))
   else
    some false
  ).bind λt13=>
  some t13
def Ev (p0:List AK)(p1:Int):Nat->Int->Int->Option Int
 |0,_,_=>none
 |n+1,n5,i6=>
  if decide (i6<p1)=true then
   (Sh.get p0 i6).bind λwx=>
   Ev p0 p1 n (Sh.w (n5+Sh.len wx.cons)) (Sh.w (i6+1))
  else
   some n5
def Hd (N:Nat)(p0:List AK)(p1:Int):Option Int:=
 (Ev p0 p1 N 0 0).bind λn7=>
 some n7
def EI (N:Nat)(p0:List AK)(p1:Int):Nat->Int->Option (Int⊕Unit)
 |0,_=>none
 |n+1,i4=>
  if decide (i4<Sh.len p0)=true then
   (Hd N p0 i4).bind λwE=>
   (Sh.get p0 i4).bind λwx=>
   (Cw p1 wE (Sh.w ((Sh.w (wE+Sh.len wx.cons))-1))).bind λvm=>
   if vm=true then
    some (Sum.inl (Sh.w (i4+1)))
   else
    EI N p0 p1 n (Sh.w (i4+1))
  else
   some (Sum.inr ())
def Gu (N:Nat)(p0:List AK)(p1:Int):Option Int:=
 Sh.cont (EI N p0 p1 N 0) id λ()=>
 some (-1)
def Bs (N:Nat)(p0:List AK)(p1:Int):Option (List Int):=
 (Gu N p0 p1).bind λq3=>
 if decide (q3<1)=true then
  some []
 else
  (Sh.get p0 (Sh.w (q3-1))).bind λc9=>
  (Hd N p0 (Sh.w (q3-1))).bind λvT=>
  (Sh.get c9.cons (Sh.w (p1-vT))).bind λc11=>
  some c11.fields
def F6 (N:Nat)(p0:List AK)(p1:Int):Nat->Int->(List Int)->Option (List Int)
 |0,_,_=>none
 |n+1,i12,l13=>
  (Sh.get p0 (Sh.w (p1-1))).bind λwR=>
  if decide (i12<Sh.len wR.cons)=true then
   (Hd N p0 (Sh.w (p1-1))).bind λwV=>
   (Sh.app l13 [Sh.w (wV+i12)] 8).bind λl23=>
   F6 N p0 p1 n (Sh.w (i12+1)) l23
  else
   some l13
def Gw (N:Nat)(p0:List AK)(p1:Int):Option (List Int):=
 (Cw p1 1 (Sh.len p0)).bind λq5=>
 if (!q5)=true then
  some []
 else
  (F6 N p0 p1 N 0 []).bind λvc=>
  some vc
def H6 (p0:List AK)(p1:Int):Option Bool:=
 (
  if decide (0<=p1)=true then
   some (decide (p1<=Sh.len p0))
  else
   some false
 ).bind λt3=>
 some t3
def Fe (p0:List AK)(p1:List Int):Nat->Int->Option (Bool⊕Unit)
 |0,_=>none
 |n+1,t4=>
  if decide (t4<Sh.len p1)=true then
   (Sh.get p1 t4).bind λyS=>
   (H6 p0 yS).bind λyn=>
   if (!yn)=true then
    some (Sum.inl false)
   else
    Fe p0 p1 n (Sh.w (t4+1))
  else
   some (Sum.inr ())
def He (N:Nat)(p0:List AK)(p1:List Int):Option Bool:=
 Sh.cont (Fe p0 p1 N 0) id λ()=>
 some true
def EB (wh:AK)(l28:List AK):Nat->Int->Option (Bool⊕Unit)
 |0,_=>none
 |n+1,t29=>
  if decide (t29<Sh.len l28)=true then
   (Sh.get l28 t29).bind λc36=>
   (
    if decide ((Sh.len wh.cons)=0)=true then
     if decide ((Sh.len c36.cons)=0)=true then
      if decide (c36.from_=wh.from_)=true then
       some (decide (c36.to=wh.to))
      else
       some false
     else
      some false
    else
     some false
   ).bind λt38=>
   if t38=true then
    some (Sum.inl false)
   else
    EB wh l28 n (Sh.w (t29+1))
  else
   some (Sum.inr ())
def D8 (N:Nat)(wh:AK)(p0:List AK):Nat->Int->Option (Bool⊕Unit)
 |0,_=>none
 |n+1,t25=>
  if decide (t25<Sh.len wh.cons)=true then
   (Sh.get wh.cons t25).bind λza=>
   (
    if decide (3<Sh.len za.fields)=true then
     some true
    else
     (He N p0 za.fields).bind λq57=>
     some (!q57)
   ).bind λt52=>
   if t52=true then
    some (Sum.inl false)
   else
    D8 N wh p0 n (Sh.w (t25+1))
  else
   some (Sum.inr ())
def Eo (N:Nat)(p0:List AK):Nat->Int->Option (Bool⊕Unit)
 |0,_=>none
 |n+1,t8=>
  if decide (t8<Sh.len p0)=true then
   (Sh.get p0 t8).bind λwh=>
   (
    Option.bind (H6 p0 wh.from_) λq58=>
    if (!q58)=true then
     some true
    else
     (H6 p0 wh.to).bind λq60=>
     if (!q60)=true then
      some true
     else
     if decide (3<Sh.len wh.cons)=true then
      some true
     else
     if decide (0<Sh.len wh.cons)=true then
      if (!decide (wh.from_=0))=true then
       some true
      else
       some (!decide (wh.to=0))
     else
      some false
   ).bind λt19=>
   if t19=true then
    some (Sum.inl false)
   else
    Sh.cont (D8 N wh p0 N 0) (λx=>Sum.inl x) λ()=>
    (Sh.sl p0 0 t8).bind λl28=>
    Sh.cont (EB wh l28 N 0) (λx=>Sum.inl x) λ()=>
    Eo N p0 n (Sh.w (t8+1))
  else
   some (Sum.inr ())
def IU (N:Nat)(p0:List AK):Option Bool:=
 if decide (4<Sh.len p0)=true then
  some false
 else
  Sh.cont (Eo N p0 N 0) id λ()=>
  some true
def Ea (xV:By):Nat->Int->Option (Bool⊕Unit)
 |0,_=>none
 |n+1,t26=>
  if decide (t26<Sh.len xV.Gb)=true then
   (Sh.get xV.Gb t26).bind λc33=>
   (
    if decide (c33<0)=true then
     some true
    else
    if decide ((Sh.len xV.params)<=c33)=true then
     some true
    else
     (Sh.get xV.params c33).bind λc41=>
     if decide (c41=0)=true then
      some true
     else
     if decide (0<t26)=true then
      (Sh.get xV.Gb (Sh.w (t26-1))).bind λc44=>
      some (decide (c33<=c44))
     else
      some false
   ).bind λt35=>
   if t35=true then
    some (Sum.inl false)
   else
    Ea xV n (Sh.w (t26+1))
  else
   some (Sum.inr ())
def Ec (N:Nat)(p0:List AK)(p1:List By):Nat->Int->Option (Bool⊕Unit)
 |0,_=>none
 |n+1,t10=>
  if decide (t10<Sh.len p1)=true then
   (Sh.get p1 t10).bind λxV=>
   (
    if decide (3<Sh.len xV.params)=true then
     some true
    else
     (He N p0 xV.params).bind λq46=>
     if (!q46)=true then
      some true
     else
      (H6 p0 xV.result).bind λq48=>
      some (!q48)
   ).bind λt21=>
   if t21=true then
    some (Sum.inl false)
   else
    Sh.cont (Ea xV N 0) (λx=>Sum.inl x) λ()=>
    Ec N p0 p1 n (Sh.w (t10+1))
  else
   some (Sum.inr ())
def JB (N:Nat)(p0:List AK)(p1:List By):Option Bool:=
 (
  Option.bind (IU N p0) λyp=>
  if (!yp)=true then
   some true
  else
  if decide ((Sh.len p1)<1)=true then
   some true
  else
  if decide (4<Sh.len p1)=true then
   some true
  else
   (Sh.get p1 0).bind λc53=>
   if decide (0<Sh.len c53.params)=true then
    some true
   else
    some (!decide (c53.result=0))
 ).bind λt4=>
 if t4=true then
  some false
 else
  Sh.cont (Ec N p0 p1 N 0) id λ()=>
  some true
def E2 (p0:List AK):Nat->Int->Int->Option Int
 |0,_,_=>none
 |n+1,n5,t6=>
  if decide (t6<Sh.len p0)=true then
   (Sh.get p0 t6).bind λzZ=>
   E2 p0 n (Sh.w (n5+Sh.len zZ.cons)) (Sh.w (t6+1))
  else
   some n5
def J0 (N:Nat)(p0:List AK):Option Int:=
 (E2 p0 N 0 0).bind λn7=>
 some n7
def Fy (wx:AK)(vT:Int):Nat->Int->(List Int)->Option (List Int)
 |0,_,_=>none
 |n+1,t15,zb=>
  if decide (t15<Sh.len wx.cons)=true then
   (Sh.app zb [Sh.w (vT+t15)] 8).bind λl25=>
   Fy wx vT n (Sh.w (t15+1)) l25
  else
   some zb
def Iw (N:Nat)(p0:List AK)(p1:Int):Option (List Int):=
 (
  if decide (p1<1)=true then
   some true
  else
   some (decide ((Sh.len p0)<p1))
 ).bind λt4=>
 if t4=true then
  some []
 else
  (Sh.sl p0 0 (Sh.w (p1-1))).bind λl9=>
  (J0 N l9).bind λvT=>
  (Sh.get p0 (Sh.w (p1-1))).bind λwx=>
  (Fy wx vT N 0 []).bind λl17=>
  some l17
def Fo (p0:List AK):Nat->Int->Int->Option ((Int×D7) ⊕ Unit)
 |0,_,_=>none
 |n+1,c4,t5=>
  if decide (t5<Sh.len p0)=true then
   (Sh.get p0 t5).bind λc13=>
   (
    if decide (0<=c4)=true then
     some (decide (c4<Sh.len c13.cons))
    else
     some false
   ).bind λt16=>
   if t16=true then
    (Sh.get c13.cons c4).bind λc20=>
    some (Sum.inl (Sh.w (t5+1),c20))
   else
    Fo p0 n (Sh.w (c4-(Sh.len c13.cons))) (Sh.w (t5+1))
  else
   some (Sum.inr ())
def Ir (N:Nat)(p0:List AK)(p1:Int):Option (Int×D7):=
 Sh.cont (Fo p0 N p1 0) id λ()=>
 some (-1,D7.mk [])
def Eg (N:Nat)(p0:List AK)(p1:Int):Option (List Int):=
 (Ir N p0 p1).bind λq3=>
 some q3.2.fields
end RC
namespace RC
end RC
namespace RC
def O4 (p0:List AD)(uu:AD->Int->Option Int):Nat->Int->Int->Option (Int⊕Int)
 |0,_,_=>none
 |n+1,left9,i10=>
  if decide (i10<Sh.len p0)=true then
   (Sh.get p0 i10).bind λwR=>
   (uu wR left9).bind λvz=>
   if decide (vz<0)=true then
    some (Sum.inl (-1))
   else
    O4 p0 uu n vz (Sh.w (i10+1))
  else
   some (Sum.inr left9)
def Yu (N:Nat)(uu:AD->Int->Option Int)(p0:List AD)(p1:Int):Option Int:=
 if (decide ((Sh.w (p1-(Sh.len p0)))<0))=true then
  some (-1)
 else
  Sh.cont (O4 p0 uu N (Sh.w (p1-(Sh.len p0))) 0) id λze=>
  some ze
def YV (N:Nat)(uu:AD->Int->Option Int)(p0:AD)(p1:Int):Option Int:=
 (Yu N uu p0.kids p1).bind λq3=>
 if decide (q3<0)=true then
  some (-1)
 else
  some q3
def XF (N:Nat):Nat->AD->Int->Option Int
 |0,_,_=>none
 |n+1,p0,p1=>YV N (XF N n) p0 p1
def Dr (p0:AD)(uL:AD->Int->Option Int):Nat->Int->Int->Option (Int⊕Int)
 |0,_,_=>none
 |n+1,left9,i10=>
  if decide (i10<Sh.len p0.kids)=true then
   (Sh.get p0.kids i10).bind λwR=>
   (uL wR left9).bind λvz=>
   if decide (vz<0)=true then
    some (Sum.inl (-1))
   else
    Dr p0 uL n vz (Sh.w (i10+1))
  else
   some (Sum.inr left9)
def Jb (N:Nat)(uL:AD->Int->Option Int)(p0:AD)(p1:Int):Option Int:=
 if decide (p1<1)=true then
  some (-1)
 else
  Sh.cont (Dr p0 uL N (Sh.w (p1-1)) 0) id λze=>
  some ze
def Fh (N:Nat):Nat->AD->Int->Option Int
 |0,_,_=>none
 |n+1,p0,p1=>Jb N (Fh N n) p0 p1
def MV (N:Nat)(p0:AD)(p1:Int):Option Int:=Fh N N p0 p1
def HW (N:Nat)(p0:AD):Option Int:=
 (MV N p0 30).bind λq3=>
 if decide (q3<0)=true then
  some (-1)
 else
  some (Sh.w (30-q3))
def GH (p0:AJ)(p1:List Int)(p2:List AD)(p3:Int)(tp:AJ->(List Int)->AD->Option Int):Nat->Int->Option (Bool⊕Unit)
 |0,_=>none
 |n+1,i10=>
  if decide (i10<p3)=true then
   (Sh.get p2 i10).bind λxV=>
   (tp p0 p1 xV).bind λwF=>
   if (!decide (wF=0))=true then
    some (Sum.inl false)
   else
    GH p0 p1 p2 p3 tp n (Sh.w (i10+1))
  else
   some (Sum.inr ())
def JP (N:Nat)(tp:AJ->(List Int)->AD->Option Int)(p0:AJ)(p1:List Int)(p2:List AD)(p3:Int):Option Bool:=
 if (!decide ((Sh.len p2)=p3))=true then
  some false
 else
  Sh.cont (GH p0 p1 p2 p3 tp N 0) id λ()=>
  some true
def G3 (p0:AJ)(p1:List Int)(p2:List AD)(p3:List Int)(tp:AJ->(List Int)->AD->Option Int):Nat->Int->Option (Bool⊕Unit)
 |0,_=>none
 |n+1,i10=>
  if decide (i10<Sh.len p3)=true then
   (Sh.get p2 i10).bind λxV=>
   (tp p0 p1 xV).bind λwF=>
   (Sh.get p3 i10).bind λc20=>
   if (!decide (wF=c20))=true then
    some (Sum.inl false)
   else
    G3 p0 p1 p2 p3 tp n (Sh.w (i10+1))
  else
   some (Sum.inr ())
def Jv (N:Nat)(tp:AJ->(List Int)->AD->Option Int)(p0:AJ)(p1:List Int)(p2:List AD)(p3:List Int):Option Bool:=
 if (!decide ((Sh.len p2)=Sh.len p3))=true then
  some false
 else
  Sh.cont (G3 p0 p1 p2 p3 tp N 0) id λ()=>
  some true
def Fv (p0:List Int):Option (List Int):=
 (Sh.app ([]:List Int) p0 8).bind λl3=>
 some l3
def E3 (p0 p1:List Int):Option (List Int):=
 (Fv p0).bind λq3=>
 (Sh.app q3 p1 8).bind λl4=>
 some l4
def Eb (N:Nat)(p0:AJ)(p1:List Int)(p2:AD)(vm:Int)(q3:List Int)(tp:AJ->(List Int)->AD->Option Int):Nat->Int->Option (Int⊕Unit)
 |0,_=>none
 |n+1,i18=>
  if decide (i18<Sh.len q3)=true then
   (Sh.get q3 i18).bind λc26=>
   (Bs N p0.decls c26).bind λwy=>
   (E3 p1 wy).bind λwW=>
   (Sh.get p2.kids (Sh.w (1+i18))).bind λc29=>
   (tp p0 wW c29).bind λyK=>
   if (!decide (yK=vm))=true then
    some (Sum.inl (-1))
   else
    Eb N p0 p1 p2 vm q3 tp n (Sh.w (i18+1))
  else
   some (Sum.inr ())
def Kn (N:Nat)(tp:AJ->(List Int)->AD->Option Int)(p0:AJ)(p1:List Int)(p2:AD):Option Int:=
 (Gw N p0.decls p2.num).bind λq3=>
 (
  if decide ((Sh.len q3)=0)=true then
   some true
  else
  if (!decide ((Sh.len p2.kids)=Sh.w (1+Sh.len q3)))=true then
   some true
  else
   (Sh.get p2.kids 0).bind λc37=>
   (tp p0 p1 c37).bind λyU=>
   some (!decide (yU=p2.num))
 ).bind λt6=>
 if t6=true then
  some (-1)
 else
  (Sh.get q3 0).bind λc11=>
  (Bs N p0.decls c11).bind λwE=>
  (E3 p1 wE).bind λvW=>
  (Sh.get p2.kids 1).bind λwx=>
  (tp p0 vW wx).bind λvm=>
  Sh.cont (Eb N p0 p1 p2 vm q3 tp N 1) id λ()=>
  some vm
def FQ (p0:List AK)(p1 p2:Int):Nat->Int->Option (Int⊕Unit)
 |0,_=>none
 |n+1,i4=>
  if decide (i4<Sh.len p0)=true then
   (
    Option.bind (Sh.get p0 i4) λwh=>
    if decide ((Sh.len wh.cons)=0)=true then
     if decide (wh.from_=p1)=true then
      some (decide (wh.to=p2))
     else
      some false
    else
     some false
   ).bind λt12=>
   if t12=true then
    some (Sum.inl (Sh.w (i4+1)))
   else
    FQ p0 p1 p2 n (Sh.w (i4+1))
  else
   some (Sum.inr ())
def JM (N:Nat)(p0:List AK)(p1 p2:Int):Option Int:=
 Sh.cont (FQ p0 p1 p2 N 0) id λ()=>
 some (-1)
def Fm (N:Nat)(tp:AJ->(List Int)->AD->Option Int)(p0:AJ)(p1:List Int)(p2:AD):Option Int:=
 (Cw p2.num 0 (Sh.w ((Sh.len p0.funcs)-1))).bind λq4=>
 if (!q4)=true then
  some (-1)
 else
  (Sh.get p0.funcs p2.num).bind λyr=>
  if decide (p2.op=9)=true then
   (Jv N tp p0 p1 p2.kids yr.params).bind λwZ=>
   if (!wZ)=true then
    some (-1)
   else
    some yr.result
  else
   (
    if decide ((Sh.len yr.params)=0)=true then
     some true
    else
     (Sh.sl yr.params 0 (Sh.w ((Sh.len yr.params)-1))).bind λl33=>
     (Jv N tp p0 p1 p2.kids l33).bind λwA=>
     some (!wA)
   ).bind λt25=>
   if t25=true then
    some (-1)
   else
    (Sh.get yr.params (Sh.w ((Sh.len yr.params)-1))).bind λc30=>
    (JM N p0.decls c30 yr.result).bind λq31=>
    some q31
def HR (p0:List AK)(p1:Int):Option Bool:=
 (
  Option.bind (Cw p1 1 (Sh.len p0)) λq5=>
  if q5=true then
   (Sh.get p0 (Sh.w (p1-1))).bind λc7=>
   some (decide ((Sh.len c7.cons)=0))
  else
   some false
 ).bind λt3=>
 some t3
def Bt (N:Nat)(tp:AJ->(List Int)->AD->Option Int)(p0:AJ)(p1:List Int)(p2:AD):Option Int:=
 Sh.cont (
  if decide (p2.op=0)=true then
   (
    if decide ((Sh.len p2.kids)=0)=true then
     (Cw p2.num (-999) 999).bind λvm=>
     some vm
    else
     some false
   ).bind λt10=>
   if t10=true then
    some (Sum.inl 0)
   else
    some (Sum.inr ())
  else
  if decide (p2.op=12)=true then
   (
    if decide ((Sh.len p2.kids)=0)=true then
     (Cw p2.num 0 (Sh.w ((Sh.len p1)-1))).bind λxl=>
     some xl
    else
     some false
   ).bind λt19=>
   if t19=true then
    (Sh.get p1 p2.num).bind λc23=>
    some (Sum.inl c23)
   else
    some (Sum.inr ())
  else
   (
    if decide (p2.op=1)=true then
     some true
    else
    if decide (p2.op=2)=true then
     some true
    else
    if decide (p2.op=3)=true then
     some true
    else
     some (decide (p2.op=4))
   ).bind λt27=>
   if t27=true then
    (
     if decide (p2.num=0)=true then
      (JP N tp p0 p1 p2.kids 2).bind λq36=>
      some q36
     else
      some false
    ).bind λt31=>
    if t31=true then
     some (Sum.inl 0)
    else
     some (Sum.inr ())
   else
   if decide (p2.op=5)=true then
    (
     if decide (p2.num=0)=true then
      (JP N tp p0 p1 p2.kids 1).bind λq45=>
      some q45
     else
      some false
    ).bind λt40=>
    if t40=true then
     some (Sum.inl 0)
    else
     some (Sum.inr ())
   else
   if decide (p2.op=6)=true then
    (
     Option.bind (Gu N p0.decls p2.num) λq54=>
     if decide (0<q54)=true then
      (Bs N p0.decls p2.num).bind λq56=>
      (Jv N tp p0 p1 p2.kids q56).bind λq57=>
      some q57
     else
      some false
    ).bind λt49=>
    if t49=true then
     (Gu N p0.decls p2.num).bind λq53=>
     some (Sum.inl q53)
    else
     some (Sum.inr ())
   else
   if decide (p2.op=13)=true then
    (
     if decide (p2.num=0)=true then
      some (decide ((Sh.len p2.kids)=2))
     else
      some false
    ).bind λt61=>
    if t61=true then
     (Sh.get p2.kids 0).bind λc65=>
     (tp p0 p1 c65).bind λq66=>
     if decide (0<=q66)=true then
      (E3 p1 [q66]).bind λq70=>
      (Sh.get p2.kids 1).bind λc71=>
      (tp p0 q70 c71).bind λq72=>
      some (Sum.inl q72)
     else
      some (Sum.inr ())
    else
     some (Sum.inr ())
   else
   if decide (p2.op=7)=true then
    (
     if decide (p2.num=0)=true then
      if decide ((Sh.len p2.kids)=3)=true then
       (Sh.get p2.kids 0).bind λc90=>
       (tp p0 p1 c90).bind λq91=>
       some (decide (q91=0))
      else
       some false
     else
      some false
    ).bind λt77=>
    if t77=true then
     (Sh.get p2.kids 1).bind λc81=>
     (tp p0 p1 c81).bind λq82=>
     (Sh.get p2.kids 2).bind λc84=>
     (tp p0 p1 c84).bind λq85=>
     if decide (q85=q82)=true then
      some (Sum.inl q82)
     else
      some (Sum.inr ())
    else
     some (Sum.inr ())
   else
   if decide (p2.op=8)=true then
    (Kn N tp p0 p1 p2).bind λq95=>
    some (Sum.inl q95)
   else
    (
     if decide (p2.op=9)=true then
      some true
     else
      some (decide (p2.op=10))
    ).bind λt97=>
    if t97=true then
     (Fm N tp p0 p1 p2).bind λq101=>
     some (Sum.inl q101)
    else
    if decide (p2.op=11)=true then
     (
      if decide (p2.num=0)=true then
       some (decide ((Sh.len p2.kids)=2))
      else
       some false
     ).bind λt105=>
     if t105=true then
      (Sh.get p2.kids 0).bind λc109=>
      (tp p0 p1 c109).bind λq110=>
      (
       Option.bind (HR p0.decls q110) λq117=>
       if q117=true then
        (Sh.get p2.kids 1).bind λc119=>
        (tp p0 p1 c119).bind λq120=>
        (Sh.get p0.decls (Sh.w (q110-1))).bind λc121=>
        some (decide (q120=c121.from_))
       else
        some false
      ).bind λt112=>
      if t112=true then
       (Sh.get p0.decls (Sh.w (q110-1))).bind λc116=>
       some (Sum.inl c116.to)
      else
       some (Sum.inr ())
     else
      some (Sum.inr ())
    else
     some (Sum.inr ())
 ) id λ()=>
 some (-1)
def Cj (N:Nat):Nat->AJ->(List Int)->AD->Option Int
 |0,_,_,_=>none
 |n+1,p0,p1,p2=>Bt N (Cj N n) p0 p1 p2
def KJ (N:Nat)(p0:AJ)(p1:List Int)(p2:AD):Option Int:=Cj N N p0 p1 p2
def Bl (N:Nat)(p0:AJ):Nat->Int->Option (Bool⊕Unit)
 |0,_=>none
 |n+1,i11=>
  if decide (i11<Sh.len p0.funcs)=true then
   (
    Option.bind (Sh.get p0.funcs i11) λc23=>
    (HW N c23.body).bind λxm=>
    if decide (xm<0)=true then
     some true
    else
     (KJ N p0 c23.params c23.body).bind λxn=>
     some (!decide (xn=c23.result))
   ).bind λt19=>
   if t19=true then
    some (Sum.inl false)
   else
    Bl N p0 n (Sh.w (i11+1))
  else
   some (Sum.inr ())
def BM (N:Nat)(p0:AJ):Option Bool:=
 (Ht N p0).bind λq4=>
 if (!q4)=true then
  some false
 else
  Sh.cont (Bl N p0 N 0) id λ()=>
  some true
def Gn (p0:AD)(p1:Int)(vA:AD->Int->Option Int):Nat->Int->Int->Option Int
 |0,_,_=>none
 |n+1,n8,k9=>
  if decide (k9<Sh.len p0.kids)=true then
   (Sh.get p0.kids k9).bind λxP=>
   (vA xP p1).bind λwz=>
   Gn p0 p1 vA n (Sh.w (n8+wz)) (Sh.w (k9+1))
  else
   some n8
def P3 (N:Nat)(vA:AD->Int->Option Int)(p0:AD)(p1:Int):Option Int:=
 (
  Option.bind (
   if decide (p0.op=9)=true then
    some (decide (p0.num=p1))
   else
    some false
  ) λt20=>
  if t20=true then
   some 1
  else
   some 0
 ).bind λn4=>
 (Gn p0 p1 vA N n4 0).bind λn10=>
 some n10
def Ho (N:Nat):Nat->AD->Int->Option Int
 |0,_,_=>none
 |n+1,p0,p1=>P3 N (Ho N n) p0 p1
def R5 (N:Nat)(p0:AD)(p1:Int):Option Int:=Ho N N p0 p1
def Gl (N:Nat)(p0:AJ)(p1:Int):Nat->Int->Int->Option Int
 |0,_,_=>none
 |n+1,n11,i12=>
  if decide (i12<Sh.len p0.funcs)=true then
   (Sh.get p0.funcs i12).bind λc20=>
   (R5 N c20.body p1).bind λvB=>
   Gl N p0 p1 n (Sh.w (n11+vB)) (Sh.w (i12+1))
  else
   some n11
def Pu (N:Nat)(p0:AJ)(p1:Int):Option Int:=
 (
  Option.bind (BM N p0) λwV=>
  if (!wV)=true then
   some true
  else
   (Cw p1 0 (Sh.w ((Sh.len p0.funcs)-1))).bind λxm=>
   some (!xm)
 ).bind λt4=>
 if t4=true then
  some (-1)
 else
  (Gl N p0 p1 N 0 0).bind λn13=>
  some n13
def D2 (p0:AJ):Nat->Int->(List By)->Option (List By)
 |0,_,_=>none
 |n+1,t9,l10=>
  if decide (t9<Sh.len p0.funcs)=true then
   (Sh.get p0.funcs t9).bind λc20=>
   (Sh.app l10 ([By.mk c20.params [] c20.result]) 56).bind λl21=>
   D2 p0 n (Sh.w (t9+1)) l21
  else
   some l10
def Hn (N:Nat)(p0:AJ):Option Bool:=
 if decide (4<Sh.len p0.funcs)=true then
  some false
 else
  (D2 p0 N 0 []).bind λl11=>
  (JB N p0.decls l11).bind λyn=>
  some yn
def DP (p0:AD)(uJ:Int->AD->Option (Bool×Int)):Nat->Int->Int->Option ((Bool×Int) ⊕ Int)
 |0,_,_=>none
 |n+1,t9,f10=>
  if decide (t9<Sh.len p0.kids)=true then
   (Sh.get p0.kids t9).bind λwR=>
   (uJ f10 wR).bind λvB=>
   if (!vB.1)=true then
    some (Sum.inl (false,vB.2))
   else
    DP p0 uJ n (Sh.w (t9+1)) vB.2
  else
   some (Sum.inr f10)
def I1 (N:Nat)(uJ:Int->AD->Option (Bool×Int))(tl:Int)(p0:AD):Option (Bool×Int):=
 if decide (30<Sh.w (tl+1))=true then
  some (false,Sh.w (tl+1))
 else
  Sh.cont (DP p0 uJ N 0 (Sh.w (tl+1))) id λf11=>
  some (true,f11)
def FD (N:Nat):Nat->Int->AD->Option (Bool×Int)
 |0,_,_=>none
 |n+1,tl,p0=>I1 N (FD N n) tl p0
def Lt (N:Nat)(tl:Int)(p0:AD):Option (Bool×Int):=FD N N tl p0
def JN (N:Nat)(p0:AD):Option Int:=
 (Lt N 0 p0).bind λq5=>
 if (!q5.1)=true then
  some (-1)
 else
  some q5.2
def F5 (p0:AJ):Nat->Int->(List By)->Option (List By)
 |0,_,_=>none
 |n+1,t5,l6=>
  if decide (t5<Sh.len p0.funcs)=true then
   (Sh.get p0.funcs t5).bind λzZ=>
   (Sh.app l6 ([By.mk zZ.params [] zZ.result]) 56).bind λzb=>
   F5 p0 n (Sh.w (t5+1)) zb
  else
   some l6
def LU (N:Nat)(p0:AJ):Option (BO):=
 (F5 p0 N 0 []).bind λl7=>
 some (BO.mk p0.decls l7)
def Gy (p1:Int):Option (List Int):=
 if decide (p1<0)=true then
  none
 else
  (
   if (decide (0<Sh.w (p1-(Sh.w (0-0)))))=true then
    (Sh.mk 0 (Sh.w (p1-(Sh.w (0-0)))) 8).bind λzh=>
    (Sh.hi zh 0).bind λl13=>
    some l13
   else
    some []
  ).bind λl6=>
  some l6
def Cg (p0:List (List Int)):Nat->Int->(List Int)->Option (List Int)
 |0,_,_=>none
 |n+1,t13,vc=>
  if decide (t13<Sh.len p0)=true then
   (Sh.get p0 t13).bind λc23=>
   (Sh.app vc c23 8).bind λl24=>
   Cg p0 n (Sh.w (t13+1)) l24
  else
   some vc
def Cf (p0:List (List Int)):Nat->Int->Int->Option Int
 |0,_,_=>none
 |n+1,size5,t6=>
  if decide (t6<Sh.len p0)=true then
   (Sh.get p0 t6).bind λc30=>
   if (decide ((Sh.w (size5+Sh.len c30))<0))=true then
    none
   else
    Cf p0 n (Sh.w (size5+Sh.len c30)) (Sh.w (t6+1))
  else
   some size5
def GX (N:Nat)(p0:List (List Int)):Option (List Int):=
 (Cf p0 N 0 0).bind λsize7=>
 (Gy size7).bind λvT=>
 (Cg p0 N 0 vT).bind λzi=>
 some zi
def Bh (N:Nat)(p0:BO)(p1:List Int)(p2:List AD)(p3:List (List Int))(tq:(List Int)->BO->AD->Option Int):Nat->Int->Int->Option (Int⊕Int)
 |0,_,_=>none
 |n+1,uZ,t6=>
  if decide (t6<Sh.len p2)=true then
   (Sh.get p2 t6).bind λzZ=>
   (Sh.get p3 t6).bind λxP=>
   (GX N [p1,xP]).bind λwz=>
   (tq wz p0 zZ).bind λwF=>
   (
    if decide (wF<0)=true then
     some true
    else
    if decide (0<t6)=true then
     some (!decide (wF=uZ))
    else
     some false
   ).bind λt23=>
   if t23=true then
    some (Sum.inl (-1))
   else
    Bh N p0 p1 p2 p3 tq n wF (Sh.w (t6+1))
  else
   some (Sum.inr uZ)
def Ei (N:Nat)(tq:(List Int)->BO->AD->Option Int)(p0:BO)(p1:List Int)(p2:List AD)(p3:List (List Int)):Option Int:=
 Sh.cont (Bh N p0 p1 p2 p3 tq N (-1) 0) id λwG=>
 some wG
def Kc (p0:List AK)(p1:Int):Option (AK×Bool):=
 (
  if decide (p1<1)=true then
   some true
  else
  if decide ((Sh.len p0)<p1)=true then
   some true
  else
   (Sh.get p0 (Sh.w (p1-1))).bind λyS=>
   some (decide (0<Sh.len yS.cons))
 ).bind λt4=>
 if t4=true then
  some (AK.mk 0 0 [],false)
 else
  (Sh.get p0 (Sh.w (p1-1))).bind λc9=>
  some (c9,true)
def DD (p0 p1:List Int):Nat->Int->Option (Bool⊕Unit)
 |0,_=>none
 |n+1,t10=>
  if decide (t10<Sh.len p0)=true then
   (Sh.get p0 t10).bind λwR=>
   (Sh.get p1 t10).bind λc20=>
   if (!decide (wR=c20))=true then
    some (Sum.inl false)
   else
    DD p0 p1 n (Sh.w (t10+1))
  else
   some (Sum.inr ())
def DR (N:Nat)(p0 p1:List Int):Option Bool:=
 if (!decide ((Sh.len p0)=Sh.len p1))=true then
  some false
 else
  Sh.cont (DD p0 p1 N 0) id λ()=>
  some true
def FO (p0:List AK)(p1 p2:Int):Nat->Int->Option (Int⊕Unit)
 |0,_=>none
 |n+1,t4=>
  if decide (t4<Sh.len p0)=true then
   (Sh.get p0 t4).bind λyS=>
   (
    if decide ((Sh.len yS.cons)=0)=true then
     if decide (yS.from_=p1)=true then
      some (decide (yS.to=p2))
     else
      some false
    else
     some false
   ).bind λt14=>
   if t14=true then
    some (Sum.inl (Sh.w (t4+1)))
   else
    FO p0 p1 p2 n (Sh.w (t4+1))
  else
   some (Sum.inr ())
def Kb (N:Nat)(p0:List AK)(p1 p2:Int):Option Int:=
 Sh.cont (FO p0 p1 p2 N 0) id λ()=>
 some (-1)
def BH (N:Nat)(p0:BO)(p1 p2:Int)(p3:List Int):Option (Int×Bool):=
 Sh.cont (
  if decide (p1=0)=true then
   (
    if decide ((-999)<=p2)=true then
     if decide (p2<=999)=true then
      some (decide ((Sh.len p3)=0))
     else
      some false
    else
     some false
   ).bind λt15=>
   some (Sum.inl (0,t15))
  else
   (
    if decide (p1=1)=true then
     some true
    else
    if decide (p1=2)=true then
     some true
    else
    if decide (p1=3)=true then
     some true
    else
     some (decide (p1=4))
   ).bind λt20=>
   if t20=true then
    some (Sum.inr [(0:Int),0])
   else
   if decide (p1=5)=true then
    some (Sum.inr [(0:Int)])
   else
   if decide (p1=11)=true then
    if (!decide ((Sh.len p3)=2))=true then
     some (Sum.inl (-1,false))
    else
     (Sh.get p3 0).bind λc34=>
     (Kc p0.decls c34).bind λyL=>
     (
      if yL.2=true then
       (Sh.get p3 1).bind λc41=>
       if decide (c41=yL.1.from_)=true then
        some (decide (p2=0))
       else
        some false
      else
       some false
     ).bind λt38=>
     some (Sum.inl (yL.1.to,t38))
   else
   if decide (p1=6)=true then
    (Ir N p0.decls p2).bind λq40=>
    (
     if decide (0<=q40.1)=true then
      (DR N p3 q40.2.fields).bind λq45=>
      some q45
     else
      some false
    ).bind λt42=>
    some (Sum.inl (q40.1,t42))
   else
    (
     if decide (p1=9)=true then
      some true
     else
      some (decide (p1=10))
    ).bind λt47=>
    if t47=true then
     (
      if decide (p2<0)=true then
       some true
      else
       some (decide ((Sh.len p0.funcs)<=p2))
     ).bind λt52=>
     if t52=true then
      some (Sum.inl (-1,false))
     else
      (Sh.get p0.funcs p2).bind λc57=>
      if decide (p1=9)=true then
       (DR N p3 c57.params).bind λq62=>
       some (Sum.inl (c57.result,q62))
      else
      if (decide ((Sh.w ((Sh.len c57.params)-1))<0))=true then
       some (Sum.inl (-1,false))
      else
       (Sh.get c57.params (Sh.w ((Sh.len c57.params)-1))).bind λc69=>
       (Kb N p0.decls c69 c57.result).bind λq70=>
       (
        if decide (0<=q70)=true then
         (Sh.sl c57.params 0 (Sh.w ((Sh.len c57.params)-1))).bind λl75=>
         (DR N p3 l75).bind λq76=>
         some q76
        else
         some false
       ).bind λt72=>
       some (Sum.inl (q70,t72))
    else
     some (Sum.inl (-1,false))
 ) id λl4=>
 (
  if decide (p2=0)=true then
   (DR N p3 l4).bind λvT=>
   some vT
  else
   some false
 ).bind λt7=>
 some (0,t7)
def CA (N:Nat)(p0:BO)(q56:List Int):Nat->Int->(List (List Int))->Option (List (List Int))
 |0,_,_=>none
 |n+1,t67,l68=>
  if decide (t67<Sh.len q56)=true then
   (Sh.get q56 t67).bind λc79=>
   (Eg N p0.decls c79).bind λq80=>
   (Sh.get l68 t67).bind λc81=>
   CA N p0 q56 n (Sh.w (t67+1)) (Sh.put l68 t67 q80)
  else
   some l68
def CB (s0:List Int)(p0:BO)(p2:AD)(tq:(List Int)->BO->AD->Option Int):Nat->Int->(List Int)->Option ((Int) ⊕ (List Int))
 |0,_,_=>none
 |n+1,t90,l91=>
  if decide (t90<Sh.len p2.kids)=true then
   (Sh.get p2.kids t90).bind λc108=>
   (tq s0 p0 c108).bind λq110=>
   (Sh.get l91 t90).bind λc111=>
   (Sh.get (Sh.put l91 t90 q110) t90).bind λc113=>
   if decide (c113<0)=true then
    some (Sum.inl (-1))
   else
    CB s0 p0 p2 tq n (Sh.w (t90+1)) (Sh.put l91 t90 q110)
  else
   some (Sum.inr l91)
def Al (N:Nat)(tq:(List Int)->BO->AD->Option Int)(s0:List Int)(p0:BO)(p2:AD):Option Int:=
 if decide (p2.op=12)=true then
  (
   if decide (0<Sh.len p2.kids)=true then
    some true
   else
   if decide (p2.num<0)=true then
    some true
   else
    some (decide ((Sh.len s0)<=p2.num))
  ).bind λt8=>
  if t8=true then
   some (-1)
  else
   (Sh.get s0 p2.num).bind λc13=>
   some c13
 else
 if decide (p2.op=13)=true then
  (
   if (!decide ((Sh.len p2.kids)=2))=true then
    some true
   else
    some (!decide (p2.num=0))
  ).bind λt20=>
  if t20=true then
   some (-1)
  else
   (Sh.get p2.kids 0).bind λc25=>
   (tq s0 p0 c25).bind λxn=>
   if decide (xn<0)=true then
    some (-1)
   else
    (Sh.app s0 [xn] 8).bind λl32=>
    (Sh.get p2.kids 1).bind λc33=>
    (tq l32 p0 c33).bind λwA=>
    some wA
 else
 if decide (p2.op=7)=true then
  (
   if (!decide ((Sh.len p2.kids)=3))=true then
    some true
   else
   if (!decide (p2.num=0))=true then
    some true
   else
    (Sh.get p2.kids 0).bind λc51=>
    (tq s0 p0 c51).bind λq52=>
    some (!decide (q52=0))
  ).bind λt41=>
  if t41=true then
   some (-1)
  else
   (Sh.sl p2.kids 1 (Sh.len p2.kids)).bind λl46=>
   (Sh.mk [] 2 24).bind λl47=>
   (Ei N tq p0 s0 l46 l47).bind λq48=>
   some q48
 else
 if decide (p2.op=8)=true then
  (Iw N p0.decls p2.num).bind λq56=>
  (
   if decide ((Sh.len q56)=0)=true then
    some true
   else
   if (!decide ((Sh.len p2.kids)=Sh.w (1+Sh.len q56)))=true then
    some true
   else
    (Sh.get p2.kids 0).bind λc84=>
    (tq s0 p0 c84).bind λq85=>
    some (!decide (q85=p2.num))
  ).bind λt59=>
  if t59=true then
   some (-1)
  else
   (Sh.mk [] (Sh.len q56) 24).bind λl64=>
   (CA N p0 q56 N 0 l64).bind λl69=>
   (Sh.sl p2.kids 1 (Sh.len p2.kids)).bind λl72=>
   (Ei N tq p0 s0 l72 l69).bind λq73=>
   some q73
 else
  (Sh.mk 0 (Sh.len p2.kids) 8).bind λl87=>
  Sh.cont (CB s0 p0 p2 tq N 0 l87) id λl92=>
  (BH N p0 p2.op p2.num l92).bind λq95=>
  if (!q95.2)=true then
   some (-1)
  else
   some q95.1
def Bc (N:Nat):Nat->(List Int)->BO->AD->Option Int
 |0,_,_,_=>none
 |n+1,s0,p0,p2=>Al N (Bc N n) s0 p0 p2
def IY (N:Nat)(s0:List Int)(p0:BO)(p2:AD):Option Int:=Bc N N s0 p0 p2
def Mz (N:Nat)(p0:AJ)(p1:List Int)(p2:AD):Option Int:=
 (
  Option.bind (Hn N p0) λvW=>
  if (!vW)=true then
   some true
  else
   (JN N p2).bind λvm=>
   if decide (vm<0)=true then
    some true
   else
    (He N p0.decls p1).bind λwZ=>
    some (!wZ)
 ).bind λt4=>
 if t4=true then
  some (-1)
 else
  (LU N p0).bind λq9=>
  (CN p1).bind λvT=>
  (IY N vT q9 p2).bind λvb=>
  some vb
def D6 (N:Nat)(p0:AJ):Nat->Int->Option (Bool⊕Unit)
 |0,_=>none
 |n+1,t11=>
  if decide (t11<Sh.len p0.funcs)=true then
   (Sh.get p0.funcs t11).bind λwR=>
   (Mz N p0 wR.params wR.body).bind λvB=>
   if (!decide (vB=wR.result))=true then
    some (Sum.inl false)
   else
    D6 N p0 n (Sh.w (t11+1))
  else
   some (Sum.inr ())
def CI (N:Nat)(p0:AJ):Option Bool:=
 (Hn N p0).bind λq4=>
 if (!q4)=true then
  some false
 else
  Sh.cont (D6 N p0 N 0) id λ()=>
  some true
def JX (tl uA:Int)(p0:AD):Option Int:=
 (
  if decide (p0.op=9)=true then
   some (decide (p0.num=tl))
  else
   some false
 ).bind λt3=>
 if t3=true then
  some (Sh.w (uA+1))
 else
  some uA
def F3 (p0:AD)(uj:Int->Int->AD->Option (Int×Int)):Nat->Int->Int->Int->Option (Int×Int)
 |0,_,_,_=>none
 |n+1,t6,f7,f8=>
  if decide (t6<Sh.len p0.kids)=true then
   (Sh.get p0.kids t6).bind λxP=>
   (uj f7 f8 xP).bind λwz=>
   F3 p0 uj n (Sh.w (t6+1)) wz.1 wz.2
  else
   some (f7,f8)
def Mo (N:Nat)(uj:Int->Int->AD->Option (Int×Int))(tl uA:Int)(p0:AD):Option (Int×Int):=
 (JX tl uA p0).bind λq3=>
 (F3 p0 uj N 0 tl q3).bind λ(f9,f10)=>
 some (f9,f10)
def IB (N:Nat):Nat->Int->Int->AD->Option (Int×Int)
 |0,_,_,_=>none
 |n+1,tl,uA,p0=>Mo N (IB N n) tl uA p0
def Sp (N:Nat)(tl uA:Int)(p0:AD):Option (Int×Int):=IB N N tl uA p0
def EV (N:Nat)(p0:AJ):Nat->Int->Int->Int->Option Int
 |0,_,_,_=>none
 |n+1,t11,f12,f13=>
  if decide (t11<Sh.len p0.funcs)=true then
   (Sh.get p0.funcs t11).bind λc22=>
   (Sp N f12 f13 c22.body).bind λvf=>
   EV N p0 n (Sh.w (t11+1)) vf.1 vf.2
  else
   some f13
def JI (N:Nat)(p0:AJ)(p1:Int):Option Int:=
 (
  Option.bind (CI N p0) λxm=>
  if (!xm)=true then
   some true
  else
  if decide (p1<0)=true then
   some true
  else
   some (decide ((Sh.len p0.funcs)<=p1))
 ).bind λt4=>
 if t4=true then
  some (-1)
 else
  (EV N p0 N 0 p1 0).bind λf14=>
  some f14
end RC
namespace RC
end RC
namespace RC
end RC
namespace RC
end RC
namespace RC
def Df (p0:List Int)(p1:Int):Nat->Bool->Int->(List Int)->Option (Bool×(List Int))
 |0,_,_,_=>none
 |n+1,done6,i7,l8=>
  if decide (i7<Sh.len p0)=true then
   (
    Option.bind (
     if (!done6)=true then
      (Sh.get p0 i7).bind λc43=>
      some (decide (p1<=c43))
     else
      some false
    ) λt32=>
    if t32=true then
     (
      Option.bind (Sh.get p0 i7) λc39=>
      if decide (p1<c39)=true then
       (Sh.app l8 [p1] 8).bind λl41=>
       some l41
      else
       some l8
     ).bind λl36=>
     some (true,l36)
    else
     some (done6,l8)
   ).bind λ(done26,l27)=>
   (Sh.get p0 i7).bind λc29=>
   (Sh.app l27 [c29] 8).bind λl30=>
   Df p0 p1 n done26 (Sh.w (i7+1)) l30
  else
   some (done6,l8)
def Hz (N:Nat)(p0:List Int)(p1:Int):Option (List Int):=
 (Df p0 p1 N false 0 []).bind λ(done9,l10)=>
 (
  if (!done9)=true then
   (Sh.app l10 [p1] 8).bind λl19=>
   some l19
  else
   some l10
 ).bind λl13=>
 some l13
end RC
namespace RC
def Dv (p0:AD)(uM:AD->(List Int)->Option (List Int)):Nat->(List Int)->Int->Option (List Int)
 |0,_,_=>none
 |n+1,list7,i8=>
  if decide (i8<Sh.len p0.kids)=true then
   (Sh.get p0.kids i8).bind λwh=>
   (uM wh list7).bind λwZ=>
   Dv p0 uM n wZ (Sh.w (i8+1))
  else
   some list7
def Ji (N:Nat)(uM:AD->(List Int)->Option (List Int))(p0:AD)(p1:List Int):Option (List Int):=
 (
  Option.bind (
   if decide (p0.op=9)=true then
    some true
   else
    some (decide (p0.op=10))
  ) λt19=>
  if t19=true then
   (Hz N p1 p0.num).bind λwV=>
   some wV
  else
   some p1
 ).bind λlist3=>
 (Dv p0 uM N list3 0).bind λlist9=>
 some list9
def Ff (N:Nat):Nat->AD->(List Int)->Option (List Int)
 |0,_,_=>none
 |n+1,p0,p1=>Ji N (Ff N n) p0 p1
def I7 (N:Nat)(p0:AD)(p1:List Int):Option (List Int):=Ff N N p0 p1
def Ej (p0:List Int)(p1:Int):Nat->Int->Option (Bool⊕Unit)
 |0,_=>none
 |n+1,i4=>
  if decide (i4<Sh.len p0)=true then
   (Sh.get p0 i4).bind λyS=>
   if decide (yS=p1)=true then
    some (Sum.inl true)
   else
    Ej p0 p1 n (Sh.w (i4+1))
  else
   some (Sum.inr ())
def HB (N:Nat)(p0:List Int)(p1:Int):Option Bool:=
 Sh.cont (Ej p0 p1 N 0) id λ()=>
 some false
def Du (N:Nat)(yK:List Int):Nat->Int->(List Int)->Option (List Int)
 |0,_,_=>none
 |n+1,k33,l34=>
  if decide (k33<Sh.len yK)=true then
   (Sh.get yK k33).bind λc41=>
   (Hz N l34 c41).bind λq42=>
   Du N yK n (Sh.w (k33+1)) q42
  else
   some l34
def Dw (N:Nat)(p0:AJ):Nat->Int->(List Int)->Option (List Int)
 |0,_,_=>none
 |n+1,i15,zb=>
  if decide (i15<Sh.len p0.funcs)=true then
   (
    Option.bind (HB N zb i15) λxn=>
    if xn=true then
     (Sh.get p0.funcs i15).bind λc29=>
     (I7 N c29.body ([]:List Int)).bind λyK=>
     (Du N yK N 0 zb).bind λl35=>
     some l35
    else
     some zb
   ).bind λl23=>
   Dw N p0 n (Sh.w (i15+1)) l23
  else
   some zb
def Dt (N:Nat)(p0:AJ):Nat->Int->(List Int)->Option (List Int)
 |0,_,_=>none
 |n+1,vN,l6=>
  if decide (vN<Sh.len p0.funcs)=true then
   (Dw N p0 N 0 l6).bind λl17=>
   Dt N p0 n (Sh.w (vN+1)) l17
  else
   some l6
def Hv (N:Nat)(p0:AJ)(p1:Int):Option (List Int):=
 (Dt N p0 N 0 [p1]).bind λl7=>
 some l7
def DN (N:Nat)(p0:AJ)(p1:Int)(vb:List Int):Nat->Int->Option (Bool⊕Unit)
 |0,_=>none
 |n+1,i14=>
  if decide (i14<Sh.len vb)=true then
   (Sh.get vb i14).bind λc22=>
   (Hv N p0 c22).bind λvf=>
   (HB N vf p1).bind λxm=>
   if xm=true then
    some (Sum.inl false)
   else
    DN N p0 p1 vb n (Sh.w (i14+1))
  else
   some (Sum.inr ())
def Di (N:Nat)(p0:AJ)(p1:Int):Option Bool:=
 (Cw p1 1 (Sh.w ((Sh.len p0.funcs)-1))).bind λq4=>
 if (!q4)=true then
  some false
 else
  (Sh.get p0.funcs p1).bind λyr=>
  (I7 N yr.body ([]:List Int)).bind λvb=>
  Sh.cont (DN N p0 p1 vb N 0) id λ()=>
  some true
def Fx (N:Nat)(p0:AJ)(p1:Int):Option Bool:=
 (
  Option.bind (BM N p0) λq5=>
  if q5=true then
   (Di N p0 p1).bind λq7=>
   some q7
  else
   some false
 ).bind λt3=>
 some t3
def Jh (s1:List Bool)(p0:AD):Option (List Bool):=
 (
  if decide (p0.op=9)=true then
   some true
  else
   some (decide (p0.op=10))
 ).bind λt3=>
 if t3=true then
  (Sh.get s1 p0.num).bind λc6=>
  some (Sh.put s1 p0.num true)
 else
  some s1
def E5 (p0:AD)(uX:(List Bool)->AD->Option (List Bool)):Nat->Int->(List Bool)->Option (List Bool)
 |0,_,_=>none
 |n+1,t6,l7=>
  if decide (t6<Sh.len p0.kids)=true then
   (Sh.get p0.kids t6).bind λzZ=>
   (uX l7 zZ).bind λwL=>
   E5 p0 uX n (Sh.w (t6+1)) wL
  else
   some l7
def LS (N:Nat)(uX:(List Bool)->AD->Option (List Bool))(s1:List Bool)(p0:AD):Option (List Bool):=
 (Jh s1 p0).bind λq3=>
 (E5 p0 uX N 0 q3).bind λl8=>
 some l8
def Gz (N:Nat):Nat->(List Bool)->AD->Option (List Bool)
 |0,_,_=>none
 |n+1,s1,p0=>LS N (Gz N n) s1 p0
def Pb (N:Nat)(s1:List Bool)(p0:AD):Option (List Bool):=Gz N N s1 p0
def Hr (N:Nat)(p0:AJ)(p1:Int):Option (List Bool):=
 (Sh.mk false (Sh.len p0.funcs) 1).bind λl3=>
 (Sh.get p0.funcs p1).bind λc5=>
 (Pb N l3 c5.body).bind λq6=>
 some q6
def EZ (p0:List Bool):Nat->Int->(List Int)->Option (List Int)
 |0,_,_=>none
 |n+1,t5,l6=>
  if decide (t5<Sh.len p0)=true then
   (
    Option.bind (Sh.get p0 t5) λxP=>
    if xP=true then
     (Sh.app l6 [t5] 8).bind λl20=>
     some l20
    else
     some l6
   ).bind λvc=>
   EZ p0 n (Sh.w (t5+1)) vc
  else
   some l6
def Ge (N:Nat)(p0:List Bool):Option (List Int):=
 (EZ p0 N 0 []).bind λl7=>
 some l7
def G9 (N:Nat)(p0:AJ)(p1:Int):Option (List Int):=
 (
  Option.bind (CI N p0) λvb=>
  if (!vb)=true then
   some true
  else
  if decide (p1<0)=true then
   some true
  else
   some (decide ((Sh.len p0.funcs)<=p1))
 ).bind λt4=>
 if t4=true then
  some []
 else
  (Hr N p0 p1).bind λq9=>
  (Ge N q9).bind λvT=>
  some vT
def Dq (wy:List Int):Nat->Int->(List Bool)->(List Int)->Option ((List Bool)×(List Int))
 |0,_,_,_=>none
 |n+1,t28,l29,l30=>
  if decide (t28<Sh.len wy)=true then
   (
    Option.bind (Sh.get wy t28) λc43=>
    (Sh.get l29 c43).bind λc45=>
    if (!c45)=true then
     (Sh.app l30 [c43] 8).bind λl49=>
     some (Sh.put l29 c43 true,l49)
    else
     some (l29,l30)
   ).bind λ(l39,l40)=>
   Dq wy n (Sh.w (t28+1)) l39 l40
  else
   some (l29,l30)
def FK (N:Nat)(p0:AJ):Nat->(List Bool)->(List Int)->Option (List Bool)
 |0,_,_=>none
 |n+1,vc,zi=>
  if decide (0<Sh.len zi)=true then
   (Sh.get zi 0).bind λc25=>
   (Hr N p0 c25).bind λxn=>
   (Ge N xn).bind λwy=>
   (Dq wy N 0 vc zi).bind λ(l31,l32)=>
   (Sh.sl l32 1 (Sh.len l32)).bind λl34=>
   FK N p0 n l31 l34
  else
   some vc
def H4 (N:Nat)(p0:AJ)(p1:Int):Option (List Int):=
 (
  Option.bind (CI N p0) λq51=>
  if (!q51)=true then
   some true
  else
  if decide (p1<0)=true then
   some true
  else
   some (decide ((Sh.len p0.funcs)<=p1))
 ).bind λt4=>
 if t4=true then
  some []
 else
  (Sh.mk false (Sh.len p0.funcs) 1).bind λl9=>
  (Sh.get l9 p1).bind λc11=>
  (FK N p0 N (Sh.put l9 p1 true) [p1]).bind λzb=>
  (Ge N zb).bind λwF=>
  some wF
def CP (p0:List Int)(p1:Int):Nat->Int->Option (Int⊕Unit)
 |0,_=>none
 |n+1,t4=>
  if decide (t4<Sh.len p0)=true then
   (Sh.get p0 t4).bind λc13=>
   if decide (p1=c13)=true then
    some (Sum.inl t4)
   else
    CP p0 p1 n (Sh.w (t4+1))
  else
   some (Sum.inr ())
def Hh (N:Nat)(p0:List Int)(p1:Int):Option Int:=
 Sh.cont (CP p0 p1 N 0) id λ()=>
 some (-1)
def Fq (N:Nat)(p0:List Int)(p1:Int):Option Bool:=
 (Hh N p0 p1).bind λq3=>
 some (decide (0<=q3))
def DM (N:Nat)(p0:AJ)(p1:Int)(vT:List Int):Nat->Int->Option (Bool⊕Unit)
 |0,_=>none
 |n+1,t11=>
  if decide (t11<Sh.len vT)=true then
   (Sh.get vT t11).bind λwR=>
   (H4 N p0 wR).bind λvB=>
   (Fq N vB p1).bind λwV=>
   if wV=true then
    some (Sum.inl false)
   else
    DM N p0 p1 vT n (Sh.w (t11+1))
  else
   some (Sum.inr ())
def Dk (N:Nat)(p0:AJ)(p1:Int):Option Bool:=
 (
  Option.bind (CI N p0) λxl=>
  if (!xl)=true then
   some true
  else
  if decide (p1<1)=true then
   some true
  else
   some (decide ((Sh.len p0.funcs)<=p1))
 ).bind λt4=>
 if t4=true then
  some false
 else
  (G9 N p0 p1).bind λvT=>
  Sh.cont (DM N p0 p1 vT N 0) id λ()=>
  some true
end RC
namespace RC
def DY (p0:List AK):Option (List AK):=
 (Sh.app ([]:List AK) p0 40).bind λl6=>
 some l6
def DA (p0:List D7):Option (List D7):=
 (Sh.app ([]:List D7) p0 24).bind λl6=>
 some l6
end RC
namespace RC
def Er (cs:List D7):Nat->Int->List D7->Option (List D7)
 |0,_,_=>none
 |n+1,i,q=>
  if decide (i<Sh.len cs)=true then
   (Sh.get cs i).bind λc=>
   (CN c.fields).bind λf=>
   (Sh.get q i).bind λ_=>
   Er cs n (Sh.w (i+1)) (Sh.put q i (D7.mk f))
  else some q
def En (N:Nat)(m:Int):Nat->Int->List AK->Option (List AK)
 |0,_,_=>none
 |n+1,t,l=>
  if decide (t<m)=true then
   (Sh.get l t).bind λd=>
   (DA d.cons).bind λvB=>
   (Er d.cons N 0 vB).bind λq=>
   En N m n (Sh.w (t+1)) (Sh.put l t (AK.mk d.from_ d.to q))
  else some l
def Ij (N:Nat)(p0:List AK):Option (List AK):=
 (DY p0).bind λq9=>
 (En N (Sh.len q9) N 0 q9).bind λl=>
 some l
end RC
namespace RC
def EY (i5:Int)(p0:List AK):Nat->Int->(List D7)->Option (List D7)
 |0,_,_=>none
 |n+1,k17,l18=>
  (Sh.get p0 i5).bind λc25=>
  if decide (k17<Sh.len c25.cons)=true then
   (Sh.get c25.cons k17).bind λc28=>
   (Fv c28.fields).bind λzF=>
   (Sh.app l18 [D7.mk zF] 24).bind λl30=>
   EY i5 p0 n (Sh.w (k17+1)) l30
  else
   some l18
def FE (N:Nat)(p0:List AK):Nat->Int->(List AK)->Option (List AK)
 |0,_,_=>none
 |n+1,i5,l6=>
  if decide (i5<Sh.len p0)=true then
   (EY i5 p0 N 0 []).bind λl19=>
   (Sh.get p0 i5).bind λc21=>
   (Sh.app l6 [AK.mk c21.from_ c21.to l19] 40).bind λl22=>
   FE N p0 n (Sh.w (i5+1)) l22
  else
   some l6
def I4 (N:Nat)(p0:List AK):Option (List AK):=
 (FE N p0 N 0 []).bind λl7=>
 some l7
end RC
namespace RC
def JF (p0:List Int):Option ((List Int)×Int):=
 (
  if decide (2000<Sh.len p0)=true then
   (Sh.sl p0 0 2000).bind λl8=>
   some l8
  else
   some p0
 ).bind λcode3=>
 some (code3,0)
def Fk (p0:List Int):Option (D7):=
 some (D7.mk p0)
def Az (tl:List Int)(tr p1:Int):Option (Int×Int):=
 (
  if decide (p1<1)=true then
   some true
  else
   some (decide ((Sh.len tl)=0))
 ).bind λt5=>
 if t5=true then
  some (0,Sh.w (tr+1))
 else
 if (decide ((Sh.w ((Sh.w (tr+1))-1))<Sh.len tl))=true then
  (Sh.get tl (Sh.w ((Sh.w (tr+1))-1))).bind λwx=>
  (Sh.rem (Sh.wk .i64 wx) p1).bind λd15=>
  some (d15,Sh.w (tr+1))
 else
  (Sh.rem (Sh.w ((Sh.w (tr+1))-1)) (Sh.len tl)).bind λd17=>
  (Sh.get tl d17).bind λxV=>
  (Sh.rem (Sh.w ((Sh.w ((Sh.w ((Sh.w (tr+1))-1))*7))+3)) (Sh.len tl)).bind λd19=>
  (Sh.get tl d19).bind λc20=>
  (Sh.quo (Sh.w ((Sh.w (tr+1))-1)) (Sh.len tl)).bind λd21=>
  (Sh.rem (Sh.xor (Sh.w ((Sh.w ((Sh.w ((Sh.w ((Sh.wk .i64 xV)*131))+Sh.w ((Sh.wk .i64 c20)*1117)))+Sh.w ((Sh.w ((Sh.w (tr+1))-1))*29)))+Sh.w (d21*53))) (Sh.w (Int.tdiv (Sh.w ((Sh.w ((Sh.w ((Sh.w ((Sh.wk .i64 xV)*131))+Sh.w ((Sh.wk .i64 c20)*1117)))+Sh.w ((Sh.w ((Sh.w (tr+1))-1))*29)))+Sh.w (d21*53))) 64))) p1).bind λd24=>
  some (d24,Sh.w (tr+1))
def Hu (tl:List Int)(tr:Int):Option ((List AK)×Int):=
 (Fk ([]:List Int)).bind λq3=>
 (Fk [(0:Int),1]).bind λq4=>
 (Fk ([]:List Int)).bind λq6=>
 (Fk [(3:Int),0,3]).bind λq7=>
 (Fk [(1:Int),3]).bind λq9=>
 (Fk [(1:Int),1,0]).bind λvT=>
 (Fk [(0:Int)]).bind λvb=>
 (Fk [(3:Int)]).bind λwE=>
 (Az tl tr 5).bind λvm=>
 (
  if decide (vm.1<4)=true then
   (Sh.get ([AK.mk 0 0 [q9],AK.mk 1 0 [],AK.mk 0 0 [vT,vb,wE],AK.mk 0 1 []]) vm.1).bind λc22=>
   (Sh.app ([AK.mk 0 0 [q3,q4],AK.mk 0 0 [],AK.mk 0 0 [q6,q7]]) [c22] 40).bind λl23=>
   some l23
  else
   some ([AK.mk 0 0 [q3,q4],AK.mk 0 0 [],AK.mk 0 0 [q6,q7]])
 ).bind λl17=>
 some (l17,vm.2)
def FR (p0:List Int)(p1:Int):Option (AU):=
 some (AU.mk p0 p1 (AD.mk 0 0 []))
def Bw (tl:List Int)(tr:Int)(p1:List Int):Option (Int×Int):=
 (Az tl tr (Sh.len p1)).bind λq3=>
 (Sh.get p1 q3.1).bind λc4=>
 some (c4,q3.2)
def FW (p0:List Int)(p1:Int):Nat->Int->Option (Int⊕Unit)
 |0,_=>none
 |n+1,i4=>
  if decide (i4<Sh.len p0)=true then
   (Sh.get p0 i4).bind λyS=>
   if decide (yS=p1)=true then
    some (Sum.inl i4)
   else
    FW p0 p1 n (Sh.w (i4+1))
  else
   some (Sum.inr ())
def Ke (N:Nat)(p0:List Int)(p1:Int):Option Int:=
 Sh.cont (FW p0 p1 N 0) id λ()=>
 some (-1)
def Fs (p0:Int):Option (AD):=
 some (AD.mk 0 p0 [])
def ED (p0:List Int)(p1:Int):Nat->Int->(List Int)->Option (List Int)
 |0,_,_=>none
 |n+1,i5,l6=>
  if decide (i5<Sh.len p0)=true then
   (
    Option.bind (Sh.get p0 i5) λxP=>
    if decide (xP=p1)=true then
     (Sh.app l6 [i5] 8).bind λl19=>
     some l19
    else
     some l6
   ).bind λvc=>
   ED p0 p1 n (Sh.w (i5+1)) vc
  else
   some l6
def Ie (N:Nat)(p0:List Int)(p1:Int):Option (List Int):=
 (ED p0 p1 N 0 []).bind λl7=>
 some l7
def Et (N:Nat)(p0:AJ)(p1:Int):Nat->Int->(List Int)->Option (List Int)
 |0,_,_=>none
 |n+1,f5,l6=>
  if decide (f5<Sh.len p0.funcs)=true then
   (
    Option.bind (Sh.get p0.funcs f5) λxP=>
    (
     if decide (0<Sh.len xP.params)=true then
      (Sh.get xP.params (Sh.w ((Sh.len xP.params)-1))).bind λc24=>
      (JM N p0.decls c24 xP.result).bind λxl=>
      some (decide (xl=p1))
     else
      some false
    ).bind λt19=>
    if t19=true then
     (Sh.app l6 [f5] 8).bind λl22=>
     some l22
    else
     some l6
   ).bind λvc=>
   Et N p0 p1 n (Sh.w (f5+1)) vc
  else
   some l6
def Ii (N:Nat)(p0:AJ)(p1:Int):Option (List Int):=
 (Et N p0 p1 N 0 []).bind λl7=>
 some l7
def HX (N:Nat)(p0:AJ)(p1:List Int)(p2:Int):Option Bool:=
 (
  Option.bind (HR p0.decls p2) λq5=>
  if (!q5)=true then
   some true
  else
   (Ii N p0 p2).bind λq7=>
   if decide (0<Sh.len q7)=true then
    some true
   else
    (HB N p1 p2).bind λq9=>
    some q9
 ).bind λt3=>
 some t3
def CW (p0:Int):Option (AD):=
 some (AD.mk 12 p0 [])
def Bg (p0 p1:Int)(p2:List AD):Option (AD):=
 some (AD.mk p0 p1 p2)
def JT (tl:List Int)(tr:Int):Option (Int×Int):=
 (Az tl tr 6).bind λq3=>
 (Az tl q3.2 6).bind λq4=>
 (Az tl q4.2 40).bind λq5=>
 (Bw tl q5.2 [q3.1,q4.1,0,1,2,-1,3,q5.1,999,-998]).bind λq6=>
 some (q6.1,q6.2)
def Cz (tl:List Int)(s1:List AU)(tn:List AK)(wz:List Int)(uC:(List Int)->Int->(List AU)->(List AK)->Int->Option (AD×Int)):Nat->Int->Int->(List AD)->Option (Int×(List AD))
 |0,_,_,_=>none
 |n+1,i21,f22,l23=>
  if decide (i21<Sh.len wz)=true then
   (Sh.get wz i21).bind λc33=>
   (uC tl f22 s1 tn c33).bind λwA=>
   (Sh.app l23 [wA.1] 40).bind λl35=>
   Cz tl s1 tn wz uC n (Sh.w (i21+1)) wA.2 l35
  else
   some (f22,l23)
def D9 (c59:AU)(tl:List Int)(s1:List AU)(tn:List AK)(uC:(List Int)->Int->(List AU)->(List AK)->Int->Option (AD×Int)):Nat->Int->Int->(List AD)->Option (Int×(List AD))
 |0,_,_,_=>none
 |n+1,i63,f64,l65=>
  if (decide ((Sh.w (i63+1))<Sh.len c59.params))=true then
   (Sh.get c59.params i63).bind λc75=>
   (uC tl f64 s1 tn c75).bind λq76=>
   (Sh.app l65 [q76.1] 40).bind λl77=>
   D9 c59 tl s1 tn uC n (Sh.w (i63+1)) q76.2 l77
  else
   some (f64,l65)
def IZ (N:Nat)(uC:(List Int)->Int->(List AU)->(List AK)->Int->Option (AD×Int))(tl:List Int)(tr:Int)(s1:List AU)(tn:List AK)(p2:Int):Option (AD×Int):=
 (Gw N tn p2).bind λq3=>
 if decide (0<Sh.len q3)=true then
  (Sh.get q3 0).bind λc8=>
  (
   Option.bind (
    if decide (1<Sh.len q3)=true then
     (Az tl tr 4).bind λq47=>
     some (decide (q47.1=0),q47.2)
    else
     some (false,tr)
   ) λ(t41,f42)=>
   if t41=true then
    (Sh.get q3 1).bind λc45=>
    some (c45,f42)
   else
    some (c8,f42)
  ).bind λ(yr,f11)=>
  (
   Option.bind (Bs N tn yr) λq37=>
   (HB N q37 p2).bind λyU=>
   if yU=true then
    some c8
   else
    some yr
  ).bind λwx=>
  (Bs N tn wx).bind λwz=>
  (Cz tl s1 tn wz uC N 0 f11 []).bind λ(f24,l25)=>
  (Bg 6 wx l25).bind λwW=>
  some (wW,f24)
 else
  (Ii N (AJ.mk tn s1) p2).bind λyp=>
  (
   if decide (0<p2)=true then
    some (decide (0<Sh.len yp))
   else
    some false
  ).bind λt52=>
  if t52=true then
   (Az tl tr (Sh.len yp)).bind λq56=>
   (Sh.get yp q56.1).bind λc57=>
   (Sh.get s1 c57).bind λc59=>
   (D9 c59 tl s1 tn uC N 0 q56.2 []).bind λ(f66,l67)=>
   (Bg 10 c57 l67).bind λq70=>
   some (q70,f66)
  else
   (JT tl tr).bind λq79=>
   (Fs q79.1).bind λq80=>
   some (q80,q79.2)
def Dh (N:Nat):Nat->(List Int)->Int->(List AU)->(List AK)->Int->Option (AD×Int)
 |0,_,_,_,_,_=>none
 |n+1,tl,tr,s1,tn,p2=>IZ N (Dh N n) tl tr s1 tn p2
def Nl (N:Nat)(tl:List Int)(tr:Int)(s1:List AU)(tn:List AK)(p2:Int):Option (AD×Int):=Dh N N tl tr s1 tn p2
def IG (N:Nat)(tl:List Int)(tr:Int)(s1:List AU)(tn:List AK)(p2:List Int)(p3:Int):Option (AD×Int):=
 (Ie N p2 p3).bind λq3=>
 (
  if decide (0<Sh.len q3)=true then
   (Az tl tr 6).bind λwZ=>
   if decide (0<wZ.1)=true then
    some (true,wZ.2)
   else
    (HX N (AJ.mk tn s1) ([]:List Int) p3).bind λwF=>
    some (!wF,wZ.2)
  else
   some (false,tr)
 ).bind λ(t6,f7)=>
 if t6=true then
  (Az tl f7 (Sh.len q3)).bind λvb=>
  (Sh.get q3 vb.1).bind λyS=>
  (CW yS).bind λvW=>
  some (vW,vb.2)
 else
  (Nl N tl f7 s1 tn p3).bind λvm=>
  some (vm.1,vm.2)
def KY (N:Nat)(tl:List Int)(tr:Int)(s1:List AU)(tn:List AK)(p2:List Int):Option (Int×Int):=
 (Bw tl tr [(1:Int),1,3,0,2,4,3]).bind λq3=>
 (
  if decide ((Sh.len tn)<q3.1)=true then
   some true
  else
   (HX N (AJ.mk tn s1) p2 q3.1).bind λwE=>
   some (!wE)
 ).bind λt6=>
 if t6=true then
  some (1,q3.2)
 else
  some (q3.1,q3.2)
def Fw (tl:List Int)(s1:List AU)(tn:List AK)(p2 p3:List Int)(p4:Int)(tu:(List Int)->Int->(List AU)->(List AK)->(List Int)->Int->Int->Option (AD×Int)):Nat->Int->Int->(List AD)->Option (Int×(List AD))
 |0,_,_,_=>none
 |n+1,i5,f6,l7=>
  if decide (i5<Sh.len p3)=true then
   (Sh.get p3 i5).bind λwh=>
   (Sh.quo p4 (Sh.len p3)).bind λd17=>
   (tu tl f6 s1 tn p2 wh d17).bind λwz=>
   (Sh.app l7 [wz.1] 40).bind λl19=>
   Fw tl s1 tn p2 p3 p4 tu n (Sh.w (i5+1)) wz.2 l19
  else
   some (f6,l7)
def GW (N:Nat)(tu:(List Int)->Int->(List AU)->(List AK)->(List Int)->Int->Int->Option (AD×Int))(tl:List Int)(tr:Int)(s1:List AU)(tn:List AK)(p2 p3:List Int)(p4:Int):Option ((List AD)×Int):=
 (Fw tl s1 tn p2 p3 p4 tu N 0 tr []).bind λ(f8,l9)=>
 some (l9,f8)
def EO (N:Nat)(tl:List Int)(s1:List AU)(tn:List AK)(p2:List Int)(p3 p4:Int)(q8:List Int)(tu:(List Int)->Int->(List AU)->(List AK)->(List Int)->Int->Int->Option (AD×Int)):Nat->Int->Int->(List AD)->Option (Int×(List AD))
 |0,_,_,_=>none
 |n+1,i13,f14,zi=>
  if decide (i13<Sh.len q8)=true then
   (Sh.get q8 i13).bind λc25=>
   (Bs N tn c25).bind λxn=>
   (E3 p2 xn).bind λwy=>
   (Sh.quo (Sh.w (p4-2)) (Sh.len q8)).bind λd28=>
   (tu tl f14 s1 tn wy p3 d28).bind λzF=>
   (Sh.app zi [zF.1] 40).bind λl30=>
   EO N tl s1 tn p2 p3 p4 q8 tu n (Sh.w (i13+1)) zF.2 l30
  else
   some (f14,zi)
def Jw (N:Nat)(tu:(List Int)->Int->(List AU)->(List AK)->(List Int)->Int->Int->Option (AD×Int))(tl:List Int)(tr:Int)(s1:List AU)(tn:List AK)(p2:List Int)(p3 p4:Int):Option (AD×Int):=
 (Bw tl tr [(1:Int),1,3,4]).bind λq3=>
 (
  Option.bind (
   if decide ((Sh.len tn)<q3.1)=true then
    some true
   else
    (HR tn q3.1).bind λq36=>
    some q36
  ) λt32=>
  if t32=true then
   some 1
  else
   some q3.1
 ).bind λd5=>
 (Gw N tn d5).bind λq8=>
 (IG N tl q3.2 s1 tn p2 d5).bind λvT=>
 (EO N tl s1 tn p2 p3 p4 q8 tu N 0 vT.2 [vT.1]).bind λ(f16,l17)=>
 (Bg 8 d5 l17).bind λvz=>
 some (vz,f16)
def Ew (N:Nat)(xP:AU)(p0:AJ):Nat->Bool->Int->Option Bool
 |0,_,_=>none
 |n+1,ok20,i21=>
  if decide (i21<Sh.len xP.params)=true then
   (
    if ok20=true then
     (Sh.get xP.params i21).bind λc34=>
     (HX N p0 ([]:List Int) c34).bind λyL=>
     some yL
    else
     some false
   ).bind λok31=>
   Ew N xP p0 n ok31 (Sh.w (i21+1))
  else
   some ok20
def E4 (N:Nat)(p0:AJ)(p1:Int):Nat->Int->(List Int)->Option (List Int)
 |0,_,_=>none
 |n+1,f5,l6=>
  if decide (f5<Sh.len p0.funcs)=true then
   (
    Option.bind (Sh.get p0.funcs f5) λxP=>
    (Ew N xP p0 N (decide (xP.result=p1)) 0).bind λok22=>
    if ok22=true then
     (Sh.app l6 [f5] 8).bind λl26=>
     some l26
    else
     some l6
   ).bind λvc=>
   E4 N p0 p1 n (Sh.w (f5+1)) vc
  else
   some l6
def J8 (N:Nat)(p0:AJ)(p1:Int):Option (List Int):=
 (E4 N p0 p1 N 1 []).bind λl7=>
 some l7
def Ex (N:Nat)(tl:List Int)(s1:List AU)(tn:List AK)(p2:List Int)(p3 p4:Int)(wA:Int×Int)(tu:(List Int)->Int->(List AU)->(List AK)->(List Int)->Int->Int->Option (AD×Int)):Nat->Int->Option ((AD×Int) ⊕ Unit)
 |0,_=>none
 |n+1,zj=>
  if decide (zj<=Sh.len tn)=true then
   (
    Option.bind (HR tn zj) λq53=>
    if q53=true then
     (Sh.get tn (Sh.w (zj-1))).bind λc55=>
     if decide (c55.to=p3)=true then
      (HX N (AJ.mk tn s1) p2 zj).bind λq57=>
      some q57
     else
      some false
    else
     some false
   ).bind λt45=>
   if t45=true then
    (IG N tl wA.2 s1 tn p2 zj).bind λyp=>
    (Sh.get tn (Sh.w (zj-1))).bind λza=>
    (tu tl yp.2 s1 tn p2 za.from_ (Sh.w (p4-2))).bind λq51=>
    (Bg 11 0 [yp.1,q51.1]).bind λq52=>
    some (Sum.inl (q52,q51.2))
   else
    Ex N tl s1 tn p2 p3 p4 wA tu n (Sh.w (zj+1))
  else
   some (Sum.inr ())
def Ju (N:Nat)(tu:(List Int)->Int->(List AU)->(List AK)->(List Int)->Int->Int->Option (AD×Int))(tl:List Int)(tr:Int)(s1:List AU)(tn:List AK)(p2:List Int)(p3 p4:Int):Option (AD×Int):=
 Sh.cont (
  (Az tl tr 4).bind λwA=>
  if decide (wA.1=0)=true then
   Sh.cont (Ex N tl s1 tn p2 p3 p4 wA tu N 1) (λx=>Sum.inl x) λ()=>
   some (Sum.inr wA.2)
  else
   some (Sum.inr wA.2)
 ) id λf3=>
 (Gw N tn p3).bind λq6=>
 if decide (0<Sh.len q6)=true then
  (Az tl f3 (Sh.len q6)).bind λvb=>
  (Sh.get q6 vb.1).bind λyS=>
  (Bs N tn yS).bind λyn=>
  (GW N tu tl vb.2 s1 tn p2 yn (Sh.w (p4-1))).bind λvm=>
  (Bg 6 yS vm.1).bind λwL=>
  some (wL,vm.2)
 else
 if decide (0<p3)=true then
  (IG N tl f3 s1 tn p2 p3).bind λvB=>
  some (vB.1,vB.2)
 else
  (Az tl f3 3).bind λxm=>
  if decide (xm.1=0)=true then
   (GW N tu tl xm.2 s1 tn p2 [(0:Int)] (Sh.w (p4-1))).bind λwy=>
   (Bg 5 0 wy.1).bind λwW=>
   some (wW,wy.2)
  else
   (Bw tl xm.2 [(1:Int),2,3,4]).bind λyK=>
   (GW N tu tl yK.2 s1 tn p2 [(0:Int),0] (Sh.w (p4-1))).bind λq31=>
   (Bg yK.1 0 q31.1).bind λxy=>
   some (xy,q31.2)
def MF (N:Nat)(tu:(List Int)->Int->(List AU)->(List AK)->(List Int)->Int->Int->Option (AD×Int))(tl:List Int)(tr:Int)(s1:List AU)(tn:List AK)(p2:List Int)(p3 p4:Int):Option (AD×Int):=
 if decide (p4<3)=true then
  (IG N tl tr s1 tn p2 p3).bind λq6=>
  some (q6.1,q6.2)
 else
  Sh.cont (
   (Az tl tr 12).bind λvW=>
   if decide (vW.1=0)=true then
    (IG N tl vW.2 s1 tn p2 p3).bind λwZ=>
    some (Sum.inl (wZ.1,wZ.2))
   else
    (
     if decide (vW.1=1)=true then
      some true
     else
      some (decide (vW.1=2))
    ).bind λt19=>
    if t19=true then
     (KY N tl vW.2 s1 tn p2).bind λvf=>
     (tu tl vf.2 s1 tn p2 vf.1 (Sh.w (Int.tdiv p4 2))).bind λxl=>
     (E3 p2 [vf.1]).bind λxn=>
     (tu tl xl.2 s1 tn xn p3 (Sh.w (Int.tdiv p4 2))).bind λwy=>
     (Bg 13 0 [xl.1,wy.1]).bind λwW=>
     some (Sum.inl (wW,wy.2))
    else
    if decide (vW.1=3)=true then
     (GW N tu tl vW.2 s1 tn p2 [0,p3,p3] (Sh.w (p4-1))).bind λxy=>
     (Bg 7 0 xy.1).bind λyG=>
     some (Sum.inl (yG,xy.2))
    else
     (
      if decide (vW.1=4)=true then
       some true
      else
      if decide (vW.1=5)=true then
       some true
      else
       some (decide (vW.1=6))
     ).bind λt35=>
     if t35=true then
      (Jw N tu tl vW.2 s1 tn p2 p3 p4).bind λzY=>
      some (Sum.inl (zY.1,zY.2))
     else
      (
       if decide (vW.1=7)=true then
        some true
       else
        some (decide (vW.1=8))
      ).bind λt41=>
      if t41=true then
       (J8 N (AJ.mk tn s1) p3).bind λq45=>
       if decide (0<Sh.len q45)=true then
        (Az tl vW.2 (Sh.len q45)).bind λyp=>
        (Sh.get q45 yp.1).bind λza=>
        (Sh.get s1 za).bind λc52=>
        (GW N tu tl yp.2 s1 tn p2 c52.params (Sh.w (p4-1))).bind λq53=>
        (Bg 9 za q53.1).bind λq54=>
        some (Sum.inl (q54,q53.2))
       else
        some (Sum.inr vW.2)
      else
       some (Sum.inr vW.2)
  ) id λf8=>
  (Ju N tu tl f8 s1 tn p2 p3 p4).bind λvb=>
  some (vb.1,vb.2)
def J7 (N:Nat):Nat->(List Int)->Int->(List AU)->(List AK)->(List Int)->Int->Int->Option (AD×Int)
 |0,_,_,_,_,_,_,_=>none
 |n+1,tl,tr,s1,tn,p2,p3,p4=>MF N (J7 N n) tl tr s1 tn p2 p3 p4
def HZ (N:Nat)(tl:List Int)(tr:Int)(s1:List AU)(tn:List AK)(p2:List Int)(p3 p4:Int):Option (AD×Int):=J7 N N tl tr s1 tn p2 p3 p4
def GJ (tl:List Int):Nat->Int->Int->Int->Int->(List AD)->Option (Int×Int×Int×(List AD))
 |0,_,_,_,_,_=>none
 |n+1,n21,f22,f23,f24,f25=>
  if decide (0<n21)=true then
   (JT tl f22).bind λq36=>
   (Fs q36.1).bind λq37=>
   (Bg 6 1 [q37,AD.mk f23 f24 f25]).bind λyU=>
   GJ tl n (Sh.w (n21-1)) q36.2 yU.op yU.num yU.kids
  else
   some (f22,f23,f24,f25)
def Ka (N:Nat)(tl:List Int)(tr p1:Int):Option (AD×Int):=
 (Bg 6 0 ([]:List AD)).bind λq3=>
 if decide (p1=3)=true then
  (Bg 6 2 ([]:List AD)).bind λq8=>
  (Az tl tr 9).bind λvT=>
  (Fs vT.1).bind λvb=>
  (Bg 6 3 [q8,vb,q8]).bind λwE=>
  (Az tl vT.2 9).bind λyn=>
  (Fs yn.1).bind λvm=>
  (Bg 6 3 [wE,vm,q8]).bind λwL=>
  some (wL,yn.2)
 else
  (Az tl tr 3).bind λvz=>
  (GJ tl N (Sh.w (1+vz.1)) vz.2 q3.op q3.num q3.kids).bind λ(f26,f27,f28,f29)=>
  some (AD.mk f27 f28 f29,f26)
def Jr (N:Nat)(tl:List Int)(tr:Int)(s1:List AU)(tn:List AK):Option (AD×Int):=
 (Bw tl tr [(1:Int),1,3]).bind λq3=>
 (HZ N tl q3.2 s1 tn [q3.1] 0 16).bind λq5=>
 (
  Option.bind (Az tl q5.2 3) λwL=>
  if decide (wL.1=0)=true then
   (Bg 5 0 [q5.1]).bind λwz=>
   some (wL.2,wz.op,wz.num,wz.kids)
  else
   some (wL.2,q5.1.op,q5.1.num,q5.1.kids)
 ).bind λ(f7,f8,f9,f10)=>
 (Ka N tl f7 q3.1).bind λvW=>
 (Bg 13 0 [vW.1,AD.mk f8 f9 f10]).bind λyn=>
 some (yn,vW.2)
def Ez (c3:AU)(tl:List Int)(p3:Int):Nat->Int->Int->(List AD)->Option (Int×(List AD))
 |0,_,_,_=>none
 |n+1,i10,f11,zh=>
  if decide (i10<Sh.len c3.params)=true then
   (
    if decide (i10=p3)=true then
     (CW (Sh.w ((Sh.len c3.params)+1))).bind λq67=>
     (Sh.app zh [q67] 40).bind λl68=>
     some (f11,l68)
    else
     (
      Option.bind (Sh.get c3.params i10) λc80=>
      if decide (c80=0)=true then
       (Az tl f11 2).bind λq82=>
       some (decide (q82.1=0),q82.2)
      else
       some (false,f11)
     ).bind λ(t70,f71)=>
     if t70=true then
      (CW i10).bind λq74=>
      (CW (Sh.len c3.params)).bind λq75=>
      (Bg 1 0 [q74,q75]).bind λq76=>
      (Sh.app zh [q76] 40).bind λl77=>
      some (f71,l77)
     else
      (CW i10).bind λq78=>
      (Sh.app zh [q78] 40).bind λl79=>
      some (f71,l79)
   ).bind λ(f62,l63)=>
   Ez c3 tl p3 n (Sh.w (i10+1)) f62 l63
  else
   some (f11,zh)
def Jy (N:Nat)(tl:List Int)(tr:Int)(s1:List AU)(tn:List AK)(p2 p3:Int):Option (AD×Int):=
 (Sh.get s1 p2).bind λc3=>
 (E3 c3.params [(0:Int),1]).bind λq6=>
 (Ez c3 tl p3 N 0 tr []).bind λ(f13,vc)=>
 (Bg 9 p2 vc).bind λwZ=>
 (
  Option.bind (
   if decide (c3.result=1)=true then
    (Az tl f13 5).bind λq57=>
    some (decide (0<q57.1),q57.2)
   else
    some (false,f13)
  ) λ(t30,f31)=>
  if t30=true then
   (HZ N tl f31 s1 tn q6 0 4).bind λyL=>
   (
    Option.bind (
     if decide (1<Sh.len c3.params)=true then
      (Sh.get c3.params 0).bind λza=>
      some (decide (za=2))
     else
      some false
    ) λt43=>
    if t43=true then
     (CW 0).bind λq46=>
     (CW (Sh.len c3.params)).bind λq47=>
     (Bg 11 0 [q46,q47]).bind λq48=>
     some (q48.op,q48.num,q48.kids)
    else
     some (yL.1.op,yL.1.num,yL.1.kids)
   ).bind λ(f37,f38,f39)=>
   (Bg 6 1 [AD.mk f37 f38 f39,wZ]).bind λq41=>
   some (yL.2,q41.op,q41.num,q41.kids)
  else
  if decide (c3.result=0)=true then
   (Bw tl f31 [(1:Int),2]).bind λq53=>
   (HZ N tl q53.2 s1 tn q6 0 4).bind λq54=>
   (Bg q53.1 0 [q54.1,wZ]).bind λq55=>
   some (q54.2,q55.op,q55.num,q55.kids)
  else
   some (f31,wZ.op,wZ.num,wZ.kids)
 ).bind λ(f20,f21,f22,f23)=>
 (CW p3).bind λxn=>
 (HZ N tl f20 s1 tn c3.params c3.result 4).bind λwy=>
 (Bg 8 1 [xn,wy.1,AD.mk f21 f22 f23]).bind λwW=>
 some (wW,wy.2)
def E1 (c3:AU):Nat->Int->(List AD)->(List AD)->Option ((List AD)×(List AD))
 |0,_,_,_=>none
 |n+1,i11,zh,l13=>
  if decide (i11<Sh.len c3.params)=true then
   (CW i11).bind λq47=>
   (Sh.app zh [q47] 40).bind λl48=>
   (CW i11).bind λyp=>
   (Sh.app l13 [yp] 40).bind λl50=>
   E1 c3 n (Sh.w (i11+1)) l48 l50
  else
   some (zh,l13)
def J6 (N:Nat)(tl:List Int)(tr:Int)(s1:List AU)(tn:List AK)(p2:Int):Option (AD×Int):=
 (Sh.get s1 p2).bind λc3=>
 (CW (Sh.len c3.params)).bind λq6=>
 (CW (Sh.w ((Sh.len c3.params)+2))).bind λq8=>
 (E1 c3 N 1 [q6] [q8]).bind λ(vc,zi)=>
 (Bg 9 p2 vc).bind λwz=>
 (Bg 9 p2 zi).bind λvz=>
 (E3 c3.params [(3:Int),0,3]).bind λwV=>
 (HZ N tl tr s1 tn wV 0 4).bind λvf=>
 (Bg 1 0 [vf.1,vz]).bind λxm=>
 (Bg 1 0 [wz,xm]).bind λxl=>
 (
  if decide (c3.result=3)=true then
   (E3 c3.params [(3:Int),0,3]).bind λyU=>
   (HZ N tl vf.2 s1 tn yU 0 4).bind λzY=>
   (CW (Sh.w ((Sh.len c3.params)+2))).bind λq40=>
   (Bg 6 3 [wz,zY.1,q40]).bind λq41=>
   some (zY.2,q41.op,q41.num,q41.kids)
  else
   some (vf.2,xl.op,xl.num,xl.kids)
 ).bind λ(f27,f28,f29,f30)=>
 (CW 0).bind λyG=>
 (HZ N tl f27 s1 tn c3.params c3.result 4).bind λwA=>
 (Bg 8 3 [yG,wA.1,AD.mk f28 f29 f30]).bind λyL=>
 some (yL,wA.2)
def Ey (N:Nat)(c3:AU)(tl:List Int)(s1:List AU)(tn:List AK):Nat->Int->Int->(List AD)->Option (Int×(List AD))
 |0,_,_,_=>none
 |n+1,i10,f11,zh=>
  if decide (i10<Sh.len c3.params)=true then
   (Sh.get c3.params i10).bind λc39=>
   (IG N tl f11 s1 tn c3.params c39).bind λq40=>
   (Sh.app zh [q40.1] 40).bind λl41=>
   Ey N c3 tl s1 tn n (Sh.w (i10+1)) q40.2 l41
  else
   some (f11,zh)
def J4 (N:Nat)(tl:List Int)(tr:Int)(s1:List AU)(tn:List AK)(p2:Int):Option (AD×Int):=
 (Sh.get s1 p2).bind λc3=>
 (CW 0).bind λq5=>
 (Fs 1).bind λq6=>
 (Bg 2 0 [q5,q6]).bind λq7=>
 (Ey N c3 tl s1 tn N 1 tr [q7]).bind λ(f13,vc)=>
 (Bg 9 p2 vc).bind λwZ=>
 (
  if decide (c3.result=1)=true then
   (HZ N tl f13 s1 tn c3.params 0 3).bind λyG=>
   (Bg 6 1 [yG.1,wZ]).bind λwA=>
   some (yG.2,wA.op,wA.num,wA.kids)
  else
   some (f13,wZ.op,wZ.num,wZ.kids)
 ).bind λ(f19,f20,f21,f22)=>
 (Fs 0).bind λxl=>
 (CW 0).bind λxn=>
 (Bg 4 0 [xl,xn]).bind λwy=>
 (HZ N tl f19 s1 tn c3.params c3.result 4).bind λzF=>
 (Bg 7 0 [wy,AD.mk f20 f21 f22,zF.1]).bind λyK=>
 some (yK,zF.2)
def Gp (N:Nat)(tl:List Int)(s1:List AU)(tn:List AK)(p2:List Int)(p3:Int):Nat->Int->Int->Int->Int->(List AD)->Option (Int×Int×Int×(List AD))
 |0,_,_,_,_,_=>none
 |n+1,budget5,f6,f7,f8,f9=>
  (
   Option.bind (HW N (AD.mk f7 f8 f9)) λvf=>
   if decide (vf<0)=true then
    some (decide (2<budget5))
   else
    some false
  ).bind λt18=>
  if t18=true then
   (HZ N tl f6 s1 tn p2 p3 (Sh.w (Int.tdiv budget5 2))).bind λwV=>
   Gp N tl s1 tn p2 p3 n (Sh.w (Int.tdiv budget5 2)) wV.2 wV.1.op wV.1.num wV.1.kids
  else
   some (f6,f7,f8,f9)
def JS (N:Nat)(tl:List Int)(tr:Int)(s1:List AU)(tn:List AK)(p2:List Int)(p3 p4:Int):Option (AD×Int):=
 (HZ N tl tr s1 tn p2 p3 p4).bind λq3=>
 (Gp N tl s1 tn p2 p3 N p4 q3.2 q3.1.op q3.1.num q3.1.kids).bind λ(f10,f11,f12,f13)=>
 some (AD.mk f11 f12 f13,f10)
def LV (N:Nat)(tl:List Int)(tr:Int)(s1:List AU)(tn:List AK)(p2:Int):Option (AD×Int):=
 (Sh.get s1 p2).bind λc3=>
 (Ke N c3.params 1).bind λq6=>
 (Fs 0).bind λq8=>
 (Az tl tr 4).bind λvT=>
 (
  Option.bind (
   if decide (vT.1<3)=true then
    some (decide (p2=0))
   else
    some false
  ) λt25=>
  if t25=true then
   (Jr N tl vT.2 s1 tn).bind λwW=>
   some (wW.2,wW.1.op,wW.1.num,wW.1.kids)
  else
   (
    if decide (vT.1<3)=true then
     if decide (0<=q6)=true then
      if decide (c3.result=0)=true then
       some true
      else
       some (decide (c3.result=1))
     else
      some false
    else
     some false
   ).bind λt30=>
   if t30=true then
    (Jy N tl vT.2 s1 tn p2 q6).bind λyG=>
    some (yG.2,yG.1.op,yG.1.num,yG.1.kids)
   else
    (
     if decide (vT.1<3)=true then
      if decide (0<Sh.len c3.params)=true then
       (Sh.get c3.params 0).bind λc52=>
       if decide (c52=3)=true then
        if decide (c3.result=0)=true then
         some true
        else
         some (decide (c3.result=3))
       else
        some false
      else
       some false
     else
      some false
    ).bind λt35=>
    if t35=true then
     (J6 N tl vT.2 s1 tn p2).bind λyU=>
     some (yU.2,yU.1.op,yU.1.num,yU.1.kids)
    else
     (
      if decide (vT.1<3)=true then
       if decide (0<Sh.len c3.params)=true then
        (Sh.get c3.params 0).bind λc47=>
        if decide (c47=0)=true then
         if decide (c3.result=0)=true then
          some true
         else
          some (decide (c3.result=1))
        else
         some false
       else
        some false
      else
       some false
     ).bind λt40=>
     if t40=true then
      (J4 N tl vT.2 s1 tn p2).bind λq43=>
      some (q43.2,q43.1.op,q43.1.num,q43.1.kids)
     else
      (JS N tl vT.2 s1 tn c3.params c3.result 18).bind λq44=>
      some (q44.2,q44.1.op,q44.1.num,q44.1.kids)
 ).bind λ(f12,f13,f14,f15)=>
 (HW N (AD.mk f13 f14 f15)).bind λwF=>
 if decide (wF<0)=true then
  (JS N tl f12 s1 tn c3.params c3.result 12).bind λwV=>
  some (wV.1,wV.2)
 else
  some (AD.mk f13 f14 f15,f12)
def ER (N:Nat)(tl:List Int)(q3:(List AK)×Int):Nat->Int->Int->(List AU)->Option (Int×(List AU))
 |0,_,_,_=>none
 |n+1,f37,f38,l39=>
  if decide (0<=f37)=true then
   (LV N tl f38 l39 q3.1 f37).bind λyp=>
   (Sh.get l39 f37).bind λza=>
   ER N tl q3 n (Sh.w (f37-1)) yp.2 (Sh.put l39 f37 (AU.mk za.params za.result yp.1))
  else
   some (f38,l39)
def IE (N:Nat)(tl:List Int)(tr:Int):Option (AJ×Int):=
 (Hu tl tr).bind λq3=>
 (FR [(1:Int)] 0).bind λq5=>
 (FR [(1:Int),1] 1).bind λq6=>
 (FR [(1:Int)] 1).bind λq7=>
 (FR [(1:Int),0] 1).bind λq8=>
 (FR [(2:Int),1] 1).bind λq9=>
 (FR [(1:Int),1] 0).bind λvT=>
 (FR [(3:Int)] 0).bind λwE=>
 (FR [(0:Int)] 1).bind λvW=>
 (FR [(0:Int),1] 1).bind λyn=>
 (FR [(3:Int),0] 3).bind λvm=>
 (FR [(3:Int)] 1).bind λwL=>
 (FR [(1:Int),3,0] 0).bind λwZ=>
 (FR [(0:Int)] 0).bind λwF=>
 (FR [(0:Int),0] 0).bind λvz=>
 (FR [(1:Int),0] 0).bind λvB=>
 (FR [(0:Int)] 1).bind λwV=>
 (FR ([]:List Int) 0).bind λxm=>
 (Az tl q3.2 (Sh.len [q5,q6,q7,q8,q9,vT])).bind λxl=>
 (Sh.get [q5,q6,q7,q8,q9,vT] xl.1).bind λc26=>
 (Az tl xl.2 (Sh.len [wE,vW,yn,vm,wL,wZ])).bind λwy=>
 (Sh.get [wE,vW,yn,vm,wL,wZ] wy.1).bind λc28=>
 (Az tl wy.2 (Sh.len [wF,vz,vB,wV])).bind λzF=>
 (Sh.get [wF,vz,vB,wV] zF.1).bind λc30=>
 (Bw tl zF.2 [(4:Int),4,3,2,4]).bind λxy=>
 (Sh.hi [xm,c26,c28,c30] xy.1).bind λl34=>
 (ER N tl q3 N (Sh.w (xy.1-1)) xy.2 l34).bind λ(f40,l41)=>
 some (AJ.mk q3.1 l41,f40)
def Jq (uB:(List AD)->Option (List AD))(p0:AD):Option (AD):=
 (uB p0.kids).bind λq3=>
 some (AD.mk p0.op p0.num q3)
def CT (p0:List AD)(uB:(List AD)->Option (List AD)):Nat->Int->(List AD)->Option (List AD)
 |0,_,_=>none
 |n+1,i5,l6=>
  if decide (i5<Sh.len p0)=true then
   (Sh.get p0 i5).bind λwx=>
   (Jq uB wx).bind λvm=>
   (Sh.app l6 [vm] 40).bind λzb=>
   CT p0 uB n (Sh.w (i5+1)) zb
  else
   some l6
def Hx (N:Nat)(uB:(List AD)->Option (List AD))(p0:List AD):Option (List AD):=
 (CT p0 uB N 0 []).bind λl7=>
 some l7
def DJ (N:Nat):Nat->(List AD)->Option (List AD)
 |0,_=>none
 |n+1,p0=>Hx N (DJ N n) p0
def Hm (N:Nat)(p0:List AD):Option (List AD):=DJ N N p0
def Mq (N:Nat)(vR:(List Int)->Int->AD->Option (AD×Int))(tl:List Int)(tr:Int)(p1:AD):Option (AD×Int):=
 (
  if decide (0<Sh.len p1.kids)=true then
   (Az tl tr 3).bind λq47=>
   some (decide (0<q47.1),q47.2)
  else
   some (false,tr)
 ).bind λ(t4,f5)=>
 if t4=true then
  (Hm N p1.kids).bind λq9=>
  (Az tl f5 (Sh.len q9)).bind λvb=>
  (Sh.get q9 vb.1).bind λc13=>
  (vR tl vb.2 c13).bind λyn=>
  (Bg p1.op p1.num (Sh.put q9 vb.1 yn.1)).bind λwL=>
  some (wL,yn.2)
 else
  (Az tl f5 5).bind λwF=>
  if decide (wF.1=0)=true then
   (Az tl wF.2 15).bind λvf=>
   (Bg vf.1 p1.num p1.kids).bind λxm=>
   some (xm,vf.2)
  else
  if decide (wF.1=1)=true then
   (Bw tl wF.2 [(1:Int),-1,1000,2]).bind λwW=>
   (Bg p1.op (Sh.w (p1.num+wW.1)) p1.kids).bind λzF=>
   some (zF,wW.2)
  else
  if decide (wF.1=2)=true then
   (Hm N p1.kids).bind λyG=>
   (Fs 1).bind λwA=>
   (Sh.app yG [wA] 40).bind λl35=>
   (Bg p1.op p1.num l35).bind λq36=>
   some (q36,wF.2)
  else
  if decide (wF.1=3)=true then
   (Bw tl wF.2 [(0:Int),1,2,5,100,-1]).bind λq41=>
   (CW q41.1).bind λq42=>
   some (q42,q41.2)
  else
   (Bw tl wF.2 [(0:Int),1000,-1000,5]).bind λq44=>
   (Fs q44.1).bind λq45=>
   some (q45,q44.2)
def KK (N:Nat):Nat->(List Int)->Int->AD->Option (AD×Int)
 |0,_,_,_=>none
 |n+1,tl,tr,p1=>Mq N (KK N n) tl tr p1
def Sd (N:Nat)(tl:List Int)(tr:Int)(p1:AD):Option (AD×Int):=KK N N tl tr p1
def Jz (tl:List Int)(tr:Int):Option ((List AK)×Int):=
 (Hu tl tr).bind λq3=>
 (Az tl q3.2 (Sh.len q3.1)).bind λq5=>
 (
  Option.bind (Az tl q5.2 14) λwE=>
  if decide (wE.1=0)=true then
   (Bw tl wE.2 [(-1:Int),5,0,2]).bind λvm=>
   (Bw tl vm.2 [(0:Int),1,5]).bind λwL=>
   (Sh.get q3.1 q5.1).bind λxP=>
   some (wL.2,Sh.put q3.1 q5.1 (AK.mk vm.1 wL.1 []))
  else
  if decide (wE.1=1)=true then
   (Bw tl wE.2 [(-1:Int),0,4,5]).bind λvz=>
   (Fk [vz.1]).bind λvB=>
   (Fk [(0:Int),0,0,0]).bind λwV=>
   (Fk ([]:List Int)).bind λvf=>
   (Sh.get q3.1 q5.1).bind λc24=>
   some (vz.2,Sh.put q3.1 q5.1 (AK.mk 0 0 [vB,wV,vf]))
  else
  if decide (wE.1=2)=true then
   (Fk [Sh.w (q5.1+1)]).bind λwy=>
   (Sh.get q3.1 q5.1).bind λc28=>
   some (wE.2,Sh.put q3.1 q5.1 (AK.mk 0 0 [wy]))
  else
  if decide (wE.1=3)=true then
   (Bw tl wE.2 [(0:Int),2,1]).bind λq31=>
   (Sh.app q3.1 ([AK.mk 2 q31.1 []]) 40).bind λl32=>
   some (q31.2,l32)
  else
  if decide (wE.1=4)=true then
   (Az tl wE.2 2).bind λyL=>
   (Fk ([]:List Int)).bind λq36=>
   (Fk [(2:Int)]).bind λq37=>
   (Fk ([]:List Int)).bind λyU=>
   (Fk ([]:List Int)).bind λzY=>
   (Az tl yL.2 3).bind λq40=>
   (Sh.sl [q36,q37,yU,zY] q40.1 (Sh.len [q36,q37,yU,zY])).bind λl41=>
   (Sh.get q3.1 q5.1).bind λc42=>
   some (q40.2,Sh.put q3.1 q5.1 (AK.mk yL.1 0 l41))
  else
  if decide (wE.1=5)=true then
   (Sh.app q3.1 ([AK.mk 0 0 [],AK.mk 3 0 []]) 40).bind λl45=>
   some (wE.2,l45)
  else
   some (wE.2,q3.1)
 ).bind λ(f7,l8)=>
 some (l8,f7)
def Hb (N:Nat)(tl:List Int)(tr:Int)(s1:List AU)(tn:List AK):Option (AJ×Int):=
 (Az tl tr (Sh.len s1)).bind λq3=>
 (Sh.get s1 q3.1).bind λc5=>
 (
  Option.bind (Az tl q3.2 24) λvW=>
  if decide (vW.1=0)=true then
   (Sd N tl vW.2 c5.body).bind λwL=>
   some (wL.2,Sh.put s1 q3.1 (AU.mk c5.params c5.result wL.1),tn)
  else
  if decide (vW.1=1)=true then
   (Bw tl vW.2 [(0:Int),1,9,-1]).bind λwF=>
   (E3 c5.params [wF.1]).bind λvz=>
   some (wF.2,Sh.put s1 q3.1 (AU.mk vz c5.result c5.body),tn)
  else
  if decide (vW.1=2)=true then
   (Bw tl vW.2 [(0:Int),1,3,5,-1]).bind λvf=>
   some (vf.2,Sh.put s1 q3.1 (AU.mk c5.params vf.1 c5.body),tn)
  else
  if decide (vW.1=3)=true then
   (Jz tl vW.2).bind λxn=>
   some (xn.2,s1,xn.1)
  else
  if decide (vW.1=4)=true then
   (Sh.app s1 [c5] 72).bind λl29=>
   some (vW.2,l29,tn)
  else
   some (vW.2,s1,tn)
 ).bind λ(f7,l8,f9)=>
 some (AJ.mk f9 l8,f7)
def IP (N:Nat)(tl:List Int)(tr:Int):Option (AJ×Int):=
 (IE N tl tr).bind λq3=>
 (Hb N tl q3.2 q3.1.funcs q3.1.decls).bind λq4=>
 some (q4.1,q4.2)
def HJ (N:Nat)(p0:List Int):Option (AJ×Int):=
 (JF p0).bind λq3=>
 (IP N q3.1 q3.2).bind λq5=>
 (
  Option.bind (Bw q3.1 q5.2 [(1:Int),2,3,1,3,0,-1,4]) λq9=>
  some q9.1
 ).bind λt7=>
 some (q5.1,t7)
end RC
namespace RC
end RC
namespace RC
def VO (p0:AD)(wC:AD->Option (AD)):Nat->Int->(List AD)->Option (List AD)
 |0,_,_=>none
 |n+1,k5,l6=>
  if decide (k5<Sh.len p0.kids)=true then
   (Sh.get p0.kids k5).bind λc27=>
   (wC c27).bind λwW=>
   (Sh.app l6 [wW] 40).bind λl29=>
   VO p0 wC n (Sh.w (k5+1)) l29
  else
   some l6
def Ic (N:Nat)(p0:AD):Option (AD):=
 (Hm N p0.kids).bind λq3=>
 some (AD.mk p0.op p0.num q3)
def EF (N:Nat)(p0:AJ)(p1:List AD):Nat->Int->(List AU)->Option ((AJ×Bool) ⊕ (List AU))
 |0,_,_=>none
 |n+1,i6,l7=>
  if decide (i6<Sh.len p0.funcs)=true then
   (Sh.get p1 i6).bind λxP=>
   (HW N xP).bind λwz=>
   if decide (wz<0)=true then
    some (Sum.inl (AJ.mk [] [],false))
   else
    (Sh.get p0.funcs i6).bind λc21=>
    (Fv c21.params).bind λwV=>
    (Ic N xP).bind λvf=>
    (Sh.app l7 [AU.mk wV c21.result vf] 72).bind λl24=>
    EF N p0 p1 n (Sh.w (i6+1)) l24
  else
   some (Sum.inr l7)
def IW (N:Nat)(p0:AJ)(p1:List AD):Option (AJ×Bool):=
 (I4 N p0.decls).bind λq3=>
 Sh.cont (EF N p0 p1 N 0 []) id λl8=>
 some (AJ.mk q3 l8,true)
def Cn (p0:AD)(p1 p2:Int)(uT:AD->Int->Int->Option (AD)):Nat->Int->(List AD)->Option (List AD)
 |0,_,_=>none
 |n+1,t9,l10=>
  if decide (t9<Sh.len p0.kids)=true then
   (Sh.get p0.kids t9).bind λwR=>
   (uT wR p1 p2).bind λvz=>
   (Sh.app l10 [vz] 40).bind λl21=>
   Cn p0 p1 p2 uT n (Sh.w (t9+1)) l21
  else
   some l10
def JA (N:Nat)(uT:AD->Int->Int->Option (AD))(p0:AD)(p1 p2:Int):Option (AD):=
 (
  Option.bind (
   if decide (p0.op=12)=true then
    some (decide (p1<=p0.num))
   else
    some false
  ) λt25=>
  if t25=true then
   some (Sh.w (p0.num+p2))
  else
   some p0.num
 ).bind λf3=>
 (Cn p0 p1 p2 uT N 0 []).bind λl11=>
 some (AD.mk p0.op f3 l11)
def EG (N:Nat):Nat->AD->Int->Int->Option (AD)
 |0,_,_,_=>none
 |n+1,p0,p1,p2=>JA N (EG N n) p0 p1 p2
def Gs (N:Nat)(p0:AD)(p1 p2:Int):Option (AD):=EG N N p0 p1 p2
def JH (N:Nat)(p0:AD):Option (AD):=
 (Gs N p0 0 0).bind λq3=>
 some q3
def DT (N:Nat)(p0:AJ):Nat->Int->(List AU)->Option (List AU)
 |0,_,_=>none
 |n+1,t6,l7=>
  if decide (t6<Sh.len p0.funcs)=true then
   (Sh.get p0.funcs t6).bind λwh=>
   (CN wh.params).bind λwZ=>
   (JH N wh.body).bind λwz=>
   (Sh.app l7 [AU.mk wZ wh.result wz] 72).bind λl19=>
   DT N p0 n (Sh.w (t6+1)) l19
  else
   some l7
def Hf (N:Nat)(p0:AJ):Option (AJ):=
 (Ij N p0.decls).bind λq3=>
 (DT N p0 N 0 []).bind λl8=>
 some (AJ.mk q3 l8)
end RC
namespace RC
def Gc (N:Nat)(p0:List AD)(p2:Int):Nat->AD->Option AD
 |0,b=>some b
 |i+1,b=>
  (Sh.get p0 (i:Int)).bind λx=>
  (Gs N x p2 (i:Int)).bind λq=>
  Gc N p0 p2 i (AD.mk 13 0 [q,b])
def LY (N:Nat)(s0 p0:List AD)(tn ug p2:Int):Option AD:=
 if p0.length<=1048576 then Gc N p0 p2 p0.length (AD.mk tn ug s0) else none
theorem SG {N:Nat}{p0:List AD}{p2:Int}:∀(n:Nat) {b r:AD},Gc N p0 p2 n b=some r->
  ∃bs:Nat->AD,bs n=b/\bs 0=r/\∀i,i<n->∃x q,Sh.get p0 (i:Int)=some x/\Gs N x p2 (i:Int)=some q/\bs i=AD.mk 13 0 [q,bs (i+1)]
 |0,b,r,h=>by
  rw[Gc]at h;cases h;exact⟨λ_=>b,rfl,rfl,λi hi=>by omega⟩
 |n+1,b,r,h=>by
  rw[Gc]at h;obtain⟨x,h1,h⟩:=Sh.bind_some h;obtain⟨q,h2,h⟩:=Sh.bind_some h;obtain⟨bs,e1,e2,e3⟩:=SG n h;refine⟨λi=>if i=n+1 then b else bs i,by simp,by simp[e2],λi hi=>?_⟩;by_cases vQ:i=n
  .subst vQ;refine⟨x,q,h1,h2,?_⟩;simp[e1]
  .obtain⟨x',q',g1,g2,g3⟩:=e3 i (by omega);refine⟨x',q',g1,g2,?_⟩;have n1:¬ i=n+1:=by omega
   have n2:¬ i+1=n+1:=by omega
   simp only[n1,n2,pV];exact g3
end RC
namespace RC
def Kf (N:Nat)(p0:AJ)(p1:AD)(p2 p3:Int):Option Int:=
 if decide (p2=0)=true then
  some p3
 else
 if decide (p1.op=13)=true then
  some (Sh.w (p3+1))
 else
 if decide (p1.op=8)=true then
  (Gw N p0.decls p1.num).bind λyn=>
  (Sh.get yn (Sh.w (p2-1))).bind λzZ=>
  (Bs N p0.decls zZ).bind λwL=>
  some (Sh.w (p3+Sh.len wL))
 else
  some p3
def Eu (p0:List AD)(p1 p2:Int)(uI:AD->Int->Int->Option (AD)):Nat->Int->(List AD)->Option (List AD)
 |0,_,_=>none
 |n+1,i5,l6=>
  if decide (i5<Sh.len p0)=true then
   (Sh.get p0 i5).bind λwx=>
   (uI wx p1 p2).bind λvm=>
   (Sh.app l6 [vm] 40).bind λzb=>
   Eu p0 p1 p2 uI n (Sh.w (i5+1)) zb
  else
   some l6
def LJ (N:Nat)(uI:AD->Int->Int->Option (AD))(p0:List AD)(p1 p2:Int):Option (List AD):=
 (Eu p0 p1 p2 uI N 0 []).bind λl7=>
 some l7
def MC (N:Nat)(uI:AD->Int->Int->Option (AD))(p0:AD)(p1 p2:Int):Option (AD):=
 (
  Option.bind (
   if decide (p0.op=12)=true then
    some (decide (p1<=p0.num))
   else
    some false
  ) λt9=>
  if t9=true then
   some (Sh.w (p0.num+p2))
  else
   some p0.num
 ).bind λzk=>
 (LJ N uI p0.kids p1 p2).bind λq7=>
 some (AD.mk p0.op zk q7)
def HQ (N:Nat):Nat->AD->Int->Int->Option (AD)
 |0,_,_,_=>none
 |n+1,p0,p1,p2=>MC N (HQ N n) p0 p1 p2
def MH (N:Nat)(p0:AD)(p1 p2:Int):Option (AD):=HQ N N p0 p1 p2
def HS (N:Nat)(p0:List AD)(p2:Int):Nat->Int->Int->Int->(List AD)->Option (Int×Int×(List AD))
 |0,_,_,_,_=>none
 |n+1,k5,f6,f7,f8=>
  if decide (0<=k5)=true then
   (Sh.get p0 k5).bind λxV=>
   (MH N xV p2 k5).bind λwF=>
   HS N p0 p2 n (Sh.w (k5-1)) 13 0 [wF,AD.mk f6 f7 f8]
  else
   some (f6,f7,f8)
def Ni (N:Nat)(p0:List AD)(p1:AD)(p2:Int):Option (AD):=
 (HS N p0 p2 N (Sh.w ((Sh.len p0)-1)) p1.op p1.num p1.kids).bind λ(f9,f10,f11)=>
 some (AD.mk f9 f10 f11)
end RC
namespace RC
def E0 (N:Nat)(p0:AJ)(p1:Int)(p2:AD)(p3:Int)(uY:AJ->Int->AD->Int->Option (AD)):Nat->Int->(List AD)->Option (List AD)
 |0,_,_=>none
 |n+1,k5,l6=>
  if decide (k5<Sh.len p2.kids)=true then
   (Sh.get p2.kids k5).bind λc24=>
   (Kf N p0 p2 k5 p3).bind λxl=>
   (uY p0 p1 c24 xl).bind λxn=>
   (Sh.app l6 [xn] 40).bind λl27=>
   E0 N p0 p1 p2 p3 uY n (Sh.w (k5+1)) l27
  else
   some l6
def Lg (N:Nat)(uY:AJ->Int->AD->Int->Option (AD))(p0:AJ)(p1:Int)(p2:AD)(p3:Int):Option (AD):=
 (E0 N p0 p1 p2 p3 uY N 0 []).bind λl7=>
 (
  if decide (p2.op=9)=true then
   some (decide (p2.num=p1))
  else
   some false
 ).bind λt11=>
 if t11=true then
  (Sh.get p0.funcs p1).bind λzZ=>
  (MH N zZ.body 0 p3).bind λwL=>
  (Ni N l7 wL p3).bind λwZ=>
  some wZ
 else
  some (AD.mk p2.op p2.num l7)
def GV (N:Nat):Nat->AJ->Int->AD->Int->Option (AD)
 |0,_,_,_,_=>none
 |n+1,p0,p1,p2,p3=>Lg N (GV N n) p0 p1 p2 p3
def PR (N:Nat)(p0:AJ)(p1:Int)(p2:AD)(p3:Int):Option (AD):=GV N N p0 p1 p2 p3
def F9 (N:Nat)(p0:AJ)(p1:Int):Nat->Int->(List AD)->Option (List AD)
 |0,_,_=>none
 |n+1,i11,zh=>
  if decide (i11<Sh.len p0.funcs)=true then
   (Sh.get p0.funcs i11).bind λc21=>
   (PR N p0 p1 c21.body (Sh.len c21.params)).bind λwV=>
   (Sh.app zh [wV] 40).bind λl23=>
   F9 N p0 p1 n (Sh.w (i11+1)) l23
  else
   some zh
def GZ (N:Nat)(p0:AJ)(p1:Int):Option (AJ×Bool):=
 (
  Option.bind (BM N p0) λxm=>
  if (!xm)=true then
   some true
  else
   (Di N p0 p1).bind λxn=>
   some (!xn)
 ).bind λt4=>
 if t4=true then
  some (AJ.mk [] [],false)
 else
  (F9 N p0 p1 N 0 []).bind λl13=>
  (IW N p0 l13).bind λwL=>
  some (wL.1,wL.2)
def Lh (N:Nat)(tl:Int)(uA:List AK)(uQ:List AU)(s2:List AD)(xQ xD p1:Int):Option (AD):=
 (
  if (!decide (xQ=9))=true then
   some true
  else
   some (!decide (xD=tl))
 ).bind λt4=>
 if t4=true then
  some (AD.mk xQ xD s2)
 else
  (Sh.get uQ tl).bind λc9=>
  (Gs N c9.body 0 p1).bind λvT=>
  (LY N vT.kids s2 vT.op vT.num p1).bind λvb=>
  some vb
def Cs (N:Nat)(s0:List AD)(uR:List AK)(uS:List AU)(p0:List AK)(tn ug p2:Int)(uF:(List AD)->Int->(List AK)->(List AU)->(List AK)->Int->Int->Int->Option (AD×Int)):Nat->Int->(List AD)->Int->Option ((List AD)×Int)
 |0,_,_,_=>none
 |n+1,t4,l5,f6=>
  if decide (t4<Sh.len s0)=true then
   (
    Option.bind (
     if decide (tn=13)=true then
      some (decide (t4=1))
     else
      some false
    ) λt25=>
    if t25=true then
     some (Sh.w (p2+1))
    else
     (
      if decide (tn=8)=true then
       some (decide (0<t4))
      else
       some false
     ).bind λt29=>
     if t29=true then
      (Iw N p0 ug).bind λxy=>
      (Sh.get xy (Sh.w (t4-1))).bind λc33=>
      (Eg N p0 c33).bind λwA=>
      some (Sh.w (p2+Sh.len wA))
     else
      some p2
   ).bind λscope19=>
   (Sh.get l5 t4).bind λc21=>
   (uF c21.kids f6 uR uS p0 c21.op c21.num scope19).bind λwV=>
   Cs N s0 uR uS p0 tn ug p2 uF n (Sh.w (t4+1)) (Sh.put l5 t4 wV.1) wV.2
  else
   some (l5,f6)
def Hg (N:Nat)(uF:(List AD)->Int->(List AK)->(List AU)->(List AK)->Int->Int->Int->Option (AD×Int))(s0:List AD)(uA:Int)(uR:List AK)(uS:List AU)(p0:List AK)(tn ug p2:Int):Option (AD×Int):=
 (Cs N s0 uR uS p0 tn ug p2 uF N 0 s0 uA).bind λ(l7,f8)=>
 (Lh N f8 uR uS l7 tn ug p2).bind λvb=>
 some (vb,f8)
def DO (N:Nat):Nat->(List AD)->Int->(List AK)->(List AU)->(List AK)->Int->Int->Int->Option (AD×Int)
 |0,_,_,_,_,_,_,_,_=>none
 |n+1,s0,uA,uR,uS,p0,tn,ug,p2=>Hg N (DO N n) s0 uA uR uS p0 tn ug p2
def KU (N:Nat)(s0:List AD)(uA:Int)(uR:List AK)(uS:List AU)(p0:List AK)(tn ug p2:Int):Option (AD×Int):=DO N N s0 uA uR uS p0 tn ug p2
def Dp (N:Nat)(uA:List AK)(uQ:List AU)(p0 q3:AJ):Nat->Int->Int->(List AU)->Option ((AJ×Bool×Int) ⊕ (Int×(List AU)))
 |0,_,_,_=>none
 |n+1,t6,f7,l8=>
  if decide (t6<Sh.len q3.funcs)=true then
   (Sh.get l8 t6).bind λwR=>
   (KU N wR.body.kids f7 uA uQ p0.decls wR.body.op wR.body.num (Sh.len wR.params)).bind λvz=>
   (Sh.get (Sh.put l8 t6 (AU.mk wR.params wR.result vz.1)) t6).bind λc23=>
   (JN N c23.body).bind λxm=>
   if decide (xm<0)=true then
    some (Sum.inl (AJ.mk [] [],false,vz.2))
   else
    Dp N uA uQ p0 q3 n (Sh.w (t6+1)) vz.2 (Sh.put l8 t6 (AU.mk wR.params wR.result vz.1))
  else
   some (Sum.inr (f7,l8))
def Jj (N:Nat)(tl:Int)(uA:List AK)(uQ:List AU)(p0:AJ):Option (AJ×Bool×Int):=
 (Hf N p0).bind λq3=>
 Sh.cont (Dp N uA uQ p0 q3 N 0 tl q3.funcs) id λ(f9,l10)=>
 some (AJ.mk q3.decls l10,true,f9)
def FV (N:Nat)(p0:AJ)(p1:Int):Option (AJ×Bool):=
 (Dk N p0 p1).bind λq4=>
 if (!q4)=true then
  some (AJ.mk [] [],false)
 else
  (Jj N p1 p0.decls p0.funcs p0).bind λvT=>
  some (vT.1,vT.2.1)
end RC
namespace RC
def EW (p0 p1:List Int):Nat->Int->Option (Bool⊕Unit)
 |0,_=>none
 |n+1,i10=>
  if decide (i10<Sh.len p0)=true then
   (Sh.get p0 i10).bind λxV=>
   (Sh.get p1 i10).bind λwR=>
   if (!decide (xV=wR))=true then
    some (Sum.inl false)
   else
    EW p0 p1 n (Sh.w (i10+1))
  else
   some (Sum.inr ())
def Hq (N:Nat)(p0 p1:List Int):Option Bool:=
 if (!decide ((Sh.len p0)=Sh.len p1))=true then
  some false
 else
  Sh.cont (EW p0 p1 N 0) id λ()=>
  some true
def EC (N:Nat)(i10:Int)(p0 p1:List AK):Nat->Int->Option (Bool⊕Unit)
 |0,_=>none
 |n+1,k24=>
  (Sh.get p0 i10).bind λc28=>
  if decide (k24<Sh.len c28.cons)=true then
   (Sh.get c28.cons k24).bind λc32=>
   (Sh.get p1 i10).bind λc33=>
   (Sh.get c33.cons k24).bind λc34=>
   (Hq N c32.fields c34.fields).bind λyL=>
   if (!yL)=true then
    some (Sum.inl false)
   else
    EC N i10 p0 p1 n (Sh.w (k24+1))
  else
   some (Sum.inr ())
def EA (N:Nat)(p0 p1:List AK):Nat->Int->Option (Bool⊕Unit)
 |0,_=>none
 |n+1,i10=>
  if decide (i10<Sh.len p0)=true then
   (
    Option.bind (Sh.get p0 i10) λc40=>
    (Sh.get p1 i10).bind λc41=>
    if (!decide (c40.from_=c41.from_))=true then
     some true
    else
    if (!decide (c40.to=c41.to))=true then
     some true
    else
     some (!decide ((Sh.len c40.cons)=Sh.len c41.cons))
   ).bind λt19=>
   if t19=true then
    some (Sum.inl false)
   else
    Sh.cont (EC N i10 p0 p1 N 0) (λx=>Sum.inl x) λ()=>
    EA N p0 p1 n (Sh.w (i10+1))
  else
   some (Sum.inr ())
def Ih (N:Nat)(p0 p1:List AK):Option Bool:=
 if (!decide ((Sh.len p0)=Sh.len p1))=true then
  some false
 else
  Sh.cont (EA N p0 p1 N 0) id λ()=>
  some true
def Dl (p0 p1:AD)(uN:AD->AD->Option Bool):Nat->Int->Option (Bool⊕Unit)
 |0,_=>none
 |n+1,i10=>
  if decide (i10<Sh.len p0.kids)=true then
   (Sh.get p0.kids i10).bind λxV=>
   (Sh.get p1.kids i10).bind λwR=>
   (uN xV wR).bind λvz=>
   if (!vz)=true then
    some (Sum.inl false)
   else
    Dl p0 p1 uN n (Sh.w (i10+1))
  else
   some (Sum.inr ())
def Jd (N:Nat)(uN:AD->AD->Option Bool)(p0 p1:AD):Option Bool:=
 (
  if (!decide (p0.op=p1.op))=true then
   some true
  else
  if (!decide (p0.num=p1.num))=true then
   some true
  else
   some (!decide ((Sh.len p0.kids)=Sh.len p1.kids))
 ).bind λt4=>
 if t4=true then
  some false
 else
  Sh.cont (Dl p0 p1 uN N 0) id λ()=>
  some true
def Fg (N:Nat):Nat->AD->AD->Option Bool
 |0,_,_=>none
 |n+1,p0,p1=>Jd N (Fg N n) p0 p1
def MW (N:Nat)(p0 p1:AD):Option Bool:=Fg N N p0 p1
def DU (N:Nat)(p0 p1:AJ):Nat->Int->Option (Bool⊕Unit)
 |0,_=>none
 |n+1,i10=>
  if decide (i10<Sh.len p0.funcs)=true then
   (
    Option.bind (Sh.get p0.funcs i10) λc22=>
    (Sh.get p1.funcs i10).bind λc23=>
    (Hq N c22.params c23.params).bind λxm=>
    if (!xm)=true then
     some true
    else
    if (!decide (c22.result=c23.result))=true then
     some true
    else
     (MW N c22.body c23.body).bind λwy=>
     some (!wy)
   ).bind λt18=>
   if t18=true then
    some (Sum.inl false)
   else
    DU N p0 p1 n (Sh.w (i10+1))
  else
   some (Sum.inr ())
def FI (N:Nat)(p0 p1:AJ):Option Bool:=
 (
  Option.bind (Ih N p0.decls p1.decls) λwW=>
  if (!wW)=true then
   some true
  else
   some (!decide ((Sh.len p0.funcs)=Sh.len p1.funcs))
 ).bind λt4=>
 if t4=true then
  some false
 else
  Sh.cont (DU N p0 p1 N 0) id λ()=>
  some true
end RC
namespace RC
def Im (N:Nat)(p0:List Int):Option (AJ×Int):=
 (HJ N p0).bind λq3=>
 some (q3.1,q3.2)
end RC
namespace RC
def Iz (N:Nat)(p0:List Int):Option Bool:=
 if decide (1048576<Sh.len p0)=true then
  some true
 else
  (Im N p0).bind λq7=>
  (FV N q7.1 q7.2).bind λq9=>
  (GZ N q7.1 q7.2).bind λvb=>
  (
   Option.bind (FI N q9.1 vb.1) λyG=>
   if (!yG)=true then
    some true
   else
   if (q9.2 != vb.2)=true then
    some true
   else
    some (!q9.2)
  ).bind λt14=>
  if t14=true then
   (
    Option.bind (FI N q9.1 vb.1) λvz=>
    if vz=true then
     some (q9.2==vb.2)
    else
     some false
   ).bind λt18=>
   some t18
  else
   (FV N q9.1 q7.2).bind λvf=>
   (
    if vf.2=true then
     (FI N vf.1 q9.1).bind λwW=>
     if wW=true then
      (JI N q7.1 q7.2).bind λyK=>
      if decide (0<yK)=true then
       some true
      else
       (FI N q9.1 q7.1).bind λxy=>
       some xy
     else
      some false
    else
     some false
   ).bind λt25=>
   some t25
end RC
