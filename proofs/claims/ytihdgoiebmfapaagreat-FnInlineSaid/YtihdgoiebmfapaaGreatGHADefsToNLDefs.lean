import Derived.Test.YtihdgoiebmfapaaGreatSufF
set_option linter.all false
namespace RC
def aN (p0:List Int)(p1:Int):Option Int:=
 if (decide ((Sh.w (p1-(Sh.len p0)))<0))=true then
  some (-1)
 else
  some (Sh.w (p1-(Sh.len p0)))
def Cw (p0 p1 p2:Int):Option Bool:=
 (
  if decide (p1<=p0)=true then
   some (decide (p0<=p2))
  else
   some false
 ).bind λt3=>
 some t3
def CN (p0:List Int):Option (List Int):=
 (Sh.app ([]:List Int) p0 8).bind λl6=>
 some l6
end RC
namespace RC
def dP (p0:D6)(p1:Int):Option Int:=
 (aN p0.fields p1).bind λq3=>
 if decide (q3<0)=true then
  some (-1)
 else
  some q3
def WN (p0:List D6):Nat->Int->Int->Option (Int⊕Int)
 |0,_,_=>none
 |n+1,left9,i10=>
  if decide (i10<Sh.len p0)=true then
   (Sh.get p0 i10).bind λwS=>
   (dP wS left9).bind λwD=>
   if decide (wD<0)=true then
    some (Sum.inl (-1))
   else
    WN p0 n wD (Sh.w (i10+1))
  else
   some (Sum.inr left9)
def Fg (p0:List AL)(p1:List Int):Nat->Int->Option (Bool⊕Unit)
 |0,_=>none
 |n+1,i4=>
  if decide (i4<Sh.len p1)=true then
   (Sh.get p1 i4).bind λyR=>
   (Cw yR 0 (Sh.len p0)).bind λvX=>
   if (!vX)=true then
    some (Sum.inl false)
   else
    Fg p0 p1 n (Sh.w (i4+1))
  else
   some (Sum.inr ())
def Il (N:Nat)(p0:List AL)(p1:List Int):Option Bool:=
 Sh.cont (Fg p0 p1 N 0) id λ()=>
 some true
def FF (N:Nat)(c3:AL)(p0:List AL):Nat->Int->Option (Bool⊕Unit)
 |0,_=>none
 |n+1,i15=>
  if decide (i15<Sh.len c3.cons)=true then
   (
    Option.bind (Sh.get c3.cons i15) λc27=>
    if decide (3<Sh.len c27.fields)=true then
     some true
    else
     (Il N p0 c27.fields).bind λyS=>
     some (!yS)
   ).bind λt23=>
   if t23=true then
    some (Sum.inl false)
   else
    FF N c3 p0 n (Sh.w (i15+1))
  else
   some (Sum.inr ())
def FH (c3:AL)(p0:List AL)(p1:Int):Nat->Int->Option (Bool⊕Unit)
 |0,_=>none
 |n+1,i34=>
  if decide (i34<p1)=true then
   (
    Option.bind (Sh.get p0 i34) λc51=>
    if decide ((Sh.len c51.cons)=0)=true then
     if decide (c51.from_=c3.from_)=true then
      some (decide (c51.to=c3.to))
     else
      some false
    else
     some false
   ).bind λt47=>
   if t47=true then
    some (Sum.inl false)
   else
    FH c3 p0 p1 n (Sh.w (i34+1))
  else
   some (Sum.inr ())
def I8 (N:Nat)(p0:List AL)(p1:Int):Option Bool:=
 (Sh.get p0 p1).bind λc3=>
 if decide (0<Sh.len c3.cons)=true then
  (
   if decide (3<Sh.len c3.cons)=true then
    some true
   else
   if (!decide (c3.from_=0))=true then
    some true
   else
    some (!decide (c3.to=0))
  ).bind λt9=>
  if t9=true then
   some false
  else
   Sh.cont (FF N c3 p0 N 0) id λ()=>
   some true
 else
  Sh.cont (FH c3 p0 p1 N 0) id λ()=>
  (
   Option.bind (Cw c3.from_ 0 (Sh.len p0)) λzZ=>
   if zZ=true then
    (Cw c3.to 0 (Sh.len p0)).bind λq41=>
    some q41
   else
    some false
  ).bind λt37=>
  some t37
def Eo (N:Nat)(p0:List AL):Nat->Int->Option (Bool⊕Unit)
 |0,_=>none
 |n+1,i8=>
  if decide (i8<Sh.len p0)=true then
   (I8 N p0 i8).bind λwM=>
   if (!wM)=true then
    some (Sum.inl false)
   else
    Eo N p0 n (Sh.w (i8+1))
  else
   some (Sum.inr ())
def Io (N:Nat)(p0:List AL):Option Bool:=
 if decide (4<Sh.len p0)=true then
  some false
 else
  Sh.cont (Eo N p0 N 0) id λ()=>
  some true
def EY (N:Nat)(p0:AJ):Nat->Int->Option (Bool⊕Unit)
 |0,_=>none
 |n+1,i10=>
  if decide (i10<Sh.len p0.funcs)=true then
   (Sh.get p0.funcs i10).bind λc22=>
   (
    if decide (3<Sh.len c22.params)=true then
     some true
    else
     (Il N p0.decls c22.params).bind λyS=>
     if (!yS)=true then
      some true
     else
      (Cw c22.result 0 (Sh.len p0.decls)).bind λq31=>
      some (!q31)
   ).bind λt24=>
   if t24=true then
    some (Sum.inl false)
   else
    EY N p0 n (Sh.w (i10+1))
  else
   some (Sum.inr ())
def Hs (N:Nat)(p0:AJ):Option Bool:=
 (
  Option.bind (Io N p0.decls) λzF=>
  if (!zF)=true then
   some true
  else
   (Cw (Sh.len p0.funcs) 1 4).bind λvy=>
   some (!vy)
 ).bind λt4=>
 if t4=true then
  some false
 else
  Sh.cont (EY N p0 N 0) id λ()=>
  (
   Option.bind (Sh.get p0.funcs 0) λza=>
   if decide ((Sh.len za.params)=0)=true then
    some (decide (za.result=0))
   else
    some false
  ).bind λt13=>
  some t13
def E4 (p0:List AL)(p1:Int):Nat->Int->Int->Option Int
 |0,_,_=>none
 |n+1,n5,i6=>
  if decide (i6<p1)=true then
   (Sh.get p0 i6).bind λwx=>
   E4 p0 p1 n (Sh.w (n5+Sh.len wx.cons)) (Sh.w (i6+1))
  else
   some n5
def Hg (N:Nat)(p0:List AL)(p1:Int):Option Int:=
 (E4 p0 p1 N 0 0).bind λn7=>
 some n7
def EI (N:Nat)(p0:List AL)(p1:Int):Nat->Int->Option (Int⊕Unit)
 |0,_=>none
 |n+1,i4=>
  if decide (i4<Sh.len p0)=true then
   (Hg N p0 i4).bind λwE=>
   (Sh.get p0 i4).bind λwx=>
   (Cw p1 wE (Sh.w ((Sh.w (wE+Sh.len wx.cons))-1))).bind λvl=>
   if vl=true then
    some (Sum.inl (Sh.w (i4+1)))
   else
    EI N p0 p1 n (Sh.w (i4+1))
  else
   some (Sum.inr ())
def Gw (N:Nat)(p0:List AL)(p1:Int):Option Int:=
 Sh.cont (EI N p0 p1 N 0) id λ()=>
 some (-1)
def Bt (N:Nat)(p0:List AL)(p1:Int):Option (List Int):=
 (Gw N p0 p1).bind λq3=>
 if decide (q3<1)=true then
  some []
 else
  (Sh.get p0 (Sh.w (q3-1))).bind λc9=>
  (Hg N p0 (Sh.w (q3-1))).bind λvU=>
  (Sh.get c9.cons (Sh.w (p1-vU))).bind λc11=>
  some c11.fields
def Fy (N:Nat)(p0:List AL)(p1:Int):Nat->Int->(List Int)->Option (List Int)
 |0,_,_=>none
 |n+1,i12,l13=>
  (Sh.get p0 (Sh.w (p1-1))).bind λwS=>
  if decide (i12<Sh.len wS.cons)=true then
   (Hg N p0 (Sh.w (p1-1))).bind λwW=>
   (Sh.app l13 [Sh.w (wW+i12)] 8).bind λl23=>
   Fy N p0 p1 n (Sh.w (i12+1)) l23
  else
   some l13
def G0 (N:Nat)(p0:List AL)(p1:Int):Option (List Int):=
 (Cw p1 1 (Sh.len p0)).bind λq5=>
 if (!q5)=true then
  some []
 else
  (Fy N p0 p1 N 0 []).bind λvc=>
  some vc
def Hz (p0:List AL)(p1:Int):Option Bool:=
 (
  if decide (0<=p1)=true then
   some (decide (p1<=Sh.len p0))
  else
   some false
 ).bind λt3=>
 some t3
def Ff (p0:List AL)(p1:List Int):Nat->Int->Option (Bool⊕Unit)
 |0,_=>none
 |n+1,t4=>
  if decide (t4<Sh.len p1)=true then
   (Sh.get p1 t4).bind λyR=>
   (Hz p0 yR).bind λyn=>
   if (!yn)=true then
    some (Sum.inl false)
   else
    Ff p0 p1 n (Sh.w (t4+1))
  else
   some (Sum.inr ())
def Hi (N:Nat)(p0:List AL)(p1:List Int):Option Bool:=
 Sh.cont (Ff p0 p1 N 0) id λ()=>
 some true
def EB (wh:AL)(l28:List AL):Nat->Int->Option (Bool⊕Unit)
 |0,_=>none
 |n+1,t29=>
  if decide (t29<Sh.len l28)=true then
   (Sh.get l28 t29).bind λc36=>
   (
    if decide ((Sh.len wh.cons)=0)=true then
     if decide ((Sh.len c36.cons)=0)=true then
      if decide (c36.from_=wh.from_)=true then
       some (decide (c36.to=wh.to))
      else
       some false
     else
      some false
    else
     some false
   ).bind λt38=>
   if t38=true then
    some (Sum.inl false)
   else
    EB wh l28 n (Sh.w (t29+1))
  else
   some (Sum.inr ())
def ED (N:Nat)(wh:AL)(p0:List AL):Nat->Int->Option (Bool⊕Unit)
 |0,_=>none
 |n+1,t25=>
  if decide (t25<Sh.len wh.cons)=true then
   (Sh.get wh.cons t25).bind λzb=>
   (
    if decide (3<Sh.len zb.fields)=true then
     some true
    else
     (Hi N p0 zb.fields).bind λq57=>
     some (!q57)
   ).bind λt52=>
   if t52=true then
    some (Sum.inl false)
   else
    ED N wh p0 n (Sh.w (t25+1))
  else
   some (Sum.inr ())
def Er (N:Nat)(p0:List AL):Nat->Int->Option (Bool⊕Unit)
 |0,_=>none
 |n+1,t8=>
  if decide (t8<Sh.len p0)=true then
   (Sh.get p0 t8).bind λwh=>
   (
    Option.bind (Hz p0 wh.from_) λq58=>
    if (!q58)=true then
     some true
    else
     (Hz p0 wh.to).bind λq60=>
     if (!q60)=true then
      some true
     else
     if decide (3<Sh.len wh.cons)=true then
      some true
     else
     if decide (0<Sh.len wh.cons)=true then
      if (!decide (wh.from_=0))=true then
       some true
      else
       some (!decide (wh.to=0))
     else
      some false
   ).bind λt19=>
   if t19=true then
    some (Sum.inl false)
   else
    Sh.cont (ED N wh p0 N 0) (λx=>Sum.inl x) λ()=>
    (Sh.sl p0 0 t8).bind λl28=>
    Sh.cont (EB wh l28 N 0) (λx=>Sum.inl x) λ()=>
    Er N p0 n (Sh.w (t8+1))
  else
   some (Sum.inr ())
def Ie (N:Nat)(p0:List AL):Option Bool:=
 if decide (4<Sh.len p0)=true then
  some false
 else
  Sh.cont (Er N p0 N 0) id λ()=>
  some true
def EU (xW:By):Nat->Int->Option (Bool⊕Unit)
 |0,_=>none
 |n+1,t26=>
  if decide (t26<Sh.len xW.Gb)=true then
   (Sh.get xW.Gb t26).bind λc33=>
   (
    if decide (c33<0)=true then
     some true
    else
    if decide ((Sh.len xW.params)<=c33)=true then
     some true
    else
     (Sh.get xW.params c33).bind λc41=>
     if decide (c41=0)=true then
      some true
     else
     if decide (0<t26)=true then
      (Sh.get xW.Gb (Sh.w (t26-1))).bind λc44=>
      some (decide (c33<=c44))
     else
      some false
   ).bind λt35=>
   if t35=true then
    some (Sum.inl false)
   else
    EU xW n (Sh.w (t26+1))
  else
   some (Sum.inr ())
def EX (N:Nat)(p0:List AL)(p1:List By):Nat->Int->Option (Bool⊕Unit)
 |0,_=>none
 |n+1,t10=>
  if decide (t10<Sh.len p1)=true then
   (Sh.get p1 t10).bind λxW=>
   (
    if decide (3<Sh.len xW.params)=true then
     some true
    else
     (Hi N p0 xW.params).bind λq46=>
     if (!q46)=true then
      some true
     else
      (Hz p0 xW.result).bind λq48=>
      some (!q48)
   ).bind λt21=>
   if t21=true then
    some (Sum.inl false)
   else
    Sh.cont (EU xW N 0) (λx=>Sum.inl x) λ()=>
    EX N p0 p1 n (Sh.w (t10+1))
  else
   some (Sum.inr ())
def I6 (N:Nat)(p0:List AL)(p1:List By):Option Bool:=
 (
  Option.bind (Ie N p0) λyp=>
  if (!yp)=true then
   some true
  else
  if decide ((Sh.len p1)<1)=true then
   some true
  else
  if decide (4<Sh.len p1)=true then
   some true
  else
   (Sh.get p1 0).bind λc53=>
   if decide (0<Sh.len c53.params)=true then
    some true
   else
    some (!decide (c53.result=0))
 ).bind λt4=>
 if t4=true then
  some false
 else
  Sh.cont (EX N p0 p1 N 0) id λ()=>
  some true
def E3 (p0:List AL):Nat->Int->Int->Option Int
 |0,_,_=>none
 |n+1,n5,t6=>
  if decide (t6<Sh.len p0)=true then
   (Sh.get p0 t6).bind λza=>
   E3 p0 n (Sh.w (n5+Sh.len za.cons)) (Sh.w (t6+1))
  else
   some n5
def Ju (N:Nat)(p0:List AL):Option Int:=
 (E3 p0 N 0 0).bind λn7=>
 some n7
def Fz (wx:AL)(vU:Int):Nat->Int->(List Int)->Option (List Int)
 |0,_,_=>none
 |n+1,t15,ze=>
  if decide (t15<Sh.len wx.cons)=true then
   (Sh.app ze [Sh.w (vU+t15)] 8).bind λl25=>
   Fz wx vU n (Sh.w (t15+1)) l25
  else
   some ze
def I0 (N:Nat)(p0:List AL)(p1:Int):Option (List Int):=
 (
  if decide (p1<1)=true then
   some true
  else
   some (decide ((Sh.len p0)<p1))
 ).bind λt4=>
 if t4=true then
  some []
 else
  (Sh.sl p0 0 (Sh.w (p1-1))).bind λl9=>
  (Ju N l9).bind λvU=>
  (Sh.get p0 (Sh.w (p1-1))).bind λwx=>
  (Fz wx vU N 0 []).bind λl17=>
  some l17
def Fl (p0:List AL):Nat->Int->Int->Option ((Int×D6) ⊕ Unit)
 |0,_,_=>none
 |n+1,c4,t5=>
  if decide (t5<Sh.len p0)=true then
   (Sh.get p0 t5).bind λc13=>
   (
    if decide (0<=c4)=true then
     some (decide (c4<Sh.len c13.cons))
    else
     some false
   ).bind λt16=>
   if t16=true then
    (Sh.get c13.cons c4).bind λc20=>
    some (Sum.inl (Sh.w (t5+1),c20))
   else
    Fl p0 n (Sh.w (c4-(Sh.len c13.cons))) (Sh.w (t5+1))
  else
   some (Sum.inr ())
def Ir (N:Nat)(p0:List AL)(p1:Int):Option (Int×D6):=
 Sh.cont (Fl p0 N p1 0) id λ()=>
 some (-1,D6.mk [])
def Eg (N:Nat)(p0:List AL)(p1:Int):Option (List Int):=
 (Ir N p0 p1).bind λq3=>
 some q3.2.fields
end RC
namespace RC
end RC
namespace RC
def OY (p0:List AD)(uw:AD->Int->Option Int):Nat->Int->Int->Option (Int⊕Int)
 |0,_,_=>none
 |n+1,left9,i10=>
  if decide (i10<Sh.len p0)=true then
   (Sh.get p0 i10).bind λwS=>
   (uw wS left9).bind λwD=>
   if decide (wD<0)=true then
    some (Sum.inl (-1))
   else
    OY p0 uw n wD (Sh.w (i10+1))
  else
   some (Sum.inr left9)
def ZA (N:Nat)(uw:AD->Int->Option Int)(p0:List AD)(p1:Int):Option Int:=
 if (decide ((Sh.w (p1-(Sh.len p0)))<0))=true then
  some (-1)
 else
  Sh.cont (OY p0 uw N (Sh.w (p1-(Sh.len p0))) 0) id λzh=>
  some zh
def Xq (N:Nat)(uw:AD->Int->Option Int)(p0:AD)(p1:Int):Option Int:=
 (ZA N uw p0.kids p1).bind λq3=>
 if decide (q3<0)=true then
  some (-1)
 else
  some q3
def Xp (N:Nat):Nat->AD->Int->Option Int
 |0,_,_=>none
 |n+1,p0,p1=>Xq N (Xp N n) p0 p1
def Dw (p0:AD)(uM:AD->Int->Option Int):Nat->Int->Int->Option (Int⊕Int)
 |0,_,_=>none
 |n+1,left9,i10=>
  if decide (i10<Sh.len p0.kids)=true then
   (Sh.get p0.kids i10).bind λwS=>
   (uM wS left9).bind λwD=>
   if decide (wD<0)=true then
    some (Sum.inl (-1))
   else
    Dw p0 uM n wD (Sh.w (i10+1))
  else
   some (Sum.inr left9)
def Jg (N:Nat)(uM:AD->Int->Option Int)(p0:AD)(p1:Int):Option Int:=
 if decide (p1<1)=true then
  some (-1)
 else
  Sh.cont (Dw p0 uM N (Sh.w (p1-1)) 0) id λzh=>
  some zh
def Fe (N:Nat):Nat->AD->Int->Option Int
 |0,_,_=>none
 |n+1,p0,p1=>Jg N (Fe N n) p0 p1
def Mf (N:Nat)(p0:AD)(p1:Int):Option Int:=Fe N N p0 p1
def HT (N:Nat)(p0:AD):Option Int:=
 (Mf N p0 30).bind λq3=>
 if decide (q3<0)=true then
  some (-1)
 else
  some (Sh.w (30-q3))
def GI (p0:AJ)(p1:List Int)(p2:List AD)(p3:Int)(tq:AJ->(List Int)->AD->Option Int):Nat->Int->Option (Bool⊕Unit)
 |0,_=>none
 |n+1,i10=>
  if decide (i10<p3)=true then
   (Sh.get p2 i10).bind λxW=>
   (tq p0 p1 xW).bind λwF=>
   if (!decide (wF=0))=true then
    some (Sum.inl false)
   else
    GI p0 p1 p2 p3 tq n (Sh.w (i10+1))
  else
   some (Sum.inr ())
def JS (N:Nat)(tq:AJ->(List Int)->AD->Option Int)(p0:AJ)(p1:List Int)(p2:List AD)(p3:Int):Option Bool:=
 if (!decide ((Sh.len p2)=p3))=true then
  some false
 else
  Sh.cont (GI p0 p1 p2 p3 tq N 0) id λ()=>
  some true
def G1 (p0:AJ)(p1:List Int)(p2:List AD)(p3:List Int)(tq:AJ->(List Int)->AD->Option Int):Nat->Int->Option (Bool⊕Unit)
 |0,_=>none
 |n+1,i10=>
  if decide (i10<Sh.len p3)=true then
   (Sh.get p2 i10).bind λxW=>
   (tq p0 p1 xW).bind λwF=>
   (Sh.get p3 i10).bind λc20=>
   if (!decide (wF=c20))=true then
    some (Sum.inl false)
   else
    G1 p0 p1 p2 p3 tq n (Sh.w (i10+1))
  else
   some (Sum.inr ())
def Jt (N:Nat)(tq:AJ->(List Int)->AD->Option Int)(p0:AJ)(p1:List Int)(p2:List AD)(p3:List Int):Option Bool:=
 if (!decide ((Sh.len p2)=Sh.len p3))=true then
  some false
 else
  Sh.cont (G1 p0 p1 p2 p3 tq N 0) id λ()=>
  some true
def Fu (p0:List Int):Option (List Int):=
 (Sh.app ([]:List Int) p0 8).bind λl3=>
 some l3
def Ex (p0 p1:List Int):Option (List Int):=
 (Fu p0).bind λq3=>
 (Sh.app q3 p1 8).bind λl4=>
 some l4
def EV (N:Nat)(p0:AJ)(p1:List Int)(p2:AD)(vl:Int)(q3:List Int)(tq:AJ->(List Int)->AD->Option Int):Nat->Int->Option (Int⊕Unit)
 |0,_=>none
 |n+1,i18=>
  if decide (i18<Sh.len q3)=true then
   (Sh.get q3 i18).bind λc26=>
   (Bt N p0.decls c26).bind λwy=>
   (Ex p1 wy).bind λwz=>
   (Sh.get p2.kids (Sh.w (1+i18))).bind λc29=>
   (tq p0 wz c29).bind λzG=>
   if (!decide (zG=vl))=true then
    some (Sum.inl (-1))
   else
    EV N p0 p1 p2 vl q3 tq n (Sh.w (i18+1))
  else
   some (Sum.inr ())
def Kj (N:Nat)(tq:AJ->(List Int)->AD->Option Int)(p0:AJ)(p1:List Int)(p2:AD):Option Int:=
 (G0 N p0.decls p2.num).bind λq3=>
 (
  if decide ((Sh.len q3)=0)=true then
   some true
  else
  if (!decide ((Sh.len p2.kids)=Sh.w (1+Sh.len q3)))=true then
   some true
  else
   (Sh.get p2.kids 0).bind λc37=>
   (tq p0 p1 c37).bind λyU=>
   some (!decide (yU=p2.num))
 ).bind λt6=>
 if t6=true then
  some (-1)
 else
  (Sh.get q3 0).bind λc11=>
  (Bt N p0.decls c11).bind λwE=>
  (Ex p1 wE).bind λvX=>
  (Sh.get p2.kids 1).bind λwx=>
  (tq p0 vX wx).bind λvl=>
  Sh.cont (EV N p0 p1 p2 vl q3 tq N 1) id λ()=>
  some vl
def FP (p0:List AL)(p1 p2:Int):Nat->Int->Option (Int⊕Unit)
 |0,_=>none
 |n+1,i4=>
  if decide (i4<Sh.len p0)=true then
   (
    Option.bind (Sh.get p0 i4) λwh=>
    if decide ((Sh.len wh.cons)=0)=true then
     if decide (wh.from_=p1)=true then
      some (decide (wh.to=p2))
     else
      some false
    else
     some false
   ).bind λt12=>
   if t12=true then
    some (Sum.inl (Sh.w (i4+1)))
   else
    FP p0 p1 p2 n (Sh.w (i4+1))
  else
   some (Sum.inr ())
def JT (N:Nat)(p0:List AL)(p1 p2:Int):Option Int:=
 Sh.cont (FP p0 p1 p2 N 0) id λ()=>
 some (-1)
def Fo (N:Nat)(tq:AJ->(List Int)->AD->Option Int)(p0:AJ)(p1:List Int)(p2:AD):Option Int:=
 (Cw p2.num 0 (Sh.w ((Sh.len p0.funcs)-1))).bind λq4=>
 if (!q4)=true then
  some (-1)
 else
  (Sh.get p0.funcs p2.num).bind λyr=>
  if decide (p2.op=9)=true then
   (Jt N tq p0 p1 p2.kids yr.params).bind λwZ=>
   if (!wZ)=true then
    some (-1)
   else
    some yr.result
  else
   (
    if decide ((Sh.len yr.params)=0)=true then
     some true
    else
     (Sh.sl yr.params 0 (Sh.w ((Sh.len yr.params)-1))).bind λl33=>
     (Jt N tq p0 p1 p2.kids l33).bind λvy=>
     some (!vy)
   ).bind λt25=>
   if t25=true then
    some (-1)
   else
    (Sh.get yr.params (Sh.w ((Sh.len yr.params)-1))).bind λc30=>
    (JT N p0.decls c30 yr.result).bind λq31=>
    some q31
def HU (p0:List AL)(p1:Int):Option Bool:=
 (
  Option.bind (Cw p1 1 (Sh.len p0)) λq5=>
  if q5=true then
   (Sh.get p0 (Sh.w (p1-1))).bind λc7=>
   some (decide ((Sh.len c7.cons)=0))
  else
   some false
 ).bind λt3=>
 some t3
def Bs (N:Nat)(tq:AJ->(List Int)->AD->Option Int)(p0:AJ)(p1:List Int)(p2:AD):Option Int:=
 Sh.cont (
  if decide (p2.op=0)=true then
   (
    if decide ((Sh.len p2.kids)=0)=true then
     (Cw p2.num (-999) 999).bind λvl=>
     some vl
    else
     some false
   ).bind λt10=>
   if t10=true then
    some (Sum.inl 0)
   else
    some (Sum.inr ())
  else
  if decide (p2.op=12)=true then
   (
    if decide ((Sh.len p2.kids)=0)=true then
     (Cw p2.num 0 (Sh.w ((Sh.len p1)-1))).bind λxm=>
     some xm
    else
     some false
   ).bind λt19=>
   if t19=true then
    (Sh.get p1 p2.num).bind λc23=>
    some (Sum.inl c23)
   else
    some (Sum.inr ())
  else
   (
    if decide (p2.op=1)=true then
     some true
    else
    if decide (p2.op=2)=true then
     some true
    else
    if decide (p2.op=3)=true then
     some true
    else
     some (decide (p2.op=4))
   ).bind λt27=>
   if t27=true then
    (
     if decide (p2.num=0)=true then
      (JS N tq p0 p1 p2.kids 2).bind λq36=>
      some q36
     else
      some false
    ).bind λt31=>
    if t31=true then
     some (Sum.inl 0)
    else
     some (Sum.inr ())
   else
   if decide (p2.op=5)=true then
    (
     if decide (p2.num=0)=true then
      (JS N tq p0 p1 p2.kids 1).bind λq45=>
      some q45
     else
      some false
    ).bind λt40=>
    if t40=true then
     some (Sum.inl 0)
    else
     some (Sum.inr ())
   else
   if decide (p2.op=6)=true then
    (
     Option.bind (Gw N p0.decls p2.num) λq54=>
     if decide (0<q54)=true then
      (Bt N p0.decls p2.num).bind λq56=>
      (Jt N tq p0 p1 p2.kids q56).bind λq57=>
      some q57
     else
      some false
    ).bind λt49=>
    if t49=true then
     (Gw N p0.decls p2.num).bind λq53=>
     some (Sum.inl q53)
    else
     some (Sum.inr ())
   else
   if decide (p2.op=13)=true then
    (
     if decide (p2.num=0)=true then
      some (decide ((Sh.len p2.kids)=2))
     else
      some false
    ).bind λt61=>
    if t61=true then
     (Sh.get p2.kids 0).bind λc65=>
     (tq p0 p1 c65).bind λq66=>
     if decide (0<=q66)=true then
      (Ex p1 [q66]).bind λq70=>
      (Sh.get p2.kids 1).bind λc71=>
      (tq p0 q70 c71).bind λq72=>
      some (Sum.inl q72)
     else
      some (Sum.inr ())
    else
     some (Sum.inr ())
   else
   if decide (p2.op=7)=true then
    (
     if decide (p2.num=0)=true then
      if decide ((Sh.len p2.kids)=3)=true then
       (Sh.get p2.kids 0).bind λc90=>
       (tq p0 p1 c90).bind λq91=>
       some (decide (q91=0))
      else
       some false
     else
      some false
    ).bind λt77=>
    if t77=true then
     (Sh.get p2.kids 1).bind λc81=>
     (tq p0 p1 c81).bind λq82=>
     (Sh.get p2.kids 2).bind λc84=>
     (tq p0 p1 c84).bind λq85=>
     if decide (q85=q82)=true then
      some (Sum.inl q82)
     else
      some (Sum.inr ())
    else
     some (Sum.inr ())
   else
   if decide (p2.op=8)=true then
    (Kj N tq p0 p1 p2).bind λq95=>
    some (Sum.inl q95)
   else
    (
     if decide (p2.op=9)=true then
      some true
     else
      some (decide (p2.op=10))
    ).bind λt97=>
    if t97=true then
     (Fo N tq p0 p1 p2).bind λq101=>
     some (Sum.inl q101)
    else
    if decide (p2.op=11)=true then
     (
      if decide (p2.num=0)=true then
       some (decide ((Sh.len p2.kids)=2))
      else
       some false
     ).bind λt105=>
     if t105=true then
      (Sh.get p2.kids 0).bind λc109=>
      (tq p0 p1 c109).bind λq110=>
      (
       Option.bind (HU p0.decls q110) λq117=>
       if q117=true then
        (Sh.get p2.kids 1).bind λc119=>
        (tq p0 p1 c119).bind λq120=>
        (Sh.get p0.decls (Sh.w (q110-1))).bind λc121=>
        some (decide (q120=c121.from_))
       else
        some false
      ).bind λt112=>
      if t112=true then
       (Sh.get p0.decls (Sh.w (q110-1))).bind λc116=>
       some (Sum.inl c116.to)
      else
       some (Sum.inr ())
     else
      some (Sum.inr ())
    else
     some (Sum.inr ())
 ) id λ()=>
 some (-1)
def Ci (N:Nat):Nat->AJ->(List Int)->AD->Option Int
 |0,_,_,_=>none
 |n+1,p0,p1,p2=>Bs N (Ci N n) p0 p1 p2
def KE (N:Nat)(p0:AJ)(p1:List Int)(p2:AD):Option Int:=Ci N N p0 p1 p2
def Bl (N:Nat)(p0:AJ):Nat->Int->Option (Bool⊕Unit)
 |0,_=>none
 |n+1,i11=>
  if decide (i11<Sh.len p0.funcs)=true then
   (
    Option.bind (Sh.get p0.funcs i11) λc23=>
    (HT N c23.body).bind λxn=>
    if decide (xn<0)=true then
     some true
    else
     (KE N p0 c23.params c23.body).bind λxp=>
     some (!decide (xp=c23.result))
   ).bind λt19=>
   if t19=true then
    some (Sum.inl false)
   else
    Bl N p0 n (Sh.w (i11+1))
  else
   some (Sum.inr ())
def BM (N:Nat)(p0:AJ):Option Bool:=
 (Hs N p0).bind λq4=>
 if (!q4)=true then
  some false
 else
  Sh.cont (Bl N p0 N 0) id λ()=>
  some true
def Gp (p0:AD)(p1:Int)(vB:AD->Int->Option Int):Nat->Int->Int->Option Int
 |0,_,_=>none
 |n+1,n8,k9=>
  if decide (k9<Sh.len p0.kids)=true then
   (Sh.get p0.kids k9).bind λxQ=>
   (vB xQ p1).bind λxA=>
   Gp p0 p1 vB n (Sh.w (n8+xA)) (Sh.w (k9+1))
  else
   some n8
def Pz (N:Nat)(vB:AD->Int->Option Int)(p0:AD)(p1:Int):Option Int:=
 (
  Option.bind (
   if decide (p0.op=9)=true then
    some (decide (p0.num=p1))
   else
    some false
  ) λt20=>
  if t20=true then
   some 1
  else
   some 0
 ).bind λn4=>
 (Gp p0 p1 vB N n4 0).bind λn10=>
 some n10
def Hu (N:Nat):Nat->AD->Int->Option Int
 |0,_,_=>none
 |n+1,p0,p1=>Pz N (Hu N n) p0 p1
def SN (N:Nat)(p0:AD)(p1:Int):Option Int:=Hu N N p0 p1
def Gj (N:Nat)(p0:AJ)(p1:Int):Nat->Int->Int->Option Int
 |0,_,_=>none
 |n+1,n11,i12=>
  if decide (i12<Sh.len p0.funcs)=true then
   (Sh.get p0.funcs i12).bind λc20=>
   (SN N c20.body p1).bind λvC=>
   Gj N p0 p1 n (Sh.w (n11+vC)) (Sh.w (i12+1))
  else
   some n11
def Pr (N:Nat)(p0:AJ)(p1:Int):Option Int:=
 (
  Option.bind (BM N p0) λwW=>
  if (!wW)=true then
   some true
  else
   (Cw p1 0 (Sh.w ((Sh.len p0.funcs)-1))).bind λxn=>
   some (!xn)
 ).bind λt4=>
 if t4=true then
  some (-1)
 else
  (Gj N p0 p1 N 0 0).bind λn13=>
  some n13
def D1 (p0:AJ):Nat->Int->(List By)->Option (List By)
 |0,_,_=>none
 |n+1,t9,l10=>
  if decide (t9<Sh.len p0.funcs)=true then
   (Sh.get p0.funcs t9).bind λc20=>
   (Sh.app l10 ([By.mk c20.params [] c20.result]) 56).bind λl21=>
   D1 p0 n (Sh.w (t9+1)) l21
  else
   some l10
def Ho (N:Nat)(p0:AJ):Option Bool:=
 if decide (4<Sh.len p0.funcs)=true then
  some false
 else
  (D1 p0 N 0 []).bind λl11=>
  (I6 N p0.decls l11).bind λyn=>
  some yn
def DU (p0:AD)(uK:Int->AD->Option (Bool×Int)):Nat->Int->Int->Option ((Bool×Int) ⊕ Int)
 |0,_,_=>none
 |n+1,t9,f10=>
  if decide (t9<Sh.len p0.kids)=true then
   (Sh.get p0.kids t9).bind λwS=>
   (uK f10 wS).bind λvC=>
   if (!vC.1)=true then
    some (Sum.inl (false,vC.2))
   else
    DU p0 uK n (Sh.w (t9+1)) vC.2
  else
   some (Sum.inr f10)
def Iv (N:Nat)(uK:Int->AD->Option (Bool×Int))(tm:Int)(p0:AD):Option (Bool×Int):=
 if decide (30<Sh.w (tm+1))=true then
  some (false,Sh.w (tm+1))
 else
  Sh.cont (DU p0 uK N 0 (Sh.w (tm+1))) id λf11=>
  some (true,f11)
def FI (N:Nat):Nat->Int->AD->Option (Bool×Int)
 |0,_,_=>none
 |n+1,tm,p0=>Iv N (FI N n) tm p0
def Lr (N:Nat)(tm:Int)(p0:AD):Option (Bool×Int):=FI N N tm p0
def JR (N:Nat)(p0:AD):Option Int:=
 (Lr N 0 p0).bind λq5=>
 if (!q5.1)=true then
  some (-1)
 else
  some q5.2
def Fx (p0:AJ):Nat->Int->(List By)->Option (List By)
 |0,_,_=>none
 |n+1,t5,l6=>
  if decide (t5<Sh.len p0.funcs)=true then
   (Sh.get p0.funcs t5).bind λza=>
   (Sh.app l6 ([By.mk za.params [] za.result]) 56).bind λze=>
   Fx p0 n (Sh.w (t5+1)) ze
  else
   some l6
def Lc (N:Nat)(p0:AJ):Option (BO):=
 (Fx p0 N 0 []).bind λl7=>
 some (BO.mk p0.decls l7)
def G2 (p1:Int):Option (List Int):=
 if decide (p1<0)=true then
  none
 else
  (
   if (decide (0<Sh.w (p1-(Sh.w (0-0)))))=true then
    (Sh.mk 0 (Sh.w (p1-(Sh.w (0-0)))) 8).bind λzi=>
    (Sh.hi zi 0).bind λl13=>
    some l13
   else
    some []
  ).bind λl6=>
  some l6
def Cg (p0:List (List Int)):Nat->Int->(List Int)->Option (List Int)
 |0,_,_=>none
 |n+1,t13,vc=>
  if decide (t13<Sh.len p0)=true then
   (Sh.get p0 t13).bind λc23=>
   (Sh.app vc c23 8).bind λl24=>
   Cg p0 n (Sh.w (t13+1)) l24
  else
   some vc
def Ch (p0:List (List Int)):Nat->Int->Int->Option Int
 |0,_,_=>none
 |n+1,size5,t6=>
  if decide (t6<Sh.len p0)=true then
   (Sh.get p0 t6).bind λc30=>
   if (decide ((Sh.w (size5+Sh.len c30))<0))=true then
    none
   else
    Ch p0 n (Sh.w (size5+Sh.len c30)) (Sh.w (t6+1))
  else
   some size5
def GU (N:Nat)(p0:List (List Int)):Option (List Int):=
 (Ch p0 N 0 0).bind λsize7=>
 (G2 size7).bind λvU=>
 (Cg p0 N 0 vU).bind λzj=>
 some zj
def Bj (N:Nat)(p0:BO)(p1:List Int)(p2:List AD)(p3:List (List Int))(tr:(List Int)->BO->AD->Option Int):Nat->Int->Int->Option (Int⊕Int)
 |0,_,_=>none
 |n+1,ue,t6=>
  if decide (t6<Sh.len p2)=true then
   (Sh.get p2 t6).bind λza=>
   (Sh.get p3 t6).bind λxQ=>
   (GU N [p1,xQ]).bind λxA=>
   (tr xA p0 za).bind λwF=>
   (
    if decide (wF<0)=true then
     some true
    else
    if decide (0<t6)=true then
     some (!decide (wF=ue))
    else
     some false
   ).bind λt23=>
   if t23=true then
    some (Sum.inl (-1))
   else
    Bj N p0 p1 p2 p3 tr n wF (Sh.w (t6+1))
  else
   some (Sum.inr ue)
def Ej (N:Nat)(tr:(List Int)->BO->AD->Option Int)(p0:BO)(p1:List Int)(p2:List AD)(p3:List (List Int)):Option Int:=
 Sh.cont (Bj N p0 p1 p2 p3 tr N (-1) 0) id λwG=>
 some wG
def KY (p0:List AL)(p1:Int):Option (AL×Bool):=
 (
  if decide (p1<1)=true then
   some true
  else
  if decide ((Sh.len p0)<p1)=true then
   some true
  else
   (Sh.get p0 (Sh.w (p1-1))).bind λyR=>
   some (decide (0<Sh.len yR.cons))
 ).bind λt4=>
 if t4=true then
  some (AL.mk 0 0 [],false)
 else
  (Sh.get p0 (Sh.w (p1-1))).bind λc9=>
  some (c9,true)
def DC (p0 p1:List Int):Nat->Int->Option (Bool⊕Unit)
 |0,_=>none
 |n+1,t10=>
  if decide (t10<Sh.len p0)=true then
   (Sh.get p0 t10).bind λwS=>
   (Sh.get p1 t10).bind λc20=>
   if (!decide (wS=c20))=true then
    some (Sum.inl false)
   else
    DC p0 p1 n (Sh.w (t10+1))
  else
   some (Sum.inr ())
def DR (N:Nat)(p0 p1:List Int):Option Bool:=
 if (!decide ((Sh.len p0)=Sh.len p1))=true then
  some false
 else
  Sh.cont (DC p0 p1 N 0) id λ()=>
  some true
def FO (p0:List AL)(p1 p2:Int):Nat->Int->Option (Int⊕Unit)
 |0,_=>none
 |n+1,t4=>
  if decide (t4<Sh.len p0)=true then
   (Sh.get p0 t4).bind λyR=>
   (
    if decide ((Sh.len yR.cons)=0)=true then
     if decide (yR.from_=p1)=true then
      some (decide (yR.to=p2))
     else
      some false
    else
     some false
   ).bind λt14=>
   if t14=true then
    some (Sum.inl (Sh.w (t4+1)))
   else
    FO p0 p1 p2 n (Sh.w (t4+1))
  else
   some (Sum.inr ())
def Ka (N:Nat)(p0:List AL)(p1 p2:Int):Option Int:=
 Sh.cont (FO p0 p1 p2 N 0) id λ()=>
 some (-1)
def BH (N:Nat)(p0:BO)(p1 p2:Int)(p3:List Int):Option (Int×Bool):=
 Sh.cont (
  if decide (p1=0)=true then
   (
    if decide ((-999)<=p2)=true then
     if decide (p2<=999)=true then
      some (decide ((Sh.len p3)=0))
     else
      some false
    else
     some false
   ).bind λt15=>
   some (Sum.inl (0,t15))
  else
   (
    if decide (p1=1)=true then
     some true
    else
    if decide (p1=2)=true then
     some true
    else
    if decide (p1=3)=true then
     some true
    else
     some (decide (p1=4))
   ).bind λt20=>
   if t20=true then
    some (Sum.inr [(0:Int),0])
   else
   if decide (p1=5)=true then
    some (Sum.inr [(0:Int)])
   else
   if decide (p1=11)=true then
    if (!decide ((Sh.len p3)=2))=true then
     some (Sum.inl (-1,false))
    else
     (Sh.get p3 0).bind λc34=>
     (KY p0.decls c34).bind λyJ=>
     (
      if yJ.2=true then
       (Sh.get p3 1).bind λc41=>
       if decide (c41=yJ.1.from_)=true then
        some (decide (p2=0))
       else
        some false
      else
       some false
     ).bind λt38=>
     some (Sum.inl (yJ.1.to,t38))
   else
   if decide (p1=6)=true then
    (Ir N p0.decls p2).bind λq40=>
    (
     if decide (0<=q40.1)=true then
      (DR N p3 q40.2.fields).bind λq45=>
      some q45
     else
      some false
    ).bind λt42=>
    some (Sum.inl (q40.1,t42))
   else
    (
     if decide (p1=9)=true then
      some true
     else
      some (decide (p1=10))
    ).bind λt47=>
    if t47=true then
     (
      if decide (p2<0)=true then
       some true
      else
       some (decide ((Sh.len p0.funcs)<=p2))
     ).bind λt52=>
     if t52=true then
      some (Sum.inl (-1,false))
     else
      (Sh.get p0.funcs p2).bind λc57=>
      if decide (p1=9)=true then
       (DR N p3 c57.params).bind λq62=>
       some (Sum.inl (c57.result,q62))
      else
      if (decide ((Sh.w ((Sh.len c57.params)-1))<0))=true then
       some (Sum.inl (-1,false))
      else
       (Sh.get c57.params (Sh.w ((Sh.len c57.params)-1))).bind λc69=>
       (Ka N p0.decls c69 c57.result).bind λq70=>
       (
        if decide (0<=q70)=true then
         (Sh.sl c57.params 0 (Sh.w ((Sh.len c57.params)-1))).bind λl75=>
         (DR N p3 l75).bind λq76=>
         some q76
        else
         some false
       ).bind λt72=>
       some (Sum.inl (q70,t72))
    else
     some (Sum.inl (-1,false))
 ) id λl4=>
 (
  if decide (p2=0)=true then
   (DR N p3 l4).bind λvU=>
   some vU
  else
   some false
 ).bind λt7=>
 some (0,t7)
def CB (N:Nat)(p0:BO)(q56:List Int):Nat->Int->(List (List Int))->Option (List (List Int))
 |0,_,_=>none
 |n+1,t67,l68=>
  if decide (t67<Sh.len q56)=true then
   (Sh.get q56 t67).bind λc79=>
   (Eg N p0.decls c79).bind λq80=>
   (Sh.get l68 t67).bind λc81=>
   CB N p0 q56 n (Sh.w (t67+1)) (Sh.put l68 t67 q80)
  else
   some l68
def CA (s0:List Int)(p0:BO)(p2:AD)(tr:(List Int)->BO->AD->Option Int):Nat->Int->(List Int)->Option ((Int) ⊕ (List Int))
 |0,_,_=>none
 |n+1,t90,l91=>
  if decide (t90<Sh.len p2.kids)=true then
   (Sh.get p2.kids t90).bind λc108=>
   (tr s0 p0 c108).bind λq110=>
   (Sh.get l91 t90).bind λc111=>
   (Sh.get (Sh.put l91 t90 q110) t90).bind λc113=>
   if decide (c113<0)=true then
    some (Sum.inl (-1))
   else
    CA s0 p0 p2 tr n (Sh.w (t90+1)) (Sh.put l91 t90 q110)
  else
   some (Sum.inr l91)
def Al (N:Nat)(tr:(List Int)->BO->AD->Option Int)(s0:List Int)(p0:BO)(p2:AD):Option Int:=
 if decide (p2.op=12)=true then
  (
   if decide (0<Sh.len p2.kids)=true then
    some true
   else
   if decide (p2.num<0)=true then
    some true
   else
    some (decide ((Sh.len s0)<=p2.num))
  ).bind λt8=>
  if t8=true then
   some (-1)
  else
   (Sh.get s0 p2.num).bind λc13=>
   some c13
 else
 if decide (p2.op=13)=true then
  (
   if (!decide ((Sh.len p2.kids)=2))=true then
    some true
   else
    some (!decide (p2.num=0))
  ).bind λt20=>
  if t20=true then
   some (-1)
  else
   (Sh.get p2.kids 0).bind λc25=>
   (tr s0 p0 c25).bind λxp=>
   if decide (xp<0)=true then
    some (-1)
   else
    (Sh.app s0 [xp] 8).bind λl32=>
    (Sh.get p2.kids 1).bind λc33=>
    (tr l32 p0 c33).bind λvy=>
    some vy
 else
 if decide (p2.op=7)=true then
  (
   if (!decide ((Sh.len p2.kids)=3))=true then
    some true
   else
   if (!decide (p2.num=0))=true then
    some true
   else
    (Sh.get p2.kids 0).bind λc51=>
    (tr s0 p0 c51).bind λq52=>
    some (!decide (q52=0))
  ).bind λt41=>
  if t41=true then
   some (-1)
  else
   (Sh.sl p2.kids 1 (Sh.len p2.kids)).bind λl46=>
   (Sh.mk [] 2 24).bind λl47=>
   (Ej N tr p0 s0 l46 l47).bind λq48=>
   some q48
 else
 if decide (p2.op=8)=true then
  (I0 N p0.decls p2.num).bind λq56=>
  (
   if decide ((Sh.len q56)=0)=true then
    some true
   else
   if (!decide ((Sh.len p2.kids)=Sh.w (1+Sh.len q56)))=true then
    some true
   else
    (Sh.get p2.kids 0).bind λc84=>
    (tr s0 p0 c84).bind λq85=>
    some (!decide (q85=p2.num))
  ).bind λt59=>
  if t59=true then
   some (-1)
  else
   (Sh.mk [] (Sh.len q56) 24).bind λl64=>
   (CB N p0 q56 N 0 l64).bind λl69=>
   (Sh.sl p2.kids 1 (Sh.len p2.kids)).bind λl72=>
   (Ej N tr p0 s0 l72 l69).bind λq73=>
   some q73
 else
  (Sh.mk 0 (Sh.len p2.kids) 8).bind λl87=>
  Sh.cont (CA s0 p0 p2 tr N 0 l87) id λl92=>
  (BH N p0 p2.op p2.num l92).bind λq95=>
  if (!q95.2)=true then
   some (-1)
  else
   some q95.1
def Ba (N:Nat):Nat->(List Int)->BO->AD->Option Int
 |0,_,_,_=>none
 |n+1,s0,p0,p2=>Al N (Ba N n) s0 p0 p2
def IU (N:Nat)(s0:List Int)(p0:BO)(p2:AD):Option Int:=Ba N N s0 p0 p2
def NC (N:Nat)(p0:AJ)(p1:List Int)(p2:AD):Option Int:=
 (
  Option.bind (Ho N p0) λvX=>
  if (!vX)=true then
   some true
  else
   (JR N p2).bind λvl=>
   if decide (vl<0)=true then
    some true
   else
    (Hi N p0.decls p1).bind λwZ=>
    some (!wZ)
 ).bind λt4=>
 if t4=true then
  some (-1)
 else
  (Lc N p0).bind λq9=>
  (CN p1).bind λvU=>
  (IU N vU q9 p2).bind λvz=>
  some vz
def D7 (N:Nat)(p0:AJ):Nat->Int->Option (Bool⊕Unit)
 |0,_=>none
 |n+1,t11=>
  if decide (t11<Sh.len p0.funcs)=true then
   (Sh.get p0.funcs t11).bind λwS=>
   (NC N p0 wS.params wS.body).bind λvC=>
   if (!decide (vC=wS.result))=true then
    some (Sum.inl false)
   else
    D7 N p0 n (Sh.w (t11+1))
  else
   some (Sum.inr ())
def Bz (N:Nat)(p0:AJ):Option Bool:=
 (Ho N p0).bind λq4=>
 if (!q4)=true then
  some false
 else
  Sh.cont (D7 N p0 N 0) id λ()=>
  some true
def JY (tm uB:Int)(p0:AD):Option Int:=
 (
  if decide (p0.op=9)=true then
   some (decide (p0.num=tm))
  else
   some false
 ).bind λt3=>
 if t3=true then
  some (Sh.w (uB+1))
 else
  some uB
def F8 (p0:AD)(uq:Int->Int->AD->Option (Int×Int)):Nat->Int->Int->Int->Option (Int×Int)
 |0,_,_,_=>none
 |n+1,t6,f7,f8=>
  if decide (t6<Sh.len p0.kids)=true then
   (Sh.get p0.kids t6).bind λxQ=>
   (uq f7 f8 xQ).bind λxA=>
   F8 p0 uq n (Sh.w (t6+1)) xA.1 xA.2
  else
   some (f7,f8)
def Mx (N:Nat)(uq:Int->Int->AD->Option (Int×Int))(tm uB:Int)(p0:AD):Option (Int×Int):=
 (JY tm uB p0).bind λq3=>
 (F8 p0 uq N 0 tm q3).bind λ(f9,f10)=>
 some (f9,f10)
def H5 (N:Nat):Nat->Int->Int->AD->Option (Int×Int)
 |0,_,_,_=>none
 |n+1,tm,uB,p0=>Mx N (H5 N n) tm uB p0
def S4 (N:Nat)(tm uB:Int)(p0:AD):Option (Int×Int):=H5 N N tm uB p0
def EW (N:Nat)(p0:AJ):Nat->Int->Int->Int->Option Int
 |0,_,_,_=>none
 |n+1,t11,f12,f13=>
  if decide (t11<Sh.len p0.funcs)=true then
   (Sh.get p0.funcs t11).bind λc22=>
   (S4 N f12 f13 c22.body).bind λwH=>
   EW N p0 n (Sh.w (t11+1)) wH.1 wH.2
  else
   some f13
def JF (N:Nat)(p0:AJ)(p1:Int):Option Int:=
 (
  Option.bind (Bz N p0) λxn=>
  if (!xn)=true then
   some true
  else
  if decide (p1<0)=true then
   some true
  else
   some (decide ((Sh.len p0.funcs)<=p1))
 ).bind λt4=>
 if t4=true then
  some (-1)
 else
  (EW N p0 N 0 p1 0).bind λf14=>
  some f14
end RC
namespace RC
end RC
namespace RC
end RC
namespace RC
end RC
namespace RC
def Dl (p0:List Int)(p1:Int):Nat->Bool->Int->(List Int)->Option (Bool×(List Int))
 |0,_,_,_=>none
 |n+1,done6,i7,l8=>
  if decide (i7<Sh.len p0)=true then
   (
    Option.bind (
     if (!done6)=true then
      (Sh.get p0 i7).bind λc43=>
      some (decide (p1<=c43))
     else
      some false
    ) λt32=>
    if t32=true then
     (
      Option.bind (Sh.get p0 i7) λc39=>
      if decide (p1<c39)=true then
       (Sh.app l8 [p1] 8).bind λl41=>
       some l41
      else
       some l8
     ).bind λl36=>
     some (true,l36)
    else
     some (done6,l8)
   ).bind λ(done26,l27)=>
   (Sh.get p0 i7).bind λc29=>
   (Sh.app l27 [c29] 8).bind λl30=>
   Dl p0 p1 n done26 (Sh.w (i7+1)) l30
  else
   some (done6,l8)
def IE (N:Nat)(p0:List Int)(p1:Int):Option (List Int):=
 (Dl p0 p1 N false 0 []).bind λ(done9,l10)=>
 (
  if (!done9)=true then
   (Sh.app l10 [p1] 8).bind λl19=>
   some l19
  else
   some l10
 ).bind λl13=>
 some l13
end RC
namespace RC
def Dp (p0:AD)(uN:AD->(List Int)->Option (List Int)):Nat->(List Int)->Int->Option (List Int)
 |0,_,_=>none
 |n+1,list7,i8=>
  if decide (i8<Sh.len p0.kids)=true then
   (Sh.get p0.kids i8).bind λwh=>
   (uN wh list7).bind λwZ=>
   Dp p0 uN n wZ (Sh.w (i8+1))
  else
   some list7
def Jf (N:Nat)(uN:AD->(List Int)->Option (List Int))(p0:AD)(p1:List Int):Option (List Int):=
 (
  Option.bind (
   if decide (p0.op=9)=true then
    some true
   else
    some (decide (p0.op=10))
  ) λt19=>
  if t19=true then
   (IE N p1 p0.num).bind λwW=>
   some wW
  else
   some p1
 ).bind λlist3=>
 (Dp p0 uN N list3 0).bind λlist9=>
 some list9
def Fh (N:Nat):Nat->AD->(List Int)->Option (List Int)
 |0,_,_=>none
 |n+1,p0,p1=>Jf N (Fh N n) p0 p1
def JB (N:Nat)(p0:AD)(p1:List Int):Option (List Int):=Fh N N p0 p1
def Ek (p0:List Int)(p1:Int):Nat->Int->Option (Bool⊕Unit)
 |0,_=>none
 |n+1,i4=>
  if decide (i4<Sh.len p0)=true then
   (Sh.get p0 i4).bind λyR=>
   if decide (yR=p1)=true then
    some (Sum.inl true)
   else
    Ek p0 p1 n (Sh.w (i4+1))
  else
   some (Sum.inr ())
def HA (N:Nat)(p0:List Int)(p1:Int):Option Bool:=
 Sh.cont (Ek p0 p1 N 0) id λ()=>
 some false
def Dq (N:Nat)(zG:List Int):Nat->Int->(List Int)->Option (List Int)
 |0,_,_=>none
 |n+1,k33,l34=>
  if decide (k33<Sh.len zG)=true then
   (Sh.get zG k33).bind λc41=>
   (IE N l34 c41).bind λq42=>
   Dq N zG n (Sh.w (k33+1)) q42
  else
   some l34
def Dy (N:Nat)(p0:AJ):Nat->Int->(List Int)->Option (List Int)
 |0,_,_=>none
 |n+1,i15,ze=>
  if decide (i15<Sh.len p0.funcs)=true then
   (
    Option.bind (HA N ze i15) λxp=>
    if xp=true then
     (Sh.get p0.funcs i15).bind λc29=>
     (JB N c29.body ([]:List Int)).bind λzG=>
     (Dq N zG N 0 ze).bind λl35=>
     some l35
    else
     some ze
   ).bind λl23=>
   Dy N p0 n (Sh.w (i15+1)) l23
  else
   some ze
def Dt (N:Nat)(p0:AJ):Nat->Int->(List Int)->Option (List Int)
 |0,_,_=>none
 |n+1,vO,l6=>
  if decide (vO<Sh.len p0.funcs)=true then
   (Dy N p0 N 0 l6).bind λl17=>
   Dt N p0 n (Sh.w (vO+1)) l17
  else
   some l6
def IG (N:Nat)(p0:AJ)(p1:Int):Option (List Int):=
 (Dt N p0 N 0 [p1]).bind λl7=>
 some l7
def DO (N:Nat)(p0:AJ)(p1:Int)(vz:List Int):Nat->Int->Option (Bool⊕Unit)
 |0,_=>none
 |n+1,i14=>
  if decide (i14<Sh.len vz)=true then
   (Sh.get vz i14).bind λc22=>
   (IG N p0 c22).bind λwH=>
   (HA N wH p1).bind λxn=>
   if xn=true then
    some (Sum.inl false)
   else
    DO N p0 p1 vz n (Sh.w (i14+1))
  else
   some (Sum.inr ())
def Dk (N:Nat)(p0:AJ)(p1:Int):Option Bool:=
 (Cw p1 1 (Sh.w ((Sh.len p0.funcs)-1))).bind λq4=>
 if (!q4)=true then
  some false
 else
  (Sh.get p0.funcs p1).bind λyr=>
  (JB N yr.body ([]:List Int)).bind λvz=>
  Sh.cont (DO N p0 p1 vz N 0) id λ()=>
  some true
def GA (N:Nat)(p0:AJ)(p1:Int):Option Bool:=
 (
  Option.bind (BM N p0) λq5=>
  if q5=true then
   (Dk N p0 p1).bind λq7=>
   some q7
  else
   some false
 ).bind λt3=>
 some t3
def JX (s1:List Bool)(p0:AD):Option (List Bool):=
 (
  if decide (p0.op=9)=true then
   some true
  else
   some (decide (p0.op=10))
 ).bind λt3=>
 if t3=true then
  (Sh.get s1 p0.num).bind λc6=>
  some (Sh.put s1 p0.num true)
 else
  some s1
def E2 (p0:AD)(uY:(List Bool)->AD->Option (List Bool)):Nat->Int->(List Bool)->Option (List Bool)
 |0,_,_=>none
 |n+1,t6,l7=>
  if decide (t6<Sh.len p0.kids)=true then
   (Sh.get p0.kids t6).bind λza=>
   (uY l7 za).bind λwM=>
   E2 p0 uY n (Sh.w (t6+1)) wM
  else
   some l7
def Lb (N:Nat)(uY:(List Bool)->AD->Option (List Bool))(s1:List Bool)(p0:AD):Option (List Bool):=
 (JX s1 p0).bind λq3=>
 (E2 p0 uY N 0 q3).bind λl8=>
 some l8
def G4 (N:Nat):Nat->(List Bool)->AD->Option (List Bool)
 |0,_,_=>none
 |n+1,s1,p0=>Lb N (G4 N n) s1 p0
def Pm (N:Nat)(s1:List Bool)(p0:AD):Option (List Bool):=G4 N N s1 p0
def Hq (N:Nat)(p0:AJ)(p1:Int):Option (List Bool):=
 (Sh.mk false (Sh.len p0.funcs) 1).bind λl3=>
 (Sh.get p0.funcs p1).bind λc5=>
 (Pm N l3 c5.body).bind λq6=>
 some q6
def Eb (p0:List Bool):Nat->Int->(List Int)->Option (List Int)
 |0,_,_=>none
 |n+1,t5,l6=>
  if decide (t5<Sh.len p0)=true then
   (
    Option.bind (Sh.get p0 t5) λxQ=>
    if xQ=true then
     (Sh.app l6 [t5] 8).bind λl20=>
     some l20
    else
     some l6
   ).bind λvc=>
   Eb p0 n (Sh.w (t5+1)) vc
  else
   some l6
def Gd (N:Nat)(p0:List Bool):Option (List Int):=
 (Eb p0 N 0 []).bind λl7=>
 some l7
def G9 (N:Nat)(p0:AJ)(p1:Int):Option (List Int):=
 (
  Option.bind (Bz N p0) λvz=>
  if (!vz)=true then
   some true
  else
  if decide (p1<0)=true then
   some true
  else
   some (decide ((Sh.len p0.funcs)<=p1))
 ).bind λt4=>
 if t4=true then
  some []
 else
  (Hq N p0 p1).bind λq9=>
  (Gd N q9).bind λvU=>
  some vU
def Dm (wy:List Int):Nat->Int->(List Bool)->(List Int)->Option ((List Bool)×(List Int))
 |0,_,_,_=>none
 |n+1,t28,l29,l30=>
  if decide (t28<Sh.len wy)=true then
   (
    Option.bind (Sh.get wy t28) λc43=>
    (Sh.get l29 c43).bind λc45=>
    if (!c45)=true then
     (Sh.app l30 [c43] 8).bind λl49=>
     some (Sh.put l29 c43 true,l49)
    else
     some (l29,l30)
   ).bind λ(l39,l40)=>
   Dm wy n (Sh.w (t28+1)) l39 l40
  else
   some (l29,l30)
def FD (N:Nat)(p0:AJ):Nat->(List Bool)->(List Int)->Option (List Bool)
 |0,_,_=>none
 |n+1,vc,zj=>
  if decide (0<Sh.len zj)=true then
   (Sh.get zj 0).bind λc25=>
   (Hq N p0 c25).bind λxp=>
   (Gd N xp).bind λwy=>
   (Dm wy N 0 vc zj).bind λ(l31,l32)=>
   (Sh.sl l32 1 (Sh.len l32)).bind λl34=>
   FD N p0 n l31 l34
  else
   some vc
def IC (N:Nat)(p0:AJ)(p1:Int):Option (List Int):=
 (
  Option.bind (Bz N p0) λq51=>
  if (!q51)=true then
   some true
  else
  if decide (p1<0)=true then
   some true
  else
   some (decide ((Sh.len p0.funcs)<=p1))
 ).bind λt4=>
 if t4=true then
  some []
 else
  (Sh.mk false (Sh.len p0.funcs) 1).bind λl9=>
  (Sh.get l9 p1).bind λc11=>
  (FD N p0 N (Sh.put l9 p1 true) [p1]).bind λze=>
  (Gd N ze).bind λwF=>
  some wF
def CP (p0:List Int)(p1:Int):Nat->Int->Option (Int⊕Unit)
 |0,_=>none
 |n+1,t4=>
  if decide (t4<Sh.len p0)=true then
   (Sh.get p0 t4).bind λc13=>
   if decide (p1=c13)=true then
    some (Sum.inl t4)
   else
    CP p0 p1 n (Sh.w (t4+1))
  else
   some (Sum.inr ())
def Hk (N:Nat)(p0:List Int)(p1:Int):Option Int:=
 Sh.cont (CP p0 p1 N 0) id λ()=>
 some (-1)
def Fm (N:Nat)(p0:List Int)(p1:Int):Option Bool:=
 (Hk N p0 p1).bind λq3=>
 some (decide (0<=q3))
def DN (N:Nat)(p0:AJ)(p1:Int)(vU:List Int):Nat->Int->Option (Bool⊕Unit)
 |0,_=>none
 |n+1,t11=>
  if decide (t11<Sh.len vU)=true then
   (Sh.get vU t11).bind λwS=>
   (IC N p0 wS).bind λvC=>
   (Fm N vC p1).bind λwW=>
   if wW=true then
    some (Sum.inl false)
   else
    DN N p0 p1 vU n (Sh.w (t11+1))
  else
   some (Sum.inr ())
def DI (N:Nat)(p0:AJ)(p1:Int):Option Bool:=
 (
  Option.bind (Bz N p0) λxm=>
  if (!xm)=true then
   some true
  else
  if decide (p1<1)=true then
   some true
  else
   some (decide ((Sh.len p0.funcs)<=p1))
 ).bind λt4=>
 if t4=true then
  some false
 else
  (G9 N p0 p1).bind λvU=>
  Sh.cont (DN N p0 p1 vU N 0) id λ()=>
  some true
end RC
namespace RC
def Db (p0:List AL):Option (List AL):=
 (Sh.app ([]:List AL) p0 40).bind λl6=>
 some l6
def C9 (p0:List D6):Option (List D6):=
 (Sh.app ([]:List D6) p0 24).bind λl6=>
 some l6
end RC
namespace RC
def Ep (cs:List D6):Nat->Int->List D6->Option (List D6)
 |0,_,_=>none
 |n+1,i,q=>
  if decide (i<Sh.len cs)=true then
   (Sh.get cs i).bind λc=>
   (CN c.fields).bind λf=>
   (Sh.get q i).bind λ_=>
   Ep cs n (Sh.w (i+1)) (Sh.put q i (D6.mk f))
  else some q
def Em (N:Nat)(m:Int):Nat->Int->List AL->Option (List AL)
 |0,_,_=>none
 |n+1,t,l=>
  if decide (t<m)=true then
   (Sh.get l t).bind λd=>
   (C9 d.cons).bind λvC=>
   (Ep d.cons N 0 vC).bind λq=>
   Em N m n (Sh.w (t+1)) (Sh.put l t (AL.mk d.from_ d.to q))
  else some l
def IX (N:Nat)(p0:List AL):Option (List AL):=
 (Db p0).bind λq9=>
 (Em N (Sh.len q9) N 0 q9).bind λl=>
 some l
end RC
namespace RC
def EZ (i5:Int)(p0:List AL):Nat->Int->(List D6)->Option (List D6)
 |0,_,_=>none
 |n+1,k17,l18=>
  (Sh.get p0 i5).bind λc25=>
  if decide (k17<Sh.len c25.cons)=true then
   (Sh.get c25.cons k17).bind λc28=>
   (Fu c28.fields).bind λyS=>
   (Sh.app l18 [D6.mk yS] 24).bind λl30=>
   EZ i5 p0 n (Sh.w (k17+1)) l30
  else
   some l18
def FG (N:Nat)(p0:List AL):Nat->Int->(List AL)->Option (List AL)
 |0,_,_=>none
 |n+1,i5,l6=>
  if decide (i5<Sh.len p0)=true then
   (EZ i5 p0 N 0 []).bind λl19=>
   (Sh.get p0 i5).bind λc21=>
   (Sh.app l6 [AL.mk c21.from_ c21.to l19] 40).bind λl22=>
   FG N p0 n (Sh.w (i5+1)) l22
  else
   some l6
def I7 (N:Nat)(p0:List AL):Option (List AL):=
 (FG N p0 N 0 []).bind λl7=>
 some l7
end RC
namespace RC
def JJ (p0:List Int):Option ((List Int)×Int):=
 (
  if decide (2000<Sh.len p0)=true then
   (Sh.sl p0 0 2000).bind λl8=>
   some l8
  else
   some p0
 ).bind λcode3=>
 some (code3,0)
def Fj (p0:List Int):Option (D6):=
 some (D6.mk p0)
def Az (tm:List Int)(tu p1:Int):Option (Int×Int):=
 (
  if decide (p1<1)=true then
   some true
  else
   some (decide ((Sh.len tm)=0))
 ).bind λt5=>
 if t5=true then
  some (0,Sh.w (tu+1))
 else
 if (decide ((Sh.w ((Sh.w (tu+1))-1))<Sh.len tm))=true then
  (Sh.get tm (Sh.w ((Sh.w (tu+1))-1))).bind λwx=>
  (Sh.rem (Sh.wk .i64 wx) p1).bind λd15=>
  some (d15,Sh.w (tu+1))
 else
  (Sh.rem (Sh.w ((Sh.w (tu+1))-1)) (Sh.len tm)).bind λd17=>
  (Sh.get tm d17).bind λxW=>
  (Sh.rem (Sh.w ((Sh.w ((Sh.w ((Sh.w (tu+1))-1))*7))+3)) (Sh.len tm)).bind λd19=>
  (Sh.get tm d19).bind λc20=>
  (Sh.quo (Sh.w ((Sh.w (tu+1))-1)) (Sh.len tm)).bind λd21=>
  (Sh.rem (Sh.xor (Sh.w ((Sh.w ((Sh.w ((Sh.w ((Sh.wk .i64 xW)*131))+Sh.w ((Sh.wk .i64 c20)*1117)))+Sh.w ((Sh.w ((Sh.w (tu+1))-1))*29)))+Sh.w (d21*53))) (Sh.w (Int.tdiv (Sh.w ((Sh.w ((Sh.w ((Sh.w ((Sh.wk .i64 xW)*131))+Sh.w ((Sh.wk .i64 c20)*1117)))+Sh.w ((Sh.w ((Sh.w (tu+1))-1))*29)))+Sh.w (d21*53))) 64))) p1).bind λd24=>
  some (d24,Sh.w (tu+1))
def Hr (tm:List Int)(tu:Int):Option ((List AL)×Int):=
 (Fj ([]:List Int)).bind λq3=>
 (Fj [(0:Int),1]).bind λq4=>
 (Fj ([]:List Int)).bind λq6=>
 (Fj [(3:Int),0,3]).bind λq7=>
 (Fj [(1:Int),3]).bind λq9=>
 (Fj [(1:Int),1,0]).bind λvU=>
 (Fj [(0:Int)]).bind λvz=>
 (Fj [(3:Int)]).bind λwE=>
 (Az tm tu 5).bind λvl=>
 (
  if decide (vl.1<4)=true then
   (Sh.get ([AL.mk 0 0 [q9],AL.mk 1 0 [],AL.mk 0 0 [vU,vz,wE],AL.mk 0 1 []]) vl.1).bind λc22=>
   (Sh.app ([AL.mk 0 0 [q3,q4],AL.mk 0 0 [],AL.mk 0 0 [q6,q7]]) [c22] 40).bind λl23=>
   some l23
  else
   some ([AL.mk 0 0 [q3,q4],AL.mk 0 0 [],AL.mk 0 0 [q6,q7]])
 ).bind λl17=>
 some (l17,vl.2)
def FV (p0:List Int)(p1:Int):Option (AU):=
 some (AU.mk p0 p1 (AD.mk 0 0 []))
def Bx (tm:List Int)(tu:Int)(p1:List Int):Option (Int×Int):=
 (Az tm tu (Sh.len p1)).bind λq3=>
 (Sh.get p1 q3.1).bind λc4=>
 some (c4,q3.2)
def FR (p0:List Int)(p1:Int):Nat->Int->Option (Int⊕Unit)
 |0,_=>none
 |n+1,i4=>
  if decide (i4<Sh.len p0)=true then
   (Sh.get p0 i4).bind λyR=>
   if decide (yR=p1)=true then
    some (Sum.inl i4)
   else
    FR p0 p1 n (Sh.w (i4+1))
  else
   some (Sum.inr ())
def KV (N:Nat)(p0:List Int)(p1:Int):Option Int:=
 Sh.cont (FR p0 p1 N 0) id λ()=>
 some (-1)
def Ft (p0:Int):Option (AD):=
 some (AD.mk 0 p0 [])
def D9 (p0:List Int)(p1:Int):Nat->Int->(List Int)->Option (List Int)
 |0,_,_=>none
 |n+1,i5,l6=>
  if decide (i5<Sh.len p0)=true then
   (
    Option.bind (Sh.get p0 i5) λxQ=>
    if decide (xQ=p1)=true then
     (Sh.app l6 [i5] 8).bind λl19=>
     some l19
    else
     some l6
   ).bind λvc=>
   D9 p0 p1 n (Sh.w (i5+1)) vc
  else
   some l6
def Ij (N:Nat)(p0:List Int)(p1:Int):Option (List Int):=
 (D9 p0 p1 N 0 []).bind λl7=>
 some l7
def E7 (N:Nat)(p0:AJ)(p1:Int):Nat->Int->(List Int)->Option (List Int)
 |0,_,_=>none
 |n+1,f5,l6=>
  if decide (f5<Sh.len p0.funcs)=true then
   (
    Option.bind (Sh.get p0.funcs f5) λxQ=>
    (
     if decide (0<Sh.len xQ.params)=true then
      (Sh.get xQ.params (Sh.w ((Sh.len xQ.params)-1))).bind λc24=>
      (JT N p0.decls c24 xQ.result).bind λxm=>
      some (decide (xm=p1))
     else
      some false
    ).bind λt19=>
    if t19=true then
     (Sh.app l6 [f5] 8).bind λl22=>
     some l22
    else
     some l6
   ).bind λvc=>
   E7 N p0 p1 n (Sh.w (f5+1)) vc
  else
   some l6
def Ib (N:Nat)(p0:AJ)(p1:Int):Option (List Int):=
 (E7 N p0 p1 N 0 []).bind λl7=>
 some l7
def Ha (N:Nat)(p0:AJ)(p1:List Int)(p2:Int):Option Bool:=
 (
  Option.bind (HU p0.decls p2) λq5=>
  if (!q5)=true then
   some true
  else
   (Ib N p0 p2).bind λq7=>
   if decide (0<Sh.len q7)=true then
    some true
   else
    (HA N p1 p2).bind λq9=>
    some q9
 ).bind λt3=>
 some t3
def Cb (p0:Int):Option (AD):=
 some (AD.mk 12 p0 [])
def Bg (p0 p1:Int)(p2:List AD):Option (AD):=
 some (AD.mk p0 p1 p2)
def JQ (tm:List Int)(tu:Int):Option (Int×Int):=
 (Az tm tu 6).bind λq3=>
 (Az tm q3.2 6).bind λq4=>
 (Az tm q4.2 40).bind λq5=>
 (Bx tm q5.2 [q3.1,q4.1,0,1,2,-1,3,q5.1,999,-998]).bind λq6=>
 some (q6.1,q6.2)
def Cz (tm:List Int)(s1:List AU)(tp:List AL)(xA:List Int)(uD:(List Int)->Int->(List AU)->(List AL)->Int->Option (AD×Int)):Nat->Int->Int->(List AD)->Option (Int×(List AD))
 |0,_,_,_=>none
 |n+1,i21,f22,l23=>
  if decide (i21<Sh.len xA)=true then
   (Sh.get xA i21).bind λc33=>
   (uD tm f22 s1 tp c33).bind λvy=>
   (Sh.app l23 [vy.1] 40).bind λl35=>
   Cz tm s1 tp xA uD n (Sh.w (i21+1)) vy.2 l35
  else
   some (f22,l23)
def EA (c59:AU)(tm:List Int)(s1:List AU)(tp:List AL)(uD:(List Int)->Int->(List AU)->(List AL)->Int->Option (AD×Int)):Nat->Int->Int->(List AD)->Option (Int×(List AD))
 |0,_,_,_=>none
 |n+1,i63,f64,l65=>
  if (decide ((Sh.w (i63+1))<Sh.len c59.params))=true then
   (Sh.get c59.params i63).bind λc75=>
   (uD tm f64 s1 tp c75).bind λq76=>
   (Sh.app l65 [q76.1] 40).bind λl77=>
   EA c59 tm s1 tp uD n (Sh.w (i63+1)) q76.2 l77
  else
   some (f64,l65)
def IQ (N:Nat)(uD:(List Int)->Int->(List AU)->(List AL)->Int->Option (AD×Int))(tm:List Int)(tu:Int)(s1:List AU)(tp:List AL)(p2:Int):Option (AD×Int):=
 (G0 N tp p2).bind λq3=>
 if decide (0<Sh.len q3)=true then
  (Sh.get q3 0).bind λc8=>
  (
   Option.bind (
    if decide (1<Sh.len q3)=true then
     (Az tm tu 4).bind λq47=>
     some (decide (q47.1=0),q47.2)
    else
     some (false,tu)
   ) λ(t41,f42)=>
   if t41=true then
    (Sh.get q3 1).bind λc45=>
    some (c45,f42)
   else
    some (c8,f42)
  ).bind λ(yr,f11)=>
  (
   Option.bind (Bt N tp yr) λq37=>
   (HA N q37 p2).bind λyU=>
   if yU=true then
    some c8
   else
    some yr
  ).bind λwx=>
  (Bt N tp wx).bind λxA=>
  (Cz tm s1 tp xA uD N 0 f11 []).bind λ(f24,l25)=>
  (Bg 6 wx l25).bind λwz=>
  some (wz,f24)
 else
  (Ib N (AJ.mk tp s1) p2).bind λyp=>
  (
   if decide (0<p2)=true then
    some (decide (0<Sh.len yp))
   else
    some false
  ).bind λt52=>
  if t52=true then
   (Az tm tu (Sh.len yp)).bind λq56=>
   (Sh.get yp q56.1).bind λc57=>
   (Sh.get s1 c57).bind λc59=>
   (EA c59 tm s1 tp uD N 0 q56.2 []).bind λ(f66,l67)=>
   (Bg 10 c57 l67).bind λq70=>
   some (q70,f66)
  else
   (JQ tm tu).bind λq79=>
   (Ft q79.1).bind λq80=>
   some (q80,q79.2)
def Dj (N:Nat):Nat->(List Int)->Int->(List AU)->(List AL)->Int->Option (AD×Int)
 |0,_,_,_,_,_=>none
 |n+1,tm,tu,s1,tp,p2=>IQ N (Dj N n) tm tu s1 tp p2
def NW (N:Nat)(tm:List Int)(tu:Int)(s1:List AU)(tp:List AL)(p2:Int):Option (AD×Int):=Dj N N tm tu s1 tp p2
def IL (N:Nat)(tm:List Int)(tu:Int)(s1:List AU)(tp:List AL)(p2:List Int)(p3:Int):Option (AD×Int):=
 (Ij N p2 p3).bind λq3=>
 (
  if decide (0<Sh.len q3)=true then
   (Az tm tu 6).bind λwZ=>
   if decide (0<wZ.1)=true then
    some (true,wZ.2)
   else
    (Ha N (AJ.mk tp s1) ([]:List Int) p3).bind λwF=>
    some (!wF,wZ.2)
  else
   some (false,tu)
 ).bind λ(t6,f7)=>
 if t6=true then
  (Az tm f7 (Sh.len q3)).bind λvz=>
  (Sh.get q3 vz.1).bind λyR=>
  (Cb yR).bind λvX=>
  some (vX,vz.2)
 else
  (NW N tm f7 s1 tp p3).bind λvl=>
  some (vl.1,vl.2)
def KU (N:Nat)(tm:List Int)(tu:Int)(s1:List AU)(tp:List AL)(p2:List Int):Option (Int×Int):=
 (Bx tm tu [(1:Int),1,3,0,2,4,3]).bind λq3=>
 (
  if decide ((Sh.len tp)<q3.1)=true then
   some true
  else
   (Ha N (AJ.mk tp s1) p2 q3.1).bind λwE=>
   some (!wE)
 ).bind λt6=>
 if t6=true then
  some (1,q3.2)
 else
  some (q3.1,q3.2)
def F6 (tm:List Int)(s1:List AU)(tp:List AL)(p2 p3:List Int)(p4:Int)(tv:(List Int)->Int->(List AU)->(List AL)->(List Int)->Int->Int->Option (AD×Int)):Nat->Int->Int->(List AD)->Option (Int×(List AD))
 |0,_,_,_=>none
 |n+1,i5,f6,l7=>
  if decide (i5<Sh.len p3)=true then
   (Sh.get p3 i5).bind λwh=>
   (Sh.quo p4 (Sh.len p3)).bind λd17=>
   (tv tm f6 s1 tp p2 wh d17).bind λxA=>
   (Sh.app l7 [xA.1] 40).bind λl19=>
   F6 tm s1 tp p2 p3 p4 tv n (Sh.w (i5+1)) xA.2 l19
  else
   some (f6,l7)
def GV (N:Nat)(tv:(List Int)->Int->(List AU)->(List AL)->(List Int)->Int->Int->Option (AD×Int))(tm:List Int)(tu:Int)(s1:List AU)(tp:List AL)(p2 p3:List Int)(p4:Int):Option ((List AD)×Int):=
 (F6 tm s1 tp p2 p3 p4 tv N 0 tu []).bind λ(f8,l9)=>
 some (l9,f8)
def EO (N:Nat)(tm:List Int)(s1:List AU)(tp:List AL)(p2:List Int)(p3 p4:Int)(q8:List Int)(tv:(List Int)->Int->(List AU)->(List AL)->(List Int)->Int->Int->Option (AD×Int)):Nat->Int->Int->(List AD)->Option (Int×(List AD))
 |0,_,_,_=>none
 |n+1,i13,f14,zj=>
  if decide (i13<Sh.len q8)=true then
   (Sh.get q8 i13).bind λc25=>
   (Bt N tp c25).bind λxp=>
   (Ex p2 xp).bind λwy=>
   (Sh.quo (Sh.w (p4-2)) (Sh.len q8)).bind λd28=>
   (tv tm f14 s1 tp wy p3 d28).bind λyS=>
   (Sh.app zj [yS.1] 40).bind λl30=>
   EO N tm s1 tp p2 p3 p4 q8 tv n (Sh.w (i13+1)) yS.2 l30
  else
   some (f14,zj)
def Jv (N:Nat)(tv:(List Int)->Int->(List AU)->(List AL)->(List Int)->Int->Int->Option (AD×Int))(tm:List Int)(tu:Int)(s1:List AU)(tp:List AL)(p2:List Int)(p3 p4:Int):Option (AD×Int):=
 (Bx tm tu [(1:Int),1,3,4]).bind λq3=>
 (
  Option.bind (
   if decide ((Sh.len tp)<q3.1)=true then
    some true
   else
    (HU tp q3.1).bind λq36=>
    some q36
  ) λt32=>
  if t32=true then
   some 1
  else
   some q3.1
 ).bind λd5=>
 (G0 N tp d5).bind λq8=>
 (IL N tm q3.2 s1 tp p2 d5).bind λvU=>
 (EO N tm s1 tp p2 p3 p4 q8 tv N 0 vU.2 [vU.1]).bind λ(f16,l17)=>
 (Bg 8 d5 l17).bind λwD=>
 some (wD,f16)
def E0 (N:Nat)(xQ:AU)(p0:AJ):Nat->Bool->Int->Option Bool
 |0,_,_=>none
 |n+1,ok20,i21=>
  if decide (i21<Sh.len xQ.params)=true then
   (
    if ok20=true then
     (Sh.get xQ.params i21).bind λc34=>
     (Ha N p0 ([]:List Int) c34).bind λyJ=>
     some yJ
    else
     some false
   ).bind λok31=>
   E0 N xQ p0 n ok31 (Sh.w (i21+1))
  else
   some ok20
def E1 (N:Nat)(p0:AJ)(p1:Int):Nat->Int->(List Int)->Option (List Int)
 |0,_,_=>none
 |n+1,f5,l6=>
  if decide (f5<Sh.len p0.funcs)=true then
   (
    Option.bind (Sh.get p0.funcs f5) λxQ=>
    (E0 N xQ p0 N (decide (xQ.result=p1)) 0).bind λok22=>
    if ok22=true then
     (Sh.app l6 [f5] 8).bind λl26=>
     some l26
    else
     some l6
   ).bind λvc=>
   E1 N p0 p1 n (Sh.w (f5+1)) vc
  else
   some l6
def J2 (N:Nat)(p0:AJ)(p1:Int):Option (List Int):=
 (E1 N p0 p1 N 1 []).bind λl7=>
 some l7
def Ez (N:Nat)(tm:List Int)(s1:List AU)(tp:List AL)(p2:List Int)(p3 p4:Int)(vy:Int×Int)(tv:(List Int)->Int->(List AU)->(List AL)->(List Int)->Int->Int->Option (AD×Int)):Nat->Int->Option ((AD×Int) ⊕ Unit)
 |0,_=>none
 |n+1,zk=>
  if decide (zk<=Sh.len tp)=true then
   (
    Option.bind (HU tp zk) λq53=>
    if q53=true then
     (Sh.get tp (Sh.w (zk-1))).bind λc55=>
     if decide (c55.to=p3)=true then
      (Ha N (AJ.mk tp s1) p2 zk).bind λq57=>
      some q57
     else
      some false
    else
     some false
   ).bind λt45=>
   if t45=true then
    (IL N tm vy.2 s1 tp p2 zk).bind λyp=>
    (Sh.get tp (Sh.w (zk-1))).bind λzb=>
    (tv tm yp.2 s1 tp p2 zb.from_ (Sh.w (p4-2))).bind λq51=>
    (Bg 11 0 [yp.1,q51.1]).bind λq52=>
    some (Sum.inl (q52,q51.2))
   else
    Ez N tm s1 tp p2 p3 p4 vy tv n (Sh.w (zk+1))
  else
   some (Sum.inr ())
def J5 (N:Nat)(tv:(List Int)->Int->(List AU)->(List AL)->(List Int)->Int->Int->Option (AD×Int))(tm:List Int)(tu:Int)(s1:List AU)(tp:List AL)(p2:List Int)(p3 p4:Int):Option (AD×Int):=
 Sh.cont (
  (Az tm tu 4).bind λvy=>
  if decide (vy.1=0)=true then
   Sh.cont (Ez N tm s1 tp p2 p3 p4 vy tv N 1) (λx=>Sum.inl x) λ()=>
   some (Sum.inr vy.2)
  else
   some (Sum.inr vy.2)
 ) id λf3=>
 (G0 N tp p3).bind λq6=>
 if decide (0<Sh.len q6)=true then
  (Az tm f3 (Sh.len q6)).bind λvz=>
  (Sh.get q6 vz.1).bind λyR=>
  (Bt N tp yR).bind λyn=>
  (GV N tv tm vz.2 s1 tp p2 yn (Sh.w (p4-1))).bind λvl=>
  (Bg 6 yR vl.1).bind λwM=>
  some (wM,vl.2)
 else
 if decide (0<p3)=true then
  (IL N tm f3 s1 tp p2 p3).bind λvC=>
  some (vC.1,vC.2)
 else
  (Az tm f3 3).bind λxn=>
  if decide (xn.1=0)=true then
   (GV N tv tm xn.2 s1 tp p2 [(0:Int)] (Sh.w (p4-1))).bind λwy=>
   (Bg 5 0 wy.1).bind λwz=>
   some (wz,wy.2)
  else
   (Bx tm xn.2 [(1:Int),2,3,4]).bind λzG=>
   (GV N tv tm zG.2 s1 tp p2 [(0:Int),0] (Sh.w (p4-1))).bind λq31=>
   (Bg zG.1 0 q31.1).bind λzF=>
   some (zF,q31.2)
def MI (N:Nat)(tv:(List Int)->Int->(List AU)->(List AL)->(List Int)->Int->Int->Option (AD×Int))(tm:List Int)(tu:Int)(s1:List AU)(tp:List AL)(p2:List Int)(p3 p4:Int):Option (AD×Int):=
 if decide (p4<3)=true then
  (IL N tm tu s1 tp p2 p3).bind λq6=>
  some (q6.1,q6.2)
 else
  Sh.cont (
   (Az tm tu 12).bind λvX=>
   if decide (vX.1=0)=true then
    (IL N tm vX.2 s1 tp p2 p3).bind λwZ=>
    some (Sum.inl (wZ.1,wZ.2))
   else
    (
     if decide (vX.1=1)=true then
      some true
     else
      some (decide (vX.1=2))
    ).bind λt19=>
    if t19=true then
     (KU N tm vX.2 s1 tp p2).bind λwH=>
     (tv tm wH.2 s1 tp p2 wH.1 (Sh.w (Int.tdiv p4 2))).bind λxm=>
     (Ex p2 [wH.1]).bind λxp=>
     (tv tm xm.2 s1 tp xp p3 (Sh.w (Int.tdiv p4 2))).bind λwy=>
     (Bg 13 0 [xm.1,wy.1]).bind λwz=>
     some (Sum.inl (wz,wy.2))
    else
    if decide (vX.1=3)=true then
     (GV N tv tm vX.2 s1 tp p2 [0,p3,p3] (Sh.w (p4-1))).bind λzF=>
     (Bg 7 0 zF.1).bind λyK=>
     some (Sum.inl (yK,zF.2))
    else
     (
      if decide (vX.1=4)=true then
       some true
      else
      if decide (vX.1=5)=true then
       some true
      else
       some (decide (vX.1=6))
     ).bind λt35=>
     if t35=true then
      (Jv N tv tm vX.2 s1 tp p2 p3 p4).bind λzZ=>
      some (Sum.inl (zZ.1,zZ.2))
     else
      (
       if decide (vX.1=7)=true then
        some true
       else
        some (decide (vX.1=8))
      ).bind λt41=>
      if t41=true then
       (J2 N (AJ.mk tp s1) p3).bind λq45=>
       if decide (0<Sh.len q45)=true then
        (Az tm vX.2 (Sh.len q45)).bind λyp=>
        (Sh.get q45 yp.1).bind λzb=>
        (Sh.get s1 zb).bind λc52=>
        (GV N tv tm yp.2 s1 tp p2 c52.params (Sh.w (p4-1))).bind λq53=>
        (Bg 9 zb q53.1).bind λq54=>
        some (Sum.inl (q54,q53.2))
       else
        some (Sum.inr vX.2)
      else
       some (Sum.inr vX.2)
  ) id λf8=>
  (J5 N tv tm f8 s1 tp p2 p3 p4).bind λvz=>
  some (vz.1,vz.2)
def J4 (N:Nat):Nat->(List Int)->Int->(List AU)->(List AL)->(List Int)->Int->Int->Option (AD×Int)
 |0,_,_,_,_,_,_,_=>none
 |n+1,tm,tu,s1,tp,p2,p3,p4=>MI N (J4 N n) tm tu s1 tp p2 p3 p4
def Hc (N:Nat)(tm:List Int)(tu:Int)(s1:List AU)(tp:List AL)(p2:List Int)(p3 p4:Int):Option (AD×Int):=J4 N N tm tu s1 tp p2 p3 p4
def GH (tm:List Int):Nat->Int->Int->Int->Int->(List AD)->Option (Int×Int×Int×(List AD))
 |0,_,_,_,_,_=>none
 |n+1,n21,f22,f23,f24,f25=>
  if decide (0<n21)=true then
   (JQ tm f22).bind λq36=>
   (Ft q36.1).bind λq37=>
   (Bg 6 1 [q37,AD.mk f23 f24 f25]).bind λyU=>
   GH tm n (Sh.w (n21-1)) q36.2 yU.op yU.num yU.kids
  else
   some (f22,f23,f24,f25)
def KW (N:Nat)(tm:List Int)(tu p1:Int):Option (AD×Int):=
 (Bg 6 0 ([]:List AD)).bind λq3=>
 if decide (p1=3)=true then
  (Bg 6 2 ([]:List AD)).bind λq8=>
  (Az tm tu 9).bind λvU=>
  (Ft vU.1).bind λvz=>
  (Bg 6 3 [q8,vz,q8]).bind λwE=>
  (Az tm vU.2 9).bind λyn=>
  (Ft yn.1).bind λvl=>
  (Bg 6 3 [wE,vl,q8]).bind λwM=>
  some (wM,yn.2)
 else
  (Az tm tu 3).bind λwD=>
  (GH tm N (Sh.w (1+wD.1)) wD.2 q3.op q3.num q3.kids).bind λ(f26,f27,f28,f29)=>
  some (AD.mk f27 f28 f29,f26)
def Jq (N:Nat)(tm:List Int)(tu:Int)(s1:List AU)(tp:List AL):Option (AD×Int):=
 (Bx tm tu [(1:Int),1,3]).bind λq3=>
 (Hc N tm q3.2 s1 tp [q3.1] 0 16).bind λq5=>
 (
  Option.bind (Az tm q5.2 3) λwM=>
  if decide (wM.1=0)=true then
   (Bg 5 0 [q5.1]).bind λxA=>
   some (wM.2,xA.op,xA.num,xA.kids)
  else
   some (wM.2,q5.1.op,q5.1.num,q5.1.kids)
 ).bind λ(f7,f8,f9,f10)=>
 (KW N tm f7 q3.1).bind λvX=>
 (Bg 13 0 [vX.1,AD.mk f8 f9 f10]).bind λyn=>
 some (yn,vX.2)
def Ev (c3:AU)(tm:List Int)(p3:Int):Nat->Int->Int->(List AD)->Option (Int×(List AD))
 |0,_,_,_=>none
 |n+1,i10,f11,zi=>
  if decide (i10<Sh.len c3.params)=true then
   (
    if decide (i10=p3)=true then
     (Cb (Sh.w ((Sh.len c3.params)+1))).bind λq67=>
     (Sh.app zi [q67] 40).bind λl68=>
     some (f11,l68)
    else
     (
      Option.bind (Sh.get c3.params i10) λc80=>
      if decide (c80=0)=true then
       (Az tm f11 2).bind λq82=>
       some (decide (q82.1=0),q82.2)
      else
       some (false,f11)
     ).bind λ(t70,f71)=>
     if t70=true then
      (Cb i10).bind λq74=>
      (Cb (Sh.len c3.params)).bind λq75=>
      (Bg 1 0 [q74,q75]).bind λq76=>
      (Sh.app zi [q76] 40).bind λl77=>
      some (f71,l77)
     else
      (Cb i10).bind λq78=>
      (Sh.app zi [q78] 40).bind λl79=>
      some (f71,l79)
   ).bind λ(f62,l63)=>
   Ev c3 tm p3 n (Sh.w (i10+1)) f62 l63
  else
   some (f11,zi)
def Jz (N:Nat)(tm:List Int)(tu:Int)(s1:List AU)(tp:List AL)(p2 p3:Int):Option (AD×Int):=
 (Sh.get s1 p2).bind λc3=>
 (Ex c3.params [(0:Int),1]).bind λq6=>
 (Ev c3 tm p3 N 0 tu []).bind λ(f13,vc)=>
 (Bg 9 p2 vc).bind λwZ=>
 (
  Option.bind (
   if decide (c3.result=1)=true then
    (Az tm f13 5).bind λq57=>
    some (decide (0<q57.1),q57.2)
   else
    some (false,f13)
  ) λ(t30,f31)=>
  if t30=true then
   (Hc N tm f31 s1 tp q6 0 4).bind λyJ=>
   (
    Option.bind (
     if decide (1<Sh.len c3.params)=true then
      (Sh.get c3.params 0).bind λzb=>
      some (decide (zb=2))
     else
      some false
    ) λt43=>
    if t43=true then
     (Cb 0).bind λq46=>
     (Cb (Sh.len c3.params)).bind λq47=>
     (Bg 11 0 [q46,q47]).bind λq48=>
     some (q48.op,q48.num,q48.kids)
    else
     some (yJ.1.op,yJ.1.num,yJ.1.kids)
   ).bind λ(f37,f38,f39)=>
   (Bg 6 1 [AD.mk f37 f38 f39,wZ]).bind λq41=>
   some (yJ.2,q41.op,q41.num,q41.kids)
  else
  if decide (c3.result=0)=true then
   (Bx tm f31 [(1:Int),2]).bind λq53=>
   (Hc N tm q53.2 s1 tp q6 0 4).bind λq54=>
   (Bg q53.1 0 [q54.1,wZ]).bind λq55=>
   some (q54.2,q55.op,q55.num,q55.kids)
  else
   some (f31,wZ.op,wZ.num,wZ.kids)
 ).bind λ(f20,f21,f22,f23)=>
 (Cb p3).bind λxp=>
 (Hc N tm f20 s1 tp c3.params c3.result 4).bind λwy=>
 (Bg 8 1 [xp,wy.1,AD.mk f21 f22 f23]).bind λwz=>
 some (wz,wy.2)
def Ew (c3:AU):Nat->Int->(List AD)->(List AD)->Option ((List AD)×(List AD))
 |0,_,_,_=>none
 |n+1,i11,zi,l13=>
  if decide (i11<Sh.len c3.params)=true then
   (Cb i11).bind λq47=>
   (Sh.app zi [q47] 40).bind λl48=>
   (Cb i11).bind λyp=>
   (Sh.app l13 [yp] 40).bind λl50=>
   Ew c3 n (Sh.w (i11+1)) l48 l50
  else
   some (zi,l13)
def Jr (N:Nat)(tm:List Int)(tu:Int)(s1:List AU)(tp:List AL)(p2:Int):Option (AD×Int):=
 (Sh.get s1 p2).bind λc3=>
 (Cb (Sh.len c3.params)).bind λq6=>
 (Cb (Sh.w ((Sh.len c3.params)+2))).bind λq8=>
 (Ew c3 N 1 [q6] [q8]).bind λ(vc,zj)=>
 (Bg 9 p2 vc).bind λxA=>
 (Bg 9 p2 zj).bind λwD=>
 (Ex c3.params [(3:Int),0,3]).bind λwW=>
 (Hc N tm tu s1 tp wW 0 4).bind λwH=>
 (Bg 1 0 [wH.1,wD]).bind λxn=>
 (Bg 1 0 [xA,xn]).bind λxm=>
 (
  if decide (c3.result=3)=true then
   (Ex c3.params [(3:Int),0,3]).bind λyU=>
   (Hc N tm wH.2 s1 tp yU 0 4).bind λzZ=>
   (Cb (Sh.w ((Sh.len c3.params)+2))).bind λq40=>
   (Bg 6 3 [xA,zZ.1,q40]).bind λq41=>
   some (zZ.2,q41.op,q41.num,q41.kids)
  else
   some (wH.2,xm.op,xm.num,xm.kids)
 ).bind λ(f27,f28,f29,f30)=>
 (Cb 0).bind λyK=>
 (Hc N tm f27 s1 tp c3.params c3.result 4).bind λvy=>
 (Bg 8 3 [yK,vy.1,AD.mk f28 f29 f30]).bind λyJ=>
 some (yJ,vy.2)
def Et (N:Nat)(c3:AU)(tm:List Int)(s1:List AU)(tp:List AL):Nat->Int->Int->(List AD)->Option (Int×(List AD))
 |0,_,_,_=>none
 |n+1,i10,f11,zi=>
  if decide (i10<Sh.len c3.params)=true then
   (Sh.get c3.params i10).bind λc39=>
   (IL N tm f11 s1 tp c3.params c39).bind λq40=>
   (Sh.app zi [q40.1] 40).bind λl41=>
   Et N c3 tm s1 tp n (Sh.w (i10+1)) q40.2 l41
  else
   some (f11,zi)
def J6 (N:Nat)(tm:List Int)(tu:Int)(s1:List AU)(tp:List AL)(p2:Int):Option (AD×Int):=
 (Sh.get s1 p2).bind λc3=>
 (Cb 0).bind λq5=>
 (Ft 1).bind λq6=>
 (Bg 2 0 [q5,q6]).bind λq7=>
 (Et N c3 tm s1 tp N 1 tu [q7]).bind λ(f13,vc)=>
 (Bg 9 p2 vc).bind λwZ=>
 (
  if decide (c3.result=1)=true then
   (Hc N tm f13 s1 tp c3.params 0 3).bind λyK=>
   (Bg 6 1 [yK.1,wZ]).bind λvy=>
   some (yK.2,vy.op,vy.num,vy.kids)
  else
   some (f13,wZ.op,wZ.num,wZ.kids)
 ).bind λ(f19,f20,f21,f22)=>
 (Ft 0).bind λxm=>
 (Cb 0).bind λxp=>
 (Bg 4 0 [xm,xp]).bind λwy=>
 (Hc N tm f19 s1 tp c3.params c3.result 4).bind λyS=>
 (Bg 7 0 [wy,AD.mk f20 f21 f22,yS.1]).bind λzG=>
 some (zG,yS.2)
def Gn (N:Nat)(tm:List Int)(s1:List AU)(tp:List AL)(p2:List Int)(p3:Int):Nat->Int->Int->Int->Int->(List AD)->Option (Int×Int×Int×(List AD))
 |0,_,_,_,_,_=>none
 |n+1,budget5,f6,f7,f8,f9=>
  (
   Option.bind (HT N (AD.mk f7 f8 f9)) λwH=>
   if decide (wH<0)=true then
    some (decide (2<budget5))
   else
    some false
  ).bind λt18=>
  if t18=true then
   (Hc N tm f6 s1 tp p2 p3 (Sh.w (Int.tdiv budget5 2))).bind λwW=>
   Gn N tm s1 tp p2 p3 n (Sh.w (Int.tdiv budget5 2)) wW.2 wW.1.op wW.1.num wW.1.kids
  else
   some (f6,f7,f8,f9)
def JO (N:Nat)(tm:List Int)(tu:Int)(s1:List AU)(tp:List AL)(p2:List Int)(p3 p4:Int):Option (AD×Int):=
 (Hc N tm tu s1 tp p2 p3 p4).bind λq3=>
 (Gn N tm s1 tp p2 p3 N p4 q3.2 q3.1.op q3.1.num q3.1.kids).bind λ(f10,f11,f12,f13)=>
 some (AD.mk f11 f12 f13,f10)
def LZ (N:Nat)(tm:List Int)(tu:Int)(s1:List AU)(tp:List AL)(p2:Int):Option (AD×Int):=
 (Sh.get s1 p2).bind λc3=>
 (KV N c3.params 1).bind λq6=>
 (Ft 0).bind λq8=>
 (Az tm tu 4).bind λvU=>
 (
  Option.bind (
   if decide (vU.1<3)=true then
    some (decide (p2=0))
   else
    some false
  ) λt25=>
  if t25=true then
   (Jq N tm vU.2 s1 tp).bind λwz=>
   some (wz.2,wz.1.op,wz.1.num,wz.1.kids)
  else
   (
    if decide (vU.1<3)=true then
     if decide (0<=q6)=true then
      if decide (c3.result=0)=true then
       some true
      else
       some (decide (c3.result=1))
     else
      some false
    else
     some false
   ).bind λt30=>
   if t30=true then
    (Jz N tm vU.2 s1 tp p2 q6).bind λyK=>
    some (yK.2,yK.1.op,yK.1.num,yK.1.kids)
   else
    (
     if decide (vU.1<3)=true then
      if decide (0<Sh.len c3.params)=true then
       (Sh.get c3.params 0).bind λc52=>
       if decide (c52=3)=true then
        if decide (c3.result=0)=true then
         some true
        else
         some (decide (c3.result=3))
       else
        some false
      else
       some false
     else
      some false
    ).bind λt35=>
    if t35=true then
     (Jr N tm vU.2 s1 tp p2).bind λyU=>
     some (yU.2,yU.1.op,yU.1.num,yU.1.kids)
    else
     (
      if decide (vU.1<3)=true then
       if decide (0<Sh.len c3.params)=true then
        (Sh.get c3.params 0).bind λc47=>
        if decide (c47=0)=true then
         if decide (c3.result=0)=true then
          some true
         else
          some (decide (c3.result=1))
        else
         some false
       else
        some false
      else
       some false
     ).bind λt40=>
     if t40=true then
      (J6 N tm vU.2 s1 tp p2).bind λq43=>
      some (q43.2,q43.1.op,q43.1.num,q43.1.kids)
     else
      (JO N tm vU.2 s1 tp c3.params c3.result 18).bind λq44=>
      some (q44.2,q44.1.op,q44.1.num,q44.1.kids)
 ).bind λ(f12,f13,f14,f15)=>
 (HT N (AD.mk f13 f14 f15)).bind λwF=>
 if decide (wF<0)=true then
  (JO N tm f12 s1 tp c3.params c3.result 12).bind λwW=>
  some (wW.1,wW.2)
 else
  some (AD.mk f13 f14 f15,f12)
def ET (N:Nat)(tm:List Int)(q3:(List AL)×Int):Nat->Int->Int->(List AU)->Option (Int×(List AU))
 |0,_,_,_=>none
 |n+1,f37,f38,l39=>
  if decide (0<=f37)=true then
   (LZ N tm f38 l39 q3.1 f37).bind λyp=>
   (Sh.get l39 f37).bind λzb=>
   ET N tm q3 n (Sh.w (f37-1)) yp.2 (Sh.put l39 f37 (AU.mk zb.params zb.result yp.1))
  else
   some (f38,l39)
def IB (N:Nat)(tm:List Int)(tu:Int):Option (AJ×Int):=
 (Hr tm tu).bind λq3=>
 (FV [(1:Int)] 0).bind λq5=>
 (FV [(1:Int),1] 1).bind λq6=>
 (FV [(1:Int)] 1).bind λq7=>
 (FV [(1:Int),0] 1).bind λq8=>
 (FV [(2:Int),1] 1).bind λq9=>
 (FV [(1:Int),1] 0).bind λvU=>
 (FV [(3:Int)] 0).bind λwE=>
 (FV [(0:Int)] 1).bind λvX=>
 (FV [(0:Int),1] 1).bind λyn=>
 (FV [(3:Int),0] 3).bind λvl=>
 (FV [(3:Int)] 1).bind λwM=>
 (FV [(1:Int),3,0] 0).bind λwZ=>
 (FV [(0:Int)] 0).bind λwF=>
 (FV [(0:Int),0] 0).bind λwD=>
 (FV [(1:Int),0] 0).bind λvC=>
 (FV [(0:Int)] 1).bind λwW=>
 (FV ([]:List Int) 0).bind λxn=>
 (Az tm q3.2 (Sh.len [q5,q6,q7,q8,q9,vU])).bind λxm=>
 (Sh.get [q5,q6,q7,q8,q9,vU] xm.1).bind λc26=>
 (Az tm xm.2 (Sh.len [wE,vX,yn,vl,wM,wZ])).bind λwy=>
 (Sh.get [wE,vX,yn,vl,wM,wZ] wy.1).bind λc28=>
 (Az tm wy.2 (Sh.len [wF,wD,vC,wW])).bind λyS=>
 (Sh.get [wF,wD,vC,wW] yS.1).bind λc30=>
 (Bx tm yS.2 [(4:Int),4,3,2,4]).bind λzF=>
 (Sh.hi [xn,c26,c28,c30] zF.1).bind λl34=>
 (ET N tm q3 N (Sh.w (zF.1-1)) zF.2 l34).bind λ(f40,l41)=>
 some (AJ.mk q3.1 l41,f40)
def Jw (uC:(List AD)->Option (List AD))(p0:AD):Option (AD):=
 (uC p0.kids).bind λq3=>
 some (AD.mk p0.op p0.num q3)
def CV (p0:List AD)(uC:(List AD)->Option (List AD)):Nat->Int->(List AD)->Option (List AD)
 |0,_,_=>none
 |n+1,i5,l6=>
  if decide (i5<Sh.len p0)=true then
   (Sh.get p0 i5).bind λwx=>
   (Jw uC wx).bind λvl=>
   (Sh.app l6 [vl] 40).bind λze=>
   CV p0 uC n (Sh.w (i5+1)) ze
  else
   some l6
def Hv (N:Nat)(uC:(List AD)->Option (List AD))(p0:List AD):Option (List AD):=
 (CV p0 uC N 0 []).bind λl7=>
 some l7
def DL (N:Nat):Nat->(List AD)->Option (List AD)
 |0,_=>none
 |n+1,p0=>Hv N (DL N n) p0
def Ht (N:Nat)(p0:List AD):Option (List AD):=DL N N p0
def Mr (N:Nat)(vS:(List Int)->Int->AD->Option (AD×Int))(tm:List Int)(tu:Int)(p1:AD):Option (AD×Int):=
 (
  if decide (0<Sh.len p1.kids)=true then
   (Az tm tu 3).bind λq47=>
   some (decide (0<q47.1),q47.2)
  else
   some (false,tu)
 ).bind λ(t4,f5)=>
 if t4=true then
  (Ht N p1.kids).bind λq9=>
  (Az tm f5 (Sh.len q9)).bind λvz=>
  (Sh.get q9 vz.1).bind λc13=>
  (vS tm vz.2 c13).bind λyn=>
  (Bg p1.op p1.num (Sh.put q9 vz.1 yn.1)).bind λwM=>
  some (wM,yn.2)
 else
  (Az tm f5 5).bind λwF=>
  if decide (wF.1=0)=true then
   (Az tm wF.2 15).bind λwH=>
   (Bg wH.1 p1.num p1.kids).bind λxn=>
   some (xn,wH.2)
  else
  if decide (wF.1=1)=true then
   (Bx tm wF.2 [(1:Int),-1,1000,2]).bind λwz=>
   (Bg p1.op (Sh.w (p1.num+wz.1)) p1.kids).bind λyS=>
   some (yS,wz.2)
  else
  if decide (wF.1=2)=true then
   (Ht N p1.kids).bind λyK=>
   (Ft 1).bind λvy=>
   (Sh.app yK [vy] 40).bind λl35=>
   (Bg p1.op p1.num l35).bind λq36=>
   some (q36,wF.2)
  else
  if decide (wF.1=3)=true then
   (Bx tm wF.2 [(0:Int),1,2,5,100,-1]).bind λq41=>
   (Cb q41.1).bind λq42=>
   some (q42,q41.2)
  else
   (Bx tm wF.2 [(0:Int),1000,-1000,5]).bind λq44=>
   (Ft q44.1).bind λq45=>
   some (q45,q44.2)
def KH (N:Nat):Nat->(List Int)->Int->AD->Option (AD×Int)
 |0,_,_,_=>none
 |n+1,tm,tu,p1=>Mr N (KH N n) tm tu p1
def Sk (N:Nat)(tm:List Int)(tu:Int)(p1:AD):Option (AD×Int):=KH N N tm tu p1
def J0 (tm:List Int)(tu:Int):Option ((List AL)×Int):=
 (Hr tm tu).bind λq3=>
 (Az tm q3.2 (Sh.len q3.1)).bind λq5=>
 (
  Option.bind (Az tm q5.2 14) λwE=>
  if decide (wE.1=0)=true then
   (Bx tm wE.2 [(-1:Int),5,0,2]).bind λvl=>
   (Bx tm vl.2 [(0:Int),1,5]).bind λwM=>
   (Sh.get q3.1 q5.1).bind λxQ=>
   some (wM.2,Sh.put q3.1 q5.1 (AL.mk vl.1 wM.1 []))
  else
  if decide (wE.1=1)=true then
   (Bx tm wE.2 [(-1:Int),0,4,5]).bind λwD=>
   (Fj [wD.1]).bind λvC=>
   (Fj [(0:Int),0,0,0]).bind λwW=>
   (Fj ([]:List Int)).bind λwH=>
   (Sh.get q3.1 q5.1).bind λc24=>
   some (wD.2,Sh.put q3.1 q5.1 (AL.mk 0 0 [vC,wW,wH]))
  else
  if decide (wE.1=2)=true then
   (Fj [Sh.w (q5.1+1)]).bind λwy=>
   (Sh.get q3.1 q5.1).bind λc28=>
   some (wE.2,Sh.put q3.1 q5.1 (AL.mk 0 0 [wy]))
  else
  if decide (wE.1=3)=true then
   (Bx tm wE.2 [(0:Int),2,1]).bind λq31=>
   (Sh.app q3.1 ([AL.mk 2 q31.1 []]) 40).bind λl32=>
   some (q31.2,l32)
  else
  if decide (wE.1=4)=true then
   (Az tm wE.2 2).bind λyJ=>
   (Fj ([]:List Int)).bind λq36=>
   (Fj [(2:Int)]).bind λq37=>
   (Fj ([]:List Int)).bind λyU=>
   (Fj ([]:List Int)).bind λzZ=>
   (Az tm yJ.2 3).bind λq40=>
   (Sh.sl [q36,q37,yU,zZ] q40.1 (Sh.len [q36,q37,yU,zZ])).bind λl41=>
   (Sh.get q3.1 q5.1).bind λc42=>
   some (q40.2,Sh.put q3.1 q5.1 (AL.mk yJ.1 0 l41))
  else
  if decide (wE.1=5)=true then
   (Sh.app q3.1 ([AL.mk 0 0 [],AL.mk 3 0 []]) 40).bind λl45=>
   some (wE.2,l45)
  else
   some (wE.2,q3.1)
 ).bind λ(f7,l8)=>
 some (l8,f7)
def He (N:Nat)(tm:List Int)(tu:Int)(s1:List AU)(tp:List AL):Option (AJ×Int):=
 (Az tm tu (Sh.len s1)).bind λq3=>
 (Sh.get s1 q3.1).bind λc5=>
 (
  Option.bind (Az tm q3.2 24) λvX=>
  if decide (vX.1=0)=true then
   (Sk N tm vX.2 c5.body).bind λwM=>
   some (wM.2,Sh.put s1 q3.1 (AU.mk c5.params c5.result wM.1),tp)
  else
  if decide (vX.1=1)=true then
   (Bx tm vX.2 [(0:Int),1,9,-1]).bind λwF=>
   (Ex c5.params [wF.1]).bind λwD=>
   some (wF.2,Sh.put s1 q3.1 (AU.mk wD c5.result c5.body),tp)
  else
  if decide (vX.1=2)=true then
   (Bx tm vX.2 [(0:Int),1,3,5,-1]).bind λwH=>
   some (wH.2,Sh.put s1 q3.1 (AU.mk c5.params wH.1 c5.body),tp)
  else
  if decide (vX.1=3)=true then
   (J0 tm vX.2).bind λxp=>
   some (xp.2,s1,xp.1)
  else
  if decide (vX.1=4)=true then
   (Sh.app s1 [c5] 72).bind λl29=>
   some (vX.2,l29,tp)
  else
   some (vX.2,s1,tp)
 ).bind λ(f7,l8,f9)=>
 some (AJ.mk f9 l8,f7)
def IT (N:Nat)(tm:List Int)(tu:Int):Option (AJ×Int):=
 (IB N tm tu).bind λq3=>
 (He N tm q3.2 q3.1.funcs q3.1.decls).bind λq4=>
 some (q4.1,q4.2)
def HK (N:Nat)(p0:List Int):Option (AJ×Int):=
 (JJ p0).bind λq3=>
 (IT N q3.1 q3.2).bind λq5=>
 (
  Option.bind (Bx q3.1 q5.2 [(1:Int),2,3,1,3,0,-1,4]) λq9=>
  some q9.1
 ).bind λt7=>
 some (q5.1,t7)
end RC
namespace RC
end RC
namespace RC
def Uv (p0:AD)(wA:AD->Option (AD)):Nat->Int->(List AD)->Option (List AD)
 |0,_,_=>none
 |n+1,k5,l6=>
  if decide (k5<Sh.len p0.kids)=true then
   (Sh.get p0.kids k5).bind λc27=>
   (wA c27).bind λwz=>
   (Sh.app l6 [wz] 40).bind λl29=>
   Uv p0 wA n (Sh.w (k5+1)) l29
  else
   some l6
def IS (N:Nat)(p0:AD):Option (AD):=
 (Ht N p0.kids).bind λq3=>
 some (AD.mk p0.op p0.num q3)
def EF (N:Nat)(p0:AJ)(p1:List AD):Nat->Int->(List AU)->Option ((AJ×Bool) ⊕ (List AU))
 |0,_,_=>none
 |n+1,i6,l7=>
  if decide (i6<Sh.len p0.funcs)=true then
   (Sh.get p1 i6).bind λxQ=>
   (HT N xQ).bind λxA=>
   if decide (xA<0)=true then
    some (Sum.inl (AJ.mk [] [],false))
   else
    (Sh.get p0.funcs i6).bind λc21=>
    (Fu c21.params).bind λwW=>
    (IS N xQ).bind λwH=>
    (Sh.app l7 [AU.mk wW c21.result wH] 72).bind λl24=>
    EF N p0 p1 n (Sh.w (i6+1)) l24
  else
   some (Sum.inr l7)
def IV (N:Nat)(p0:AJ)(p1:List AD):Option (AJ×Bool):=
 (I7 N p0.decls).bind λq3=>
 Sh.cont (EF N p0 p1 N 0 []) id λl8=>
 some (AJ.mk q3 l8,true)
def Co (p0:AD)(p1 p2:Int)(uU:AD->Int->Int->Option (AD)):Nat->Int->(List AD)->Option (List AD)
 |0,_,_=>none
 |n+1,t9,l10=>
  if decide (t9<Sh.len p0.kids)=true then
   (Sh.get p0.kids t9).bind λwS=>
   (uU wS p1 p2).bind λwD=>
   (Sh.app l10 [wD] 40).bind λl21=>
   Co p0 p1 p2 uU n (Sh.w (t9+1)) l21
  else
   some l10
def I1 (N:Nat)(uU:AD->Int->Int->Option (AD))(p0:AD)(p1 p2:Int):Option (AD):=
 (
  Option.bind (
   if decide (p0.op=12)=true then
    some (decide (p1<=p0.num))
   else
    some false
  ) λt25=>
  if t25=true then
   some (Sh.w (p0.num+p2))
  else
   some p0.num
 ).bind λf3=>
 (Co p0 p1 p2 uU N 0 []).bind λl11=>
 some (AD.mk p0.op f3 l11)
def EG (N:Nat):Nat->AD->Int->Int->Option (AD)
 |0,_,_,_=>none
 |n+1,p0,p1,p2=>I1 N (EG N n) p0 p1 p2
def Gv (N:Nat)(p0:AD)(p1 p2:Int):Option (AD):=EG N N p0 p1 p2
def I4 (N:Nat)(p0:AD):Option (AD):=
 (Gv N p0 0 0).bind λq3=>
 some q3
def DS (N:Nat)(p0:AJ):Nat->Int->(List AU)->Option (List AU)
 |0,_,_=>none
 |n+1,t6,l7=>
  if decide (t6<Sh.len p0.funcs)=true then
   (Sh.get p0.funcs t6).bind λwh=>
   (CN wh.params).bind λwZ=>
   (I4 N wh.body).bind λxA=>
   (Sh.app l7 [AU.mk wZ wh.result xA] 72).bind λl19=>
   DS N p0 n (Sh.w (t6+1)) l19
  else
   some l7
def Hf (N:Nat)(p0:AJ):Option (AJ):=
 (IX N p0.decls).bind λq3=>
 (DS N p0 N 0 []).bind λl8=>
 some (AJ.mk q3 l8)
end RC
namespace RC
def Ge (N:Nat)(p0:List AD)(p2:Int):Nat->AD->Option AD
 |0,b=>some b
 |i+1,b=>
  (Sh.get p0 (i:Int)).bind λx=>
  (Gv N x p2 (i:Int)).bind λq=>
  Ge N p0 p2 i (AD.mk 13 0 [q,b])
def LO (N:Nat)(s0 p0:List AD)(tp uj p2:Int):Option AD:=
 if p0.length<=1048576 then Ge N p0 p2 p0.length (AD.mk tp uj s0) else none
theorem SJ {N:Nat}{p0:List AD}{p2:Int}:∀(n:Nat) {b r:AD},Ge N p0 p2 n b=some r->
  ∃bs:Nat->AD,bs n=b/\bs 0=r/\∀i,i<n->∃x q,Sh.get p0 (i:Int)=some x/\Gv N x p2 (i:Int)=some q/\bs i=AD.mk 13 0 [q,bs (i+1)]
 |0,b,r,h=>by
  rw[Ge]at h;cases h;exact⟨λ_=>b,rfl,rfl,λi hi=>by omega⟩
 |n+1,b,r,h=>by
  rw[Ge]at h;obtain⟨x,h1,h⟩:=Sh.bind_some h;obtain⟨q,h2,h⟩:=Sh.bind_some h;obtain⟨bs,e1,e2,e3⟩:=SJ n h;refine⟨λi=>if i=n+1 then b else bs i,by simp,by simp[e2],λi hi=>?_⟩;by_cases vR:i=n
  .subst vR;refine⟨x,q,h1,h2,?_⟩;simp[e1]
  .obtain⟨x',q',g1,g2,g3⟩:=e3 i (by omega);refine⟨x',q',g1,g2,?_⟩;have n1:¬ i=n+1:=by omega
   have n2:¬ i+1=n+1:=by omega
   simp only[n1,n2,pV];exact g3
end RC
namespace RC
def Kb (N:Nat)(p0:AJ)(p1:AD)(p2 p3:Int):Option Int:=
 if decide (p2=0)=true then
  some p3
 else
 if decide (p1.op=13)=true then
  some (Sh.w (p3+1))
 else
 if decide (p1.op=8)=true then
  (G0 N p0.decls p1.num).bind λyn=>
  (Sh.get yn (Sh.w (p2-1))).bind λza=>
  (Bt N p0.decls za).bind λwM=>
  some (Sh.w (p3+Sh.len wM))
 else
  some p3
def E5 (p0:List AD)(p1 p2:Int)(uJ:AD->Int->Int->Option (AD)):Nat->Int->(List AD)->Option (List AD)
 |0,_,_=>none
 |n+1,i5,l6=>
  if decide (i5<Sh.len p0)=true then
   (Sh.get p0 i5).bind λwx=>
   (uJ wx p1 p2).bind λvl=>
   (Sh.app l6 [vl] 40).bind λze=>
   E5 p0 p1 p2 uJ n (Sh.w (i5+1)) ze
  else
   some l6
def LV (N:Nat)(uJ:AD->Int->Int->Option (AD))(p0:List AD)(p1 p2:Int):Option (List AD):=
 (E5 p0 p1 p2 uJ N 0 []).bind λl7=>
 some l7
def MD (N:Nat)(uJ:AD->Int->Int->Option (AD))(p0:AD)(p1 p2:Int):Option (AD):=
 (
  Option.bind (
   if decide (p0.op=12)=true then
    some (decide (p1<=p0.num))
   else
    some false
  ) λt9=>
  if t9=true then
   some (Sh.w (p0.num+p2))
  else
   some p0.num
 ).bind λzo=>
 (LV N uJ p0.kids p1 p2).bind λq7=>
 some (AD.mk p0.op zo q7)
def HS (N:Nat):Nat->AD->Int->Int->Option (AD)
 |0,_,_,_=>none
 |n+1,p0,p1,p2=>MD N (HS N n) p0 p1 p2
def MU (N:Nat)(p0:AD)(p1 p2:Int):Option (AD):=HS N N p0 p1 p2
def HV (N:Nat)(p0:List AD)(p2:Int):Nat->Int->Int->Int->(List AD)->Option (Int×Int×(List AD))
 |0,_,_,_,_=>none
 |n+1,k5,f6,f7,f8=>
  if decide (0<=k5)=true then
   (Sh.get p0 k5).bind λxW=>
   (MU N xW p2 k5).bind λwF=>
   HV N p0 p2 n (Sh.w (k5-1)) 13 0 [wF,AD.mk f6 f7 f8]
  else
   some (f6,f7,f8)
def NT (N:Nat)(p0:List AD)(p1:AD)(p2:Int):Option (AD):=
 (HV N p0 p2 N (Sh.w ((Sh.len p0)-1)) p1.op p1.num p1.kids).bind λ(f9,f10,f11)=>
 some (AD.mk f9 f10 f11)
end RC
namespace RC
def Eu (N:Nat)(p0:AJ)(p1:Int)(p2:AD)(p3:Int)(uZ:AJ->Int->AD->Int->Option (AD)):Nat->Int->(List AD)->Option (List AD)
 |0,_,_=>none
 |n+1,k5,l6=>
  if decide (k5<Sh.len p2.kids)=true then
   (Sh.get p2.kids k5).bind λc24=>
   (Kb N p0 p2 k5 p3).bind λxm=>
   (uZ p0 p1 c24 xm).bind λxp=>
   (Sh.app l6 [xp] 40).bind λl27=>
   Eu N p0 p1 p2 p3 uZ n (Sh.w (k5+1)) l27
  else
   some l6
def LJ (N:Nat)(uZ:AJ->Int->AD->Int->Option (AD))(p0:AJ)(p1:Int)(p2:AD)(p3:Int):Option (AD):=
 (Eu N p0 p1 p2 p3 uZ N 0 []).bind λl7=>
 (
  if decide (p2.op=9)=true then
   some (decide (p2.num=p1))
  else
   some false
 ).bind λt11=>
 if t11=true then
  (Sh.get p0.funcs p1).bind λza=>
  (MU N za.body 0 p3).bind λwM=>
  (NT N l7 wM p3).bind λwZ=>
  some wZ
 else
  some (AD.mk p2.op p2.num l7)
def GX (N:Nat):Nat->AJ->Int->AD->Int->Option (AD)
 |0,_,_,_,_=>none
 |n+1,p0,p1,p2,p3=>LJ N (GX N n) p0 p1 p2 p3
def Pn (N:Nat)(p0:AJ)(p1:Int)(p2:AD)(p3:Int):Option (AD):=GX N N p0 p1 p2 p3
def Fw (N:Nat)(p0:AJ)(p1:Int):Nat->Int->(List AD)->Option (List AD)
 |0,_,_=>none
 |n+1,i11,zi=>
  if decide (i11<Sh.len p0.funcs)=true then
   (Sh.get p0.funcs i11).bind λc21=>
   (Pn N p0 p1 c21.body (Sh.len c21.params)).bind λwW=>
   (Sh.app zi [wW] 40).bind λl23=>
   Fw N p0 p1 n (Sh.w (i11+1)) l23
  else
   some zi
def GY (N:Nat)(p0:AJ)(p1:Int):Option (AJ×Bool):=
 (
  Option.bind (BM N p0) λxn=>
  if (!xn)=true then
   some true
  else
   (Dk N p0 p1).bind λxp=>
   some (!xp)
 ).bind λt4=>
 if t4=true then
  some (AJ.mk [] [],false)
 else
  (Fw N p0 p1 N 0 []).bind λl13=>
  (IV N p0 l13).bind λwM=>
  some (wM.1,wM.2)
def Li (N:Nat)(tm:Int)(uB:List AL)(uR:List AU)(s2:List AD)(xR xE p1:Int):Option (AD):=
 (
  if (!decide (xR=9))=true then
   some true
  else
   some (!decide (xE=tm))
 ).bind λt4=>
 if t4=true then
  some (AD.mk xR xE s2)
 else
  (Sh.get uR tm).bind λc9=>
  (Gv N c9.body 0 p1).bind λvU=>
  (LO N vU.kids s2 vU.op vU.num p1).bind λvz=>
  some vz
def Cr (N:Nat)(s0:List AD)(uS:List AL)(uT:List AU)(p0:List AL)(tp uj p2:Int)(uG:(List AD)->Int->(List AL)->(List AU)->(List AL)->Int->Int->Int->Option (AD×Int)):Nat->Int->(List AD)->Int->Option ((List AD)×Int)
 |0,_,_,_=>none
 |n+1,t4,l5,f6=>
  if decide (t4<Sh.len s0)=true then
   (
    Option.bind (
     if decide (tp=13)=true then
      some (decide (t4=1))
     else
      some false
    ) λt25=>
    if t25=true then
     some (Sh.w (p2+1))
    else
     (
      if decide (tp=8)=true then
       some (decide (0<t4))
      else
       some false
     ).bind λt29=>
     if t29=true then
      (I0 N p0 uj).bind λzF=>
      (Sh.get zF (Sh.w (t4-1))).bind λc33=>
      (Eg N p0 c33).bind λvy=>
      some (Sh.w (p2+Sh.len vy))
     else
      some p2
   ).bind λscope19=>
   (Sh.get l5 t4).bind λc21=>
   (uG c21.kids f6 uS uT p0 c21.op c21.num scope19).bind λwW=>
   Cr N s0 uS uT p0 tp uj p2 uG n (Sh.w (t4+1)) (Sh.put l5 t4 wW.1) wW.2
  else
   some (l5,f6)
def Hj (N:Nat)(uG:(List AD)->Int->(List AL)->(List AU)->(List AL)->Int->Int->Int->Option (AD×Int))(s0:List AD)(uB:Int)(uS:List AL)(uT:List AU)(p0:List AL)(tp uj p2:Int):Option (AD×Int):=
 (Cr N s0 uS uT p0 tp uj p2 uG N 0 s0 uB).bind λ(l7,f8)=>
 (Li N f8 uS uT l7 tp uj p2).bind λvz=>
 some (vz,f8)
def DP (N:Nat):Nat->(List AD)->Int->(List AL)->(List AU)->(List AL)->Int->Int->Int->Option (AD×Int)
 |0,_,_,_,_,_,_,_,_=>none
 |n+1,s0,uB,uS,uT,p0,tp,uj,p2=>Hj N (DP N n) s0 uB uS uT p0 tp uj p2
def KP (N:Nat)(s0:List AD)(uB:Int)(uS:List AL)(uT:List AU)(p0:List AL)(tp uj p2:Int):Option (AD×Int):=DP N N s0 uB uS uT p0 tp uj p2
def Dx (N:Nat)(uB:List AL)(uR:List AU)(p0 q3:AJ):Nat->Int->Int->(List AU)->Option ((AJ×Bool×Int) ⊕ (Int×(List AU)))
 |0,_,_,_=>none
 |n+1,t6,f7,l8=>
  if decide (t6<Sh.len q3.funcs)=true then
   (Sh.get l8 t6).bind λwS=>
   (KP N wS.body.kids f7 uB uR p0.decls wS.body.op wS.body.num (Sh.len wS.params)).bind λwD=>
   (Sh.get (Sh.put l8 t6 (AU.mk wS.params wS.result wD.1)) t6).bind λc23=>
   (JR N c23.body).bind λxn=>
   if decide (xn<0)=true then
    some (Sum.inl (AJ.mk [] [],false,wD.2))
   else
    Dx N uB uR p0 q3 n (Sh.w (t6+1)) wD.2 (Sh.put l8 t6 (AU.mk wS.params wS.result wD.1))
  else
   some (Sum.inr (f7,l8))
def Ji (N:Nat)(tm:Int)(uB:List AL)(uR:List AU)(p0:AJ):Option (AJ×Bool×Int):=
 (Hf N p0).bind λq3=>
 Sh.cont (Dx N uB uR p0 q3 N 0 tm q3.funcs) id λ(f9,l10)=>
 some (AJ.mk q3.decls l10,true,f9)
def F5 (N:Nat)(p0:AJ)(p1:Int):Option (AJ×Bool):=
 (DI N p0 p1).bind λq4=>
 if (!q4)=true then
  some (AJ.mk [] [],false)
 else
  (Ji N p1 p0.decls p0.funcs p0).bind λvU=>
  some (vU.1,vU.2.1)
end RC
namespace RC
def Ec (p0 p1:List Int):Nat->Int->Option (Bool⊕Unit)
 |0,_=>none
 |n+1,i10=>
  if decide (i10<Sh.len p0)=true then
   (Sh.get p0 i10).bind λxW=>
   (Sh.get p1 i10).bind λwS=>
   if (!decide (xW=wS))=true then
    some (Sum.inl false)
   else
    Ec p0 p1 n (Sh.w (i10+1))
  else
   some (Sum.inr ())
def HE (N:Nat)(p0 p1:List Int):Option Bool:=
 if (!decide ((Sh.len p0)=Sh.len p1))=true then
  some false
 else
  Sh.cont (Ec p0 p1 N 0) id λ()=>
  some true
def EE (N:Nat)(i10:Int)(p0 p1:List AL):Nat->Int->Option (Bool⊕Unit)
 |0,_=>none
 |n+1,k24=>
  (Sh.get p0 i10).bind λc28=>
  if decide (k24<Sh.len c28.cons)=true then
   (Sh.get c28.cons k24).bind λc32=>
   (Sh.get p1 i10).bind λc33=>
   (Sh.get c33.cons k24).bind λc34=>
   (HE N c32.fields c34.fields).bind λyJ=>
   if (!yJ)=true then
    some (Sum.inl false)
   else
    EE N i10 p0 p1 n (Sh.w (k24+1))
  else
   some (Sum.inr ())
def D8 (N:Nat)(p0 p1:List AL):Nat->Int->Option (Bool⊕Unit)
 |0,_=>none
 |n+1,i10=>
  if decide (i10<Sh.len p0)=true then
   (
    Option.bind (Sh.get p0 i10) λc40=>
    (Sh.get p1 i10).bind λc41=>
    if (!decide (c40.from_=c41.from_))=true then
     some true
    else
    if (!decide (c40.to=c41.to))=true then
     some true
    else
     some (!decide ((Sh.len c40.cons)=Sh.len c41.cons))
   ).bind λt19=>
   if t19=true then
    some (Sum.inl false)
   else
    Sh.cont (EE N i10 p0 p1 N 0) (λx=>Sum.inl x) λ()=>
    D8 N p0 p1 n (Sh.w (i10+1))
  else
   some (Sum.inr ())
def Ii (N:Nat)(p0 p1:List AL):Option Bool:=
 if (!decide ((Sh.len p0)=Sh.len p1))=true then
  some false
 else
  Sh.cont (D8 N p0 p1 N 0) id λ()=>
  some true
def Dv (p0 p1:AD)(uO:AD->AD->Option Bool):Nat->Int->Option (Bool⊕Unit)
 |0,_=>none
 |n+1,i10=>
  if decide (i10<Sh.len p0.kids)=true then
   (Sh.get p0.kids i10).bind λxW=>
   (Sh.get p1.kids i10).bind λwS=>
   (uO xW wS).bind λwD=>
   if (!wD)=true then
    some (Sum.inl false)
   else
    Dv p0 p1 uO n (Sh.w (i10+1))
  else
   some (Sum.inr ())
def Jc (N:Nat)(uO:AD->AD->Option Bool)(p0 p1:AD):Option Bool:=
 (
  if (!decide (p0.op=p1.op))=true then
   some true
  else
  if (!decide (p0.num=p1.num))=true then
   some true
  else
   some (!decide ((Sh.len p0.kids)=Sh.len p1.kids))
 ).bind λt4=>
 if t4=true then
  some false
 else
  Sh.cont (Dv p0 p1 uO N 0) id λ()=>
  some true
def Fb (N:Nat):Nat->AD->AD->Option Bool
 |0,_,_=>none
 |n+1,p0,p1=>Jc N (Fb N n) p0 p1
def MZ (N:Nat)(p0 p1:AD):Option Bool:=Fb N N p0 p1
def DT (N:Nat)(p0 p1:AJ):Nat->Int->Option (Bool⊕Unit)
 |0,_=>none
 |n+1,i10=>
  if decide (i10<Sh.len p0.funcs)=true then
   (
    Option.bind (Sh.get p0.funcs i10) λc22=>
    (Sh.get p1.funcs i10).bind λc23=>
    (HE N c22.params c23.params).bind λxn=>
    if (!xn)=true then
     some true
    else
    if (!decide (c22.result=c23.result))=true then
     some true
    else
     (MZ N c22.body c23.body).bind λwy=>
     some (!wy)
   ).bind λt18=>
   if t18=true then
    some (Sum.inl false)
   else
    DT N p0 p1 n (Sh.w (i10+1))
  else
   some (Sum.inr ())
def Gk (N:Nat)(p0 p1:AJ):Option Bool:=
 (
  Option.bind (Ii N p0.decls p1.decls) λwz=>
  if (!wz)=true then
   some true
  else
   some (!decide ((Sh.len p0.funcs)=Sh.len p1.funcs))
 ).bind λt4=>
 if t4=true then
  some false
 else
  Sh.cont (DT N p0 p1 N 0) id λ()=>
  some true
end RC
namespace RC
def IY (N:Nat)(p0:List Int):Option (AJ×Int):=
 (HK N p0).bind λq3=>
 some (q3.1,q3.2)
def Ey (N:Nat)(q7:AJ×Int)(q9:AJ×Bool):Nat->Int->Option (Bool⊕Unit)
 |0,_=>none
 |n+1,g24=>
  if decide (g24<Sh.len q7.1.funcs)=true then
   (
    if decide ((Sh.len q9.1.funcs)<=g24)=true then
     some true
    else
     (Sh.get q9.1.funcs g24).bind λc44=>
     (Sh.get q7.1.funcs g24).bind λc45=>
     (HE N c44.params c45.params).bind λq46=>
     if (!q46)=true then
      some true
     else
      some (!decide (c44.result=c45.result))
   ).bind λt39=>
   if t39=true then
    some (Sum.inl false)
   else
    Ey N q7 q9 n (Sh.w (g24+1))
  else
   some (Sum.inr ())
def LK (N:Nat)(p0:List Int):Option Bool:=
 if decide (1048576<Sh.len p0)=true then
  some true
 else
  (IY N p0).bind λq7=>
  (F5 N q7.1 q7.2).bind λq9=>
  (GY N q7.1 q7.2).bind λvz=>
  (
   Option.bind (Gk N q9.1 vz.1) λq48=>
   if (!q48)=true then
    some true
   else
   if (q9.2 != vz.2)=true then
    some true
   else
    some (!q9.2)
  ).bind λt14=>
  if t14=true then
   (
    Option.bind (Gk N q9.1 vz.1) λwD=>
    if wD=true then
     some (q9.2==vz.2)
    else
     some false
   ).bind λt18=>
   some t18
  else
   Sh.cont (Ey N q7 q9 N 0) id λ()=>
   (
    Option.bind (Bz N q9.1) λyS=>
    if yS=true then
     (JF N q9.1 q7.2).bind λq31=>
     if decide (q31=0)=true then
      (DI N q7.1 q7.2).bind λyK=>
      some yK
     else
      some false
    else
     some false
   ).bind λt27=>
   some t27
end RC
