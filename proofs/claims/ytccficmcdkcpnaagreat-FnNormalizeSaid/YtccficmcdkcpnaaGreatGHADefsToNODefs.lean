import Derived.Test.YtccficmcdkcpnaaGreatSufF
set_option linter.all false
namespace RC
def N9 (p0:(List Int))(p1:Int):Option (Int):=
 if (decide ((Sh.w (p1-(Sh.len p0)))<0))=true then
  some (-1)
 else
  some (Sh.w (p1-(Sh.len p0)))
def Bv (p0 p1 p2:Int):Option (Bool):=
 (
  if (decide (p1<=p0))=true then
   some (decide (p0<=p2))
  else
   some false
 ).bind λt3=>
 some t3
def Bx (p0:(List Int)):Option (List Int):=
 (Sh.app ([]:List Int) p0 8).bind λl6=>
 some l6
end RC
namespace RC
def cK (p0:EK)(p1:Int):Option (Int):=
 (N9 p0.fields p1).bind λq3=>
 if (decide (q3<0))=true then
  some (-1)
 else
  some q3
def Wc (p0:(List EK)):Nat->Int->Int->Option ((Int) ⊕ (Int))
 | 0,_,_=>none
 | n+1,left9,i10=>
  if (decide (i10<(Sh.len p0)))=true then
   (Sh.get p0 i10).bind λwe=>
   (cK we left9).bind λwH=>
   if (decide (wH<0))=true then
    some (Sum.inl (-1))
   else
    Wc p0 n wH (Sh.w (i10+1))
  else
   some (Sum.inr left9)
def Gd (p0:(List AI))(p1:(List Int)):Nat->Int->Option ((Bool) ⊕ (Unit))
 | 0,_=>none
 | n+1,i4=>
  if (decide (i4<(Sh.len p1)))=true then
   (Sh.get p1 i4).bind λyh=>
   (Bv yh 0 (Sh.len p0)).bind λvv=>
   if (!vv)=true then
    some (Sum.inl false)
   else
    Gd p0 p1 n (Sh.w (i4+1))
  else
   some (Sum.inr ())
def JI (N:Nat)(p0:(List AI))(p1:(List Int)):Option (Bool):=
 Sh.cont (Gd p0 p1 N 0) (id) λ()=>
 some true
def GJ (N:Nat)(c3:AI)(p0:(List AI)):Nat->Int->Option ((Bool) ⊕ (Unit))
 | 0,_=>none
 | n+1,i15=>
  if (decide (i15<(Sh.len c3.cons)))=true then
   (
    Option.bind (Sh.get c3.cons i15) λc27=>
    if (decide (3<(Sh.len c27.fields)))=true then
     some true
    else
     (JI N p0 c27.fields).bind λza=>
     some (!za)
   ).bind λt23=>
   if t23=true then
    some (Sum.inl false)
   else
    GJ N c3 p0 n (Sh.w (i15+1))
  else
   some (Sum.inr ())
def GI (c3:AI)(p0:(List AI))(p1:Int):Nat->Int->Option ((Bool) ⊕ (Unit))
 | 0,_=>none
 | n+1,i34=>
  if (decide (i34<p1))=true then
   (
    Option.bind (Sh.get p0 i34) λc51=>
    if (decide ((Sh.len c51.cons)=0))=true then
     if (decide (c51.from_=c3.from_))=true then
      some (decide (c51.to=c3.to))
     else
      some false
    else
     some false
   ).bind λt47=>
   if t47=true then
    some (Sum.inl false)
   else
    GI c3 p0 p1 n (Sh.w (i34+1))
  else
   some (Sum.inr ())
def Jq (N:Nat)(p0:(List AI))(p1:Int):Option (Bool):=
 (Sh.get p0 p1).bind λc3=>
 if (decide (0<(Sh.len c3.cons)))=true then
  (
   if (decide (3<(Sh.len c3.cons)))=true then
    some true
   else
   if (!decide (c3.from_=0))=true then
    some true
   else
    some (!decide (c3.to=0))
  ).bind λt9=>
  if t9=true then
   some false
  else
   Sh.cont (GJ N c3 p0 N 0) (id) λ()=>
   some true
 else
  Sh.cont (GI c3 p0 p1 N 0) (id) λ()=>
  (
   Option.bind (Bv c3.from_ 0 (Sh.len p0)) λzJ=>
   if zJ=true then
    (Bv c3.to 0 (Sh.len p0)).bind λq41=>
    some q41
   else
    some false
  ).bind λt37=>
  some t37
def Fh (N:Nat)(p0:(List AI)):Nat->Int->Option ((Bool) ⊕ (Unit))
 | 0,_=>none
 | n+1,i8=>
  if (decide (i8<(Sh.len p0)))=true then
   (Jq N p0 i8).bind λxX=>
   if (!xX)=true then
    some (Sum.inl false)
   else
    Fh N p0 n (Sh.w (i8+1))
  else
   some (Sum.inr ())
def JH (N:Nat)(p0:(List AI)):Option (Bool):=
 if (decide (4<(Sh.len p0)))=true then
  some false
 else
  Sh.cont (Fh N p0 N 0) (id) λ()=>
  some true
def FM (N:Nat)(p0:AP):Nat->Int->Option ((Bool) ⊕ (Unit))
 | 0,_=>none
 | n+1,i10=>
  if (decide (i10<(Sh.len p0.funcs)))=true then
   (Sh.get p0.funcs i10).bind λc22=>
   (
    if (decide (3<(Sh.len c22.params)))=true then
     some true
    else
     (JI N p0.decls c22.params).bind λza=>
     if (!za)=true then
      some true
     else
      (Bv c22.result 0 (Sh.len p0.decls)).bind λq31=>
      some (!q31)
   ).bind λt24=>
   if t24=true then
    some (Sum.inl false)
   else
    FM N p0 n (Sh.w (i10+1))
  else
   some (Sum.inr ())
def HY (N:Nat)(p0:AP):Option (Bool):=
 (
  Option.bind (JH N p0.decls) λxb=>
  if (!xb)=true then
   some true
  else
   (Bv (Sh.len p0.funcs) 1 4).bind λwQ=>
   some (!wQ)
 ).bind λt4=>
 if t4=true then
  some false
 else
  Sh.cont (FM N p0 N 0) (id) λ()=>
  (
   Option.bind (Sh.get p0.funcs 0) λc15=>
   if (decide ((Sh.len c15.params)=0))=true then
    some (decide (c15.result=0))
   else
    some false
  ).bind λt13=>
  some t13
def H6 (p0:(List Int))(p1:(List Int)):Nat->Int->Option ((Bool) ⊕ (Unit))
 | 0,_=>none
 | n+1,i4=>
  if (decide (i4<(Sh.len p1)))=true then
   (
    Option.bind (Sh.get p1 i4) λwu=>
    (Bv wu 0 (Sh.w ((Sh.len p0)-1))).bind λxA=>
    if (!xA)=true then
     some true
    else
     (Sh.get p0 wu).bind λwe=>
     if (decide (we=0))=true then
      some true
     else
     if (decide (0<i4))=true then
      (Sh.get p1 (Sh.w (i4-1))).bind λc22=>
      some (decide (wu<=c22))
     else
      some false
   ).bind λt12=>
   if t12=true then
    some (Sum.inl false)
   else
    H6 p0 p1 n (Sh.w (i4+1))
  else
   some (Sum.inr ())
def Nx (N:Nat)(p0:(List Int))(p1:(List Int)):Option (Bool):=
 Sh.cont (H6 p0 p1 N 0) (id) λ()=>
 some true
def NP (p0:Int):Option (Bool):=
 (Bv p0 0 11).bind λq3=>
 some q3
def Fl (p0:(List AI))(p1:Int):Nat->Int->Int->Option (Int)
 | 0,_,_=>none
 | n+1,n5,i6=>
  if (decide (i6<p1))=true then
   (Sh.get p0 i6).bind λwT=>
   Fl p0 p1 n (Sh.w (n5+(Sh.len wT.cons))) (Sh.w (i6+1))
  else
   some n5
def IA (N:Nat)(p0:(List AI))(p1:Int):Option (Int):=
 (Fl p0 p1 N 0 0).bind λn7=>
 some n7
def Ei (N:Nat)(p0:(List AI))(p1:Int):Nat->Int->Option ((Int) ⊕ (Unit))
 | 0,_=>none
 | n+1,i4=>
  if (decide (i4<(Sh.len p0)))=true then
   (IA N p0 i4).bind λwJ=>
   (Sh.get p0 i4).bind λwT=>
   (Bv p1 wJ (Sh.w ((Sh.w (wJ+(Sh.len wT.cons)))-1))).bind λwD=>
   if wD=true then
    some (Sum.inl (Sh.w (i4+1)))
   else
    Ei N p0 p1 n (Sh.w (i4+1))
  else
   some (Sum.inr ())
def DU (N:Nat)(p0:(List AI))(p1:Int):Option (Int):=
 Sh.cont (Ei N p0 p1 N 0) (id) λ()=>
 some (-1)
def BV (N:Nat)(p0:(List AI))(p1:Int):Option (List Int):=
 (DU N p0 p1).bind λq3=>
 if (decide (q3<1))=true then
  some []
 else
  (Sh.get p0 (Sh.w (q3-1))).bind λc9=>
  (IA N p0 (Sh.w (q3-1))).bind λwL=>
  (Sh.get c9.cons (Sh.w (p1-wL))).bind λc11=>
  some c11.fields
def Gq (N:Nat)(p0:(List AI))(p1:Int):Nat->Int->(List Int)->Option (List Int)
 | 0,_,_=>none
 | n+1,i12,l13=>
  (Sh.get p0 (Sh.w (p1-1))).bind λwe=>
  if (decide (i12<(Sh.len we.cons)))=true then
   (IA N p0 (Sh.w (p1-1))).bind λyv=>
   (Sh.app l13 [Sh.w (yv+i12)] 8).bind λzp=>
   Gq N p0 p1 n (Sh.w (i12+1)) zp
  else
   some l13
def Gj (N:Nat)(p0:(List AI))(p1:Int):Option (List Int):=
 (Bv p1 1 (Sh.len p0)).bind λq5=>
 if (!q5)=true then
  some []
 else
  (Gq N p0 p1 N 0 []).bind λwM=>
  some wM
def Iv (p0:(List AI))(p1:Int):Option (Bool):=
 (
  if (decide (0<=p1))=true then
   some (decide (p1<=(Sh.len p0)))
  else
   some false
 ).bind λt3=>
 some t3
def Gi (p0:(List AI))(p1:(List Int)):Nat->Int->Option ((Bool) ⊕ (Unit))
 | 0,_=>none
 | n+1,t4=>
  if (decide (t4<(Sh.len p1)))=true then
   (Sh.get p1 t4).bind λyh=>
   (Iv p0 yh).bind λzS=>
   if (!zS)=true then
    some (Sum.inl false)
   else
    Gi p0 p1 n (Sh.w (t4+1))
  else
   some (Sum.inr ())
def H4 (N:Nat)(p0:(List AI))(p1:(List Int)):Option (Bool):=
 Sh.cont (Gi p0 p1 N 0) (id) λ()=>
 some true
def En (wu:AI)(l28:(List AI)):Nat->Int->Option ((Bool) ⊕ (Unit))
 | 0,_=>none
 | n+1,t29=>
  if (decide (t29<(Sh.len l28)))=true then
   (Sh.get l28 t29).bind λc36=>
   (
    if (decide ((Sh.len wu.cons)=0))=true then
     if (decide ((Sh.len c36.cons)=0))=true then
      if (decide (c36.from_=wu.from_))=true then
       some (decide (c36.to=wu.to))
      else
       some false
     else
      some false
    else
     some false
   ).bind λt38=>
   if t38=true then
    some (Sum.inl false)
   else
    En wu l28 n (Sh.w (t29+1))
  else
   some (Sum.inr ())
def Eo (N:Nat)(wu:AI)(p0:(List AI)):Nat->Int->Option ((Bool) ⊕ (Unit))
 | 0,_=>none
 | n+1,t25=>
  if (decide (t25<(Sh.len wu.cons)))=true then
   (Sh.get wu.cons t25).bind λzb=>
   (
    if (decide (3<(Sh.len zb.fields)))=true then
     some true
    else
     (H4 N p0 zb.fields).bind λq57=>
     some (!q57)
   ).bind λt52=>
   if t52=true then
    some (Sum.inl false)
   else
    Eo N wu p0 n (Sh.w (t25+1))
  else
   some (Sum.inr ())
def Ff (N:Nat)(p0:(List AI)):Nat->Int->Option ((Bool) ⊕ (Unit))
 | 0,_=>none
 | n+1,t8=>
  if (decide (t8<(Sh.len p0)))=true then
   (Sh.get p0 t8).bind λwu=>
   (
    Option.bind (Iv p0 wu.from_) λq58=>
    if (!q58)=true then
     some true
    else
     (Iv p0 wu.to).bind λq60=>
     if (!q60)=true then
      some true
     else
     if (decide (3<(Sh.len wu.cons)))=true then
      some true
     else
     if (decide (0<(Sh.len wu.cons)))=true then
      if (!decide (wu.from_=0))=true then
       some true
      else
       some (!decide (wu.to=0))
     else
      some false
   ).bind λt19=>
   if t19=true then
    some (Sum.inl false)
   else
    Sh.cont (Eo N wu p0 N 0) (λx=>Sum.inl x) λ()=>
    (Sh.sl p0 0 t8).bind λl28=>
    Sh.cont (En wu l28 N 0) (λx=>Sum.inl x) λ()=>
    Ff N p0 n (Sh.w (t8+1))
  else
   some (Sum.inr ())
def JM (N:Nat)(p0:(List AI)):Option (Bool):=
 if (decide (4<(Sh.len p0)))=true then
  some false
 else
  Sh.cont (Ff N p0 N 0) (id) λ()=>
  some true
def E5 (wg:BX):Nat->Int->Option ((Bool) ⊕ (Unit))
 | 0,_=>none
 | n+1,t26=>
  if (decide (t26<(Sh.len wg.CE)))=true then
   (Sh.get wg.CE t26).bind λc33=>
   (
    if (decide (c33<0))=true then
     some true
    else
    if (decide ((Sh.len wg.params)<=c33))=true then
     some true
    else
     (Sh.get wg.params c33).bind λc41=>
     if (decide (c41=0))=true then
      some true
     else
     if (decide (0<t26))=true then
      (Sh.get wg.CE (Sh.w (t26-1))).bind λc44=>
      some (decide (c33<=c44))
     else
      some false
   ).bind λt35=>
   if t35=true then
    some (Sum.inl false)
   else
    E5 wg n (Sh.w (t26+1))
  else
   some (Sum.inr ())
def FH (N:Nat)(p0:(List AI))(p1:(List BX)):Nat->Int->Option ((Bool) ⊕ (Unit))
 | 0,_=>none
 | n+1,t10=>
  if (decide (t10<(Sh.len p1)))=true then
   (Sh.get p1 t10).bind λwg=>
   (
    if (decide (3<(Sh.len wg.params)))=true then
     some true
    else
     (H4 N p0 wg.params).bind λq46=>
     if (!q46)=true then
      some true
     else
      (Iv p0 wg.result).bind λq48=>
      some (!q48)
   ).bind λt21=>
   if t21=true then
    some (Sum.inl false)
   else
    Sh.cont (E5 wg N 0) (λx=>Sum.inl x) λ()=>
    FH N p0 p1 n (Sh.w (t10+1))
  else
   some (Sum.inr ())
def IQ (N:Nat)(p0:(List AI))(p1:(List BX)):Option (Bool):=
 (
  Option.bind (JM N p0) λyR=>
  if (!yR)=true then
   some true
  else
  if (decide ((Sh.len p1)<1))=true then
   some true
  else
  if (decide (4<(Sh.len p1)))=true then
   some true
  else
   (Sh.get p1 0).bind λc53=>
   if (decide (0<(Sh.len c53.params)))=true then
    some true
   else
    some (!decide (c53.result=0))
 ).bind λt4=>
 if t4=true then
  some false
 else
  Sh.cont (FH N p0 p1 N 0) (id) λ()=>
  some true
def Fm (p0:(List AI)):Nat->Int->Int->Option (Int)
 | 0,_,_=>none
 | n+1,n5,t6=>
  if (decide (t6<(Sh.len p0)))=true then
   (Sh.get p0 t6).bind λc15=>
   Fm p0 n (Sh.w (n5+(Sh.len c15.cons))) (Sh.w (t6+1))
  else
   some n5
def Km (N:Nat)(p0:(List AI)):Option (Int):=
 (Fm p0 N 0 0).bind λn7=>
 some n7
def Gu (wT:AI)(wL:Int):Nat->Int->(List Int)->Option (List Int)
 | 0,_,_=>none
 | n+1,t15,l16=>
  if (decide (t15<(Sh.len wT.cons)))=true then
   (Sh.app l16 [Sh.w (wL+t15)] 8).bind λl25=>
   Gu wT wL n (Sh.w (t15+1)) l25
  else
   some l16
def Ji (N:Nat)(p0:(List AI))(p1:Int):Option (List Int):=
 (
  if (decide (p1<1))=true then
   some true
  else
   some (decide ((Sh.len p0)<p1))
 ).bind λt4=>
 if t4=true then
  some []
 else
  (Sh.sl p0 0 (Sh.w (p1-1))).bind λl9=>
  (Km N l9).bind λwL=>
  (Sh.get p0 (Sh.w (p1-1))).bind λwT=>
  (Gu wT wL N 0 []).bind λl17=>
  some l17
def Ge (p0:(List AI)):Nat->Int->Int->Option ((Int×EK) ⊕ (Unit))
 | 0,_,_=>none
 | n+1,c4,t5=>
  if (decide (t5<(Sh.len p0)))=true then
   (Sh.get p0 t5).bind λc13=>
   (
    if (decide (0<=c4))=true then
     some (decide (c4<(Sh.len c13.cons)))
    else
     some false
   ).bind λt16=>
   if t16=true then
    (Sh.get c13.cons c4).bind λxx=>
    some (Sum.inl (Sh.w (t5+1),xx))
   else
    Ge p0 n (Sh.w (c4-(Sh.len c13.cons))) (Sh.w (t5+1))
  else
   some (Sum.inr ())
def JW (N:Nat)(p0:(List AI))(p1:Int):Option (Int×EK):=
 Sh.cont (Ge p0 N p1 0) (id) λ()=>
 some (-1,EK.mk [])
def Dy (N:Nat)(p0:(List AI))(p1:Int):Option (List Int):=
 (JW N p0 p1).bind λq3=>
 some q3.2.fields
end RC
namespace RC
end RC
namespace RC
def PQ (p0:(List Block))(vH:Block->Int->Option (Int)):Nat->Int->Int->Option ((Int) ⊕ (Int))
 | 0,_,_=>none
 | n+1,left9,i10=>
  if (decide (i10<(Sh.len p0)))=true then
   (Sh.get p0 i10).bind λwe=>
   (vH we left9).bind λwH=>
   if (decide (wH<0))=true then
    some (Sum.inl (-1))
   else
    PQ p0 vH n wH (Sh.w (i10+1))
  else
   some (Sum.inr left9)
def Yg (N:Nat)(vH:Block->Int->Option (Int))(p0:(List Block))(p1:Int):Option (Int):=
 if (decide ((Sh.w (p1-(Sh.len p0)))<0))=true then
  some (-1)
 else
  Sh.cont (PQ p0 vH N (Sh.w (p1-(Sh.len p0))) 0) (id) λxL=>
  some xL
def aK (N:Nat)(vH:Block->Int->Option (Int))(p0:Step)(p1:Int):Option (Int):=
 (N9 p0.args p1).bind λq3=>
 if (decide (q3<0))=true then
  some (-1)
 else
  (Yg N vH p0.kids q3).bind λq9=>
  if (decide (q9<0))=true then
   some (-1)
  else
   some q9
def Pz (N:Nat)(p0:(List Step))(vH:Block->Int->Option (Int)):Nat->Int->Int->Option ((Int) ⊕ (Int))
 | 0,_,_=>none
 | n+1,left9,i10=>
  if (decide (i10<(Sh.len p0)))=true then
   (Sh.get p0 i10).bind λwe=>
   (aK N vH we left9).bind λwH=>
   if (decide (wH<0))=true then
    some (Sum.inl (-1))
   else
    Pz N p0 vH n wH (Sh.w (i10+1))
  else
   some (Sum.inr left9)
def Yz (N:Nat)(vH:Block->Int->Option (Int))(p0:(List Step))(p1:Int):Option (Int):=
 if (decide ((Sh.w (p1-(Sh.len p0)))<0))=true then
  some (-1)
 else
  Sh.cont (Pz N p0 vH N (Sh.w (p1-(Sh.len p0))) 0) (id) λxL=>
  some xL
def Wm (N:Nat)(vH:Block->Int->Option (Int))(p0:Block)(p1:Int):Option (Int):=
 (Yz N vH p0.steps p1).bind λq3=>
 if (decide (q3<0))=true then
  some (-1)
 else
  some q3
def RH (N:Nat):Nat->Block->Int->Option (Int)
 | 0,_,_=>none
 | n+1,p0,p1=>Wm N (RH N n) p0 p1
def ZH (N:Nat)(p0:Block)(p1:Int):Option (Int):=RH N N p0 p1
def GY (i5:Int)(p0:Block)(vQ:Block->Int->Option (Int)):Nat->Int->Int->Option ((Int) ⊕ (Int))
 | 0,_,_=>none
 | n+1,left19,k20=>
  (Sh.get p0.steps i5).bind λc25=>
  if (decide (k20<(Sh.len c25.kids)))=true then
   (Sh.get c25.kids k20).bind λc29=>
   (vQ c29 left19).bind λq30=>
   if (decide (q30<0))=true then
    some (Sum.inl (-1))
   else
    GY i5 p0 vQ n q30 (Sh.w (k20+1))
  else
   some (Sum.inr left19)
def GX (N:Nat)(p0:Block)(vQ:Block->Int->Option (Int)):Nat->Int->Int->Option ((Int) ⊕ (Int))
 | 0,_,_=>none
 | n+1,left4,i5=>
  if (decide (i5<(Sh.len p0.steps)))=true then
   if (decide (left4<1))=true then
    some (Sum.inl (-1))
   else
    Sh.cont (GY i5 p0 vQ N (Sh.w (left4-1)) 0) (λx=>Sum.inl x) λleft21=>
    GX N p0 vQ n left21 (Sh.w (i5+1))
  else
   some (Sum.inr left4)
def Pb (N:Nat)(vQ:Block->Int->Option (Int))(p0:Block)(p1:Int):Option (Int):=
 Sh.cont (GX N p0 vQ N p1 0) (id) λleft6=>
 some left6
def Ia (N:Nat):Nat->Block->Int->Option (Int)
 | 0,_,_=>none
 | n+1,p0,p1=>Pb N (Ia N n) p0 p1
def RO (N:Nat)(p0:Block)(p1:Int):Option (Int):=Ia N N p0 p1
def Ph (N:Nat)(p0:Block):Option (Int):=
 (RO N p0 600).bind λq3=>
 if (decide (q3<0))=true then
  some (-1)
 else
  some (Sh.w (600-q3))
def ED (wT:Step)(vD:Int->Block->Option (Bool×Int)):Nat->Int->Int->Option ((Bool×Int) ⊕ (Int))
 | 0,_,_=>none
 | n+1,t21,f22=>
  if (decide (t21<(Sh.len wT.kids)))=true then
   (Sh.get wT.kids t21).bind λc30=>
   (vD f22 c30).bind λxb=>
   if (!xb.1)=true then
    some (Sum.inl (false,xb.2))
   else
    ED wT vD n (Sh.w (t21+1)) xb.2
  else
   some (Sum.inr f22)
def EG (N:Nat)(p0:Block)(vD:Int->Block->Option (Bool×Int)):Nat->Int->Int->Option ((Bool×Int) ⊕ (Int))
 | 0,_,_=>none
 | n+1,t4,f5=>
  if (decide (t4<(Sh.len p0.steps)))=true then
   (Sh.get p0.steps t4).bind λwT=>
   if (decide (600<(Sh.w (f5+1))))=true then
    some (Sum.inl (false,Sh.w (f5+1)))
   else
    Sh.cont (ED wT vD N 0 (Sh.w (f5+1))) (λx=>Sum.inl x) λf23=>
    EG N p0 vD n (Sh.w (t4+1)) f23
  else
   some (Sum.inr f5)
def Jb (N:Nat)(vD:Int->Block->Option (Bool×Int))(uT:Int)(p0:Block):Option (Bool×Int):=
 Sh.cont (EG N p0 vD N 0 uT) (id) λf6=>
 some (true,f6)
def GH (N:Nat):Nat->Int->Block->Option (Bool×Int)
 | 0,_,_=>none
 | n+1,uT,p0=>Jb N (GH N n) uT p0
def Mv (N:Nat)(uT:Int)(p0:Block):Option (Bool×Int):=GH N N uT p0
def Ld (N:Nat)(p0:Block):Option (Int):=
 (Mv N 0 p0).bind λq5=>
 if (!q5.1)=true then
  some (-1)
 else
  some q5.2
def EM (p0:Int):Option (Bool):=
 (
  if (decide (14<=p0))=true then
   some (decide (p0<=17))
  else
   some false
 ).bind λt3=>
 some t3
end RC
namespace RC
def P7 (p0:(List AG))(va:AG->Int->Option (Int)):Nat->Int->Int->Option ((Int) ⊕ (Int))
 | 0,_,_=>none
 | n+1,left9,i10=>
  if (decide (i10<(Sh.len p0)))=true then
   (Sh.get p0 i10).bind λwe=>
   (va we left9).bind λwH=>
   if (decide (wH<0))=true then
    some (Sum.inl (-1))
   else
    P7 p0 va n wH (Sh.w (i10+1))
  else
   some (Sum.inr left9)
def Y1 (N:Nat)(va:AG->Int->Option (Int))(p0:(List AG))(p1:Int):Option (Int):=
 if (decide ((Sh.w (p1-(Sh.len p0)))<0))=true then
  some (-1)
 else
  Sh.cont (P7 p0 va N (Sh.w (p1-(Sh.len p0))) 0) (id) λxL=>
  some xL
def X5 (N:Nat)(va:AG->Int->Option (Int))(p0:AG)(p1:Int):Option (Int):=
 (Y1 N va p0.kids p1).bind λq3=>
 if (decide (q3<0))=true then
  some (-1)
 else
  some q3
def YR (N:Nat):Nat->AG->Int->Option (Int)
 | 0,_,_=>none
 | n+1,p0,p1=>X5 N (YR N n) p0 p1
def EU (p0:AG)(vN:AG->Int->Option (Int)):Nat->Int->Int->Option ((Int) ⊕ (Int))
 | 0,_,_=>none
 | n+1,left9,i10=>
  if (decide (i10<(Sh.len p0.kids)))=true then
   (Sh.get p0.kids i10).bind λwe=>
   (vN we left9).bind λwH=>
   if (decide (wH<0))=true then
    some (Sum.inl (-1))
   else
    EU p0 vN n wH (Sh.w (i10+1))
  else
   some (Sum.inr left9)
def KJ (N:Nat)(vN:AG->Int->Option (Int))(p0:AG)(p1:Int):Option (Int):=
 if (decide (p1<1))=true then
  some (-1)
 else
  Sh.cont (EU p0 vN N (Sh.w (p1-1)) 0) (id) λxL=>
  some xL
def Fs (N:Nat):Nat->AG->Int->Option (Int)
 | 0,_,_=>none
 | n+1,p0,p1=>KJ N (Fs N n) p0 p1
def Ny (N:Nat)(p0:AG)(p1:Int):Option (Int):=Fs N N p0 p1
def I5 (N:Nat)(p0:AG):Option (Int):=
 (Ny N p0 30).bind λq3=>
 if (decide (q3<0))=true then
  some (-1)
 else
  some (Sh.w (30-q3))
def G8 (p0:AP)(p1:(List Int))(p2:(List AG))(p3:Int)(uY:AP->(List Int)->AG->Option (Int)):Nat->Int->Option ((Bool) ⊕ (Unit))
 | 0,_=>none
 | n+1,i10=>
  if (decide (i10<p3))=true then
   (Sh.get p2 i10).bind λwg=>
   (uY p0 p1 wg).bind λwR=>
   if (!decide (wR=0))=true then
    some (Sum.inl false)
   else
    G8 p0 p1 p2 p3 uY n (Sh.w (i10+1))
  else
   some (Sum.inr ())
def J2 (N:Nat)(uY:AP->(List Int)->AG->Option (Int))(p0:AP)(p1:(List Int))(p2:(List AG))(p3:Int):Option (Bool):=
 if (!decide ((Sh.len p2)=p3))=true then
  some false
 else
  Sh.cont (G8 p0 p1 p2 p3 uY N 0) (id) λ()=>
  some true
def IB (p0:AP)(p1:(List Int))(p2:(List AG))(p3:(List Int))(uY:AP->(List Int)->AG->Option (Int)):Nat->Int->Option ((Bool) ⊕ (Unit))
 | 0,_=>none
 | n+1,i10=>
  if (decide (i10<(Sh.len p3)))=true then
   (Sh.get p2 i10).bind λwg=>
   (uY p0 p1 wg).bind λwR=>
   (Sh.get p3 i10).bind λxx=>
   if (!decide (wR=xx))=true then
    some (Sum.inl false)
   else
    IB p0 p1 p2 p3 uY n (Sh.w (i10+1))
  else
   some (Sum.inr ())
def Ki (N:Nat)(uY:AP->(List Int)->AG->Option (Int))(p0:AP)(p1:(List Int))(p2:(List AG))(p3:(List Int)):Option (Bool):=
 if (!decide ((Sh.len p2)=(Sh.len p3)))=true then
  some false
 else
  Sh.cont (IB p0 p1 p2 p3 uY N 0) (id) λ()=>
  some true
def EP (p0:(List Int)):Option (List Int):=
 (Sh.app ([]:List Int) p0 8).bind λl3=>
 some l3
def DP (p0:(List Int))(p1:(List Int)):Option (List Int):=
 (EP p0).bind λq3=>
 (Sh.app q3 p1 8).bind λl4=>
 some l4
def FJ (N:Nat)(p0:AP)(p1:(List Int))(p2:AG)(wD:Int)(q3:(List Int))(uY:AP->(List Int)->AG->Option (Int)):Nat->Int->Option ((Int) ⊕ (Unit))
 | 0,_=>none
 | n+1,i18=>
  if (decide (i18<(Sh.len q3)))=true then
   (Sh.get q3 i18).bind λze=>
   (BV N p0.decls ze).bind λxc=>
   (DP p1 xc).bind λwW=>
   (Sh.get p2.kids (Sh.w (1+i18))).bind λc29=>
   (uY p0 wW c29).bind λq30=>
   if (!decide (q30=wD))=true then
    some (Sum.inl (-1))
   else
    FJ N p0 p1 p2 wD q3 uY n (Sh.w (i18+1))
  else
   some (Sum.inr ())
def Lq (N:Nat)(uY:AP->(List Int)->AG->Option (Int))(p0:AP)(p1:(List Int))(p2:AG):Option (Int):=
 (Gj N p0.decls p2.num).bind λq3=>
 (
  if (decide ((Sh.len q3)=0))=true then
   some true
  else
  if (!decide ((Sh.len p2.kids)=(Sh.w (1+(Sh.len q3)))))=true then
   some true
  else
   (Sh.get p2.kids 0).bind λc37=>
   (uY p0 p1 c37).bind λyL=>
   some (!decide (yL=p2.num))
 ).bind λt6=>
 if t6=true then
  some (-1)
 else
  (Sh.get q3 0).bind λc11=>
  (BV N p0.decls c11).bind λwJ=>
  (DP p1 wJ).bind λvv=>
  (Sh.get p2.kids 1).bind λwT=>
  (uY p0 vv wT).bind λwD=>
  Sh.cont (FJ N p0 p1 p2 wD q3 uY N 1) (id) λ()=>
  some wD
def GR (p0:(List AI))(p1 p2:Int):Nat->Int->Option ((Int) ⊕ (Unit))
 | 0,_=>none
 | n+1,i4=>
  if (decide (i4<(Sh.len p0)))=true then
   (
    Option.bind (Sh.get p0 i4) λwu=>
    if (decide ((Sh.len wu.cons)=0))=true then
     if (decide (wu.from_=p1))=true then
      some (decide (wu.to=p2))
     else
      some false
    else
     some false
   ).bind λt12=>
   if t12=true then
    some (Sum.inl (Sh.w (i4+1)))
   else
    GR p0 p1 p2 n (Sh.w (i4+1))
  else
   some (Sum.inr ())
def Hr (N:Nat)(p0:(List AI))(p1 p2:Int):Option (Int):=
 Sh.cont (GR p0 p1 p2 N 0) (id) λ()=>
 some (-1)
def HG (N:Nat)(uY:AP->(List Int)->AG->Option (Int))(p0:AP)(p1:(List Int))(p2:AG):Option (Int):=
 (Bv p2.num 0 (Sh.w ((Sh.len p0.funcs)-1))).bind λq4=>
 if (!q4)=true then
  some (-1)
 else
  (Sh.get p0.funcs p2.num).bind λxn=>
  if (decide (p2.op=9))=true then
   (Ki N uY p0 p1 p2.kids xn.params).bind λxA=>
   if (!xA)=true then
    some (-1)
   else
    some xn.result
  else
   (
    if (decide ((Sh.len xn.params)=0))=true then
     some true
    else
     (Sh.sl xn.params 0 (Sh.w ((Sh.len xn.params)-1))).bind λl33=>
     (Ki N uY p0 p1 p2.kids l33).bind λwQ=>
     some (!wQ)
   ).bind λt25=>
   if t25=true then
    some (-1)
   else
    (Sh.get xn.params (Sh.w ((Sh.len xn.params)-1))).bind λc30=>
    (Hr N p0.decls c30 xn.result).bind λq31=>
    some q31
def F7 (p0:(List AI))(p1:Int):Option (Bool):=
 (
  Option.bind (Bv p1 1 (Sh.len p0)) λq5=>
  if q5=true then
   (Sh.get p0 (Sh.w (p1-1))).bind λc7=>
   some (decide ((Sh.len c7.cons)=0))
  else
   some false
 ).bind λt3=>
 some t3
def CR (N:Nat)(uY:AP->(List Int)->AG->Option (Int))(p0:AP)(p1:(List Int))(p2:AG):Option (Int):=
 Sh.cont (
  if (decide (p2.op=0))=true then
   (
    if (decide ((Sh.len p2.kids)=0))=true then
     (Bv p2.num (-999) 999).bind λwD=>
     some wD
    else
     some false
   ).bind λt10=>
   if t10=true then
    some (Sum.inl 0)
   else
    some (Sum.inr ())
  else
  if (decide (p2.op=12))=true then
   (
    if (decide ((Sh.len p2.kids)=0))=true then
     (Bv p2.num 0 (Sh.w ((Sh.len p1)-1))).bind λxI=>
     some xI
    else
     some false
   ).bind λt19=>
   if t19=true then
    (Sh.get p1 p2.num).bind λc23=>
    some (Sum.inl c23)
   else
    some (Sum.inr ())
  else
   (
    if (decide (p2.op=1))=true then
     some true
    else
    if (decide (p2.op=2))=true then
     some true
    else
    if (decide (p2.op=3))=true then
     some true
    else
     some (decide (p2.op=4))
   ).bind λt27=>
   if t27=true then
    (
     if (decide (p2.num=0))=true then
      (J2 N uY p0 p1 p2.kids 2).bind λq36=>
      some q36
     else
      some false
    ).bind λt31=>
    if t31=true then
     some (Sum.inl 0)
    else
     some (Sum.inr ())
   else
   if (decide (p2.op=5))=true then
    (
     if (decide (p2.num=0))=true then
      (J2 N uY p0 p1 p2.kids 1).bind λzK=>
      some zK
     else
      some false
    ).bind λt40=>
    if t40=true then
     some (Sum.inl 0)
    else
     some (Sum.inr ())
   else
   if (decide (p2.op=6))=true then
    (
     Option.bind (DU N p0.decls p2.num) λq54=>
     if (decide (0<q54))=true then
      (BV N p0.decls p2.num).bind λq56=>
      (Ki N uY p0 p1 p2.kids q56).bind λq57=>
      some q57
     else
      some false
    ).bind λt49=>
    if t49=true then
     (DU N p0.decls p2.num).bind λzL=>
     some (Sum.inl zL)
    else
     some (Sum.inr ())
   else
   if (decide (p2.op=13))=true then
    (
     if (decide (p2.num=0))=true then
      some (decide ((Sh.len p2.kids)=2))
     else
      some false
    ).bind λt61=>
    if t61=true then
     (Sh.get p2.kids 0).bind λc65=>
     (uY p0 p1 c65).bind λq66=>
     if (decide (0<=q66))=true then
      (DP p1 [q66]).bind λq70=>
      (Sh.get p2.kids 1).bind λc71=>
      (uY p0 q70 c71).bind λq72=>
      some (Sum.inl q72)
     else
      some (Sum.inr ())
    else
     some (Sum.inr ())
   else
   if (decide (p2.op=7))=true then
    (
     if (decide (p2.num=0))=true then
      if (decide ((Sh.len p2.kids)=3))=true then
       (Sh.get p2.kids 0).bind λc90=>
       (uY p0 p1 c90).bind λq91=>
       some (decide (q91=0))
      else
       some false
     else
      some false
    ).bind λt77=>
    if t77=true then
     (Sh.get p2.kids 1).bind λc81=>
     (uY p0 p1 c81).bind λq82=>
     (Sh.get p2.kids 2).bind λc84=>
     (uY p0 p1 c84).bind λq85=>
     if (decide (q85=q82))=true then
      some (Sum.inl q82)
     else
      some (Sum.inr ())
    else
     some (Sum.inr ())
   else
   if (decide (p2.op=8))=true then
    (Lq N uY p0 p1 p2).bind λq95=>
    some (Sum.inl q95)
   else
    (
     if (decide (p2.op=9))=true then
      some true
     else
      some (decide (p2.op=10))
    ).bind λt97=>
    if t97=true then
     (HG N uY p0 p1 p2).bind λq101=>
     some (Sum.inl q101)
    else
    if (decide (p2.op=11))=true then
     (
      if (decide (p2.num=0))=true then
       some (decide ((Sh.len p2.kids)=2))
      else
       some false
     ).bind λt105=>
     if t105=true then
      (Sh.get p2.kids 0).bind λc109=>
      (uY p0 p1 c109).bind λq110=>
      (
       Option.bind (F7 p0.decls q110) λq117=>
       if q117=true then
        (Sh.get p2.kids 1).bind λc119=>
        (uY p0 p1 c119).bind λq120=>
        (Sh.get p0.decls (Sh.w (q110-1))).bind λc121=>
        some (decide (q120=c121.from_))
       else
        some false
      ).bind λt112=>
      if t112=true then
       (Sh.get p0.decls (Sh.w (q110-1))).bind λc116=>
       some (Sum.inl c116.to)
      else
       some (Sum.inr ())
     else
      some (Sum.inr ())
    else
     some (Sum.inr ())
 ) (id) λ()=>
 some (-1)
def D1 (N:Nat):Nat->AP->(List Int)->AG->Option (Int)
 | 0,_,_,_=>none
 | n+1,p0,p1,p2=>CR N (D1 N n) p0 p1 p2
def OJ (N:Nat)(p0:AP)(p1:(List Int))(p2:AG):Option (Int):=D1 N N p0 p1 p2
def DE (N:Nat)(p0:AP):Nat->Int->Option ((Bool) ⊕ (Unit))
 | 0,_=>none
 | n+1,i11=>
  if (decide (i11<(Sh.len p0.funcs)))=true then
   (
    Option.bind (Sh.get p0.funcs i11) λc23=>
    (I5 N c23.body).bind λq24=>
    if (decide (q24<0))=true then
     some true
    else
     (OJ N p0 c23.params c23.body).bind λxP=>
     some (!decide (xP=c23.result))
   ).bind λt19=>
   if t19=true then
    some (Sum.inl false)
   else
    DE N p0 n (Sh.w (i11+1))
  else
   some (Sum.inr ())
def Ec (N:Nat)(p0:AP):Option (Bool):=
 (HY N p0).bind λq4=>
 if (!q4)=true then
  some false
 else
  Sh.cont (DE N p0 N 0) (id) λ()=>
  some true
def Ea (p0:AP):Nat->Int->(List BX)->Option (List BX)
 | 0,_,_=>none
 | n+1,t9,l10=>
  if (decide (t9<(Sh.len p0.funcs)))=true then
   (Sh.get p0.funcs t9).bind λxx=>
   (Sh.app l10 ([BX.mk xx.params [] xx.result]) 56).bind λl21=>
   Ea p0 n (Sh.w (t9+1)) l21
  else
   some l10
def IU (N:Nat)(p0:AP):Option (Bool):=
 if (decide (4<(Sh.len p0.funcs)))=true then
  some false
 else
  (Ea p0 N 0 []).bind λl11=>
  (IQ N p0.decls l11).bind λzS=>
  some zS
def EF (p0:AG)(vM:Int->AG->Option (Bool×Int)):Nat->Int->Int->Option ((Bool×Int) ⊕ (Int))
 | 0,_,_=>none
 | n+1,t9,f10=>
  if (decide (t9<(Sh.len p0.kids)))=true then
   (Sh.get p0.kids t9).bind λwe=>
   (vM f10 we).bind λvk=>
   if (!vk.1)=true then
    some (Sum.inl (false,vk.2))
   else
    EF p0 vM n (Sh.w (t9+1)) vk.2
  else
   some (Sum.inr f10)
def Jg (N:Nat)(vM:Int->AG->Option (Bool×Int))(uT:Int)(p0:AG):Option (Bool×Int):=
 if (decide (30<(Sh.w (uT+1))))=true then
  some (false,Sh.w (uT+1))
 else
  Sh.cont (EF p0 vM N 0 (Sh.w (uT+1))) (id) λf11=>
  some (true,f11)
def E3 (N:Nat):Nat->Int->AG->Option (Bool×Int)
 | 0,_,_=>none
 | n+1,uT,p0=>Jg N (E3 N n) uT p0
def NI (N:Nat)(uT:Int)(p0:AG):Option (Bool×Int):=E3 N N uT p0
def Lg (N:Nat)(p0:AG):Option (Int):=
 (NI N 0 p0).bind λq5=>
 if (!q5.1)=true then
  some (-1)
 else
  some q5.2
def Gt (p0:AP):Nat->Int->(List BX)->Option (List BX)
 | 0,_,_=>none
 | n+1,t5,l6=>
  if (decide (t5<(Sh.len p0.funcs)))=true then
   (Sh.get p0.funcs t5).bind λc15=>
   (Sh.app l6 ([BX.mk c15.params [] c15.result]) 56).bind λl16=>
   Gt p0 n (Sh.w (t5+1)) l16
  else
   some l6
def MV (N:Nat)(p0:AP):Option (Ah):=
 (Gt p0 N 0 []).bind λl7=>
 some (Ah.mk p0.decls l7)
def FI (p1:Int):Option (List Int):=
 if (decide (p1<0))=true then
  none
 else
  (
   if (decide (0<(Sh.w (p1-(Sh.w (0-0))))))=true then
    (Sh.mk 0 (Sh.w (p1-(Sh.w (0-0)))) 8).bind λl12=>
    (Sh.hi l12 0).bind λl13=>
    some l13
   else
    some []
  ).bind λl6=>
  some l6
def Bz (p0:(List (List Int))):Nat->Int->(List Int)->Option (List Int)
 | 0,_,_=>none
 | n+1,t13,wM=>
  if (decide (t13<(Sh.len p0)))=true then
   (Sh.get p0 t13).bind λc23=>
   (Sh.app wM c23 8).bind λl24=>
   Bz p0 n (Sh.w (t13+1)) l24
  else
   some wM
def CA (p0:(List (List Int))):Nat->Int->Int->Option (Int)
 | 0,_,_=>none
 | n+1,size5,t6=>
  if (decide (t6<(Sh.len p0)))=true then
   (Sh.get p0 t6).bind λc30=>
   if (decide ((Sh.w (size5+(Sh.len c30)))<0))=true then
    none
   else
    CA p0 n (Sh.w (size5+(Sh.len c30))) (Sh.w (t6+1))
  else
   some size5
def DT (N:Nat)(p0:(List (List Int))):Option (List Int):=
 (CA p0 N 0 0).bind λsize7=>
 (FI size7).bind λwL=>
 (Bz p0 N 0 wL).bind λl15=>
 some l15
def Br (N:Nat)(p0:Ah)(p1:(List Int))(p2:(List AG))(p3:(List (List Int)))(uZ:(List Int)->Ah->AG->Option (Int)):Nat->Int->Int->Option ((Int) ⊕ (Int))
 | 0,_,_=>none
 | n+1,vP,t6=>
  if (decide (t6<(Sh.len p2)))=true then
   (Sh.get p2 t6).bind λc15=>
   (Sh.get p3 t6).bind λyS=>
   (DT N [p1,yS]).bind λxy=>
   (uZ xy p0 c15).bind λwR=>
   (
    if (decide (wR<0))=true then
     some true
    else
    if (decide (0<t6))=true then
     some (!decide (wR=vP))
    else
     some false
   ).bind λt23=>
   if t23=true then
    some (Sum.inl (-1))
   else
    Br N p0 p1 p2 p3 uZ n wR (Sh.w (t6+1))
  else
   some (Sum.inr vP)
def Ej (N:Nat)(uZ:(List Int)->Ah->AG->Option (Int))(p0:Ah)(p1:(List Int))(p2:(List AG))(p3:(List (List Int))):Option (Int):=
 Sh.cont (Br N p0 p1 p2 p3 uZ N (-1) 0) (id) λvg=>
 some vg
def Hs (p0:(List AI))(p1:Int):Option (AI×Bool):=
 (
  if (decide (p1<1))=true then
   some true
  else
  if (decide ((Sh.len p0)<p1))=true then
   some true
  else
   (Sh.get p0 (Sh.w (p1-1))).bind λyh=>
   some (decide (0<(Sh.len yh.cons)))
 ).bind λt4=>
 if t4=true then
  some (AI.mk 0 0 [],false)
 else
  (Sh.get p0 (Sh.w (p1-1))).bind λc9=>
  some (c9,true)
def D3 (p0:(List Int))(p1:(List Int)):Nat->Int->Option ((Bool) ⊕ (Unit))
 | 0,_=>none
 | n+1,t10=>
  if (decide (t10<(Sh.len p0)))=true then
   (Sh.get p0 t10).bind λwe=>
   (Sh.get p1 t10).bind λxx=>
   if (!decide (we=xx))=true then
    some (Sum.inl false)
   else
    D3 p0 p1 n (Sh.w (t10+1))
  else
   some (Sum.inr ())
def DF (N:Nat)(p0:(List Int))(p1:(List Int)):Option (Bool):=
 if (!decide ((Sh.len p0)=(Sh.len p1)))=true then
  some false
 else
  Sh.cont (D3 p0 p1 N 0) (id) λ()=>
  some true
def GU (p0:(List AI))(p1 p2:Int):Nat->Int->Option ((Int) ⊕ (Unit))
 | 0,_=>none
 | n+1,t4=>
  if (decide (t4<(Sh.len p0)))=true then
   (Sh.get p0 t4).bind λyh=>
   (
    if (decide ((Sh.len yh.cons)=0))=true then
     if (decide (yh.from_=p1))=true then
      some (decide (yh.to=p2))
     else
      some false
    else
     some false
   ).bind λt14=>
   if t14=true then
    some (Sum.inl (Sh.w (t4+1)))
   else
    GU p0 p1 p2 n (Sh.w (t4+1))
  else
   some (Sum.inr ())
def Lj (N:Nat)(p0:(List AI))(p1 p2:Int):Option (Int):=
 Sh.cont (GU p0 p1 p2 N 0) (id) λ()=>
 some (-1)
def AS (N:Nat)(p0:Ah)(p1 p2:Int)(p3:(List Int)):Option (Int×Bool):=
 Sh.cont (
  if (decide (p1=0))=true then
   (
    if (decide ((-999)<=p2))=true then
     if (decide (p2<=999))=true then
      some (decide ((Sh.len p3)=0))
     else
      some false
    else
     some false
   ).bind λt15=>
   some (Sum.inl (0,t15))
  else
   (
    if (decide (p1=1))=true then
     some true
    else
    if (decide (p1=2))=true then
     some true
    else
    if (decide (p1=3))=true then
     some true
    else
     some (decide (p1=4))
   ).bind λt20=>
   if t20=true then
    some (Sum.inr [(0:Int),0])
   else
   if (decide (p1=5))=true then
    some (Sum.inr [(0:Int)])
   else
   if (decide (p1=11))=true then
    if (!decide ((Sh.len p3)=2))=true then
     some (Sum.inl (-1,false))
    else
     (Sh.get p3 0).bind λc34=>
     (Hs p0.decls c34).bind λyA=>
     (
      if yA.2=true then
       (Sh.get p3 1).bind λc41=>
       if (decide (c41=yA.1.from_))=true then
        some (decide (p2=0))
       else
        some false
      else
       some false
     ).bind λt38=>
     some (Sum.inl (yA.1.to,t38))
   else
   if (decide (p1=6))=true then
    (JW N p0.decls p2).bind λq40=>
    (
     if (decide (0<=q40.1))=true then
      (DF N p3 q40.2.fields).bind λzK=>
      some zK
     else
      some false
    ).bind λt42=>
    some (Sum.inl (q40.1,t42))
   else
    (
     if (decide (p1=9))=true then
      some true
     else
      some (decide (p1=10))
    ).bind λt47=>
    if t47=true then
     (
      if (decide (p2<0))=true then
       some true
      else
       some (decide ((Sh.len p0.funcs)<=p2))
     ).bind λt52=>
     if t52=true then
      some (Sum.inl (-1,false))
     else
      (Sh.get p0.funcs p2).bind λc57=>
      if (decide (p1=9))=true then
       (DF N p3 c57.params).bind λq62=>
       some (Sum.inl (c57.result,q62))
      else
      if (decide ((Sh.w ((Sh.len c57.params)-1))<0))=true then
       some (Sum.inl (-1,false))
      else
       (Sh.get c57.params (Sh.w ((Sh.len c57.params)-1))).bind λc69=>
       (Lj N p0.decls c69 c57.result).bind λq70=>
       (
        if (decide (0<=q70))=true then
         (Sh.sl c57.params 0 (Sh.w ((Sh.len c57.params)-1))).bind λl75=>
         (DF N p3 l75).bind λq76=>
         some q76
        else
         some false
       ).bind λt72=>
       some (Sum.inl (q70,t72))
    else
     some (Sum.inl (-1,false))
 ) (id) λl4=>
 (
  if (decide (p2=0))=true then
   (DF N p3 l4).bind λwL=>
   some wL
  else
   some false
 ).bind λt7=>
 some (0,t7)
def CU (N:Nat)(p0:Ah)(q56:(List Int)):Nat->Int->(List (List Int))->Option (List (List Int))
 | 0,_,_=>none
 | n+1,t67,l68=>
  if (decide (t67<(Sh.len q56)))=true then
   (Sh.get q56 t67).bind λc79=>
   (Dy N p0.decls c79).bind λq80=>
   (Sh.get l68 t67).bind λc81=>
   CU N p0 q56 n (Sh.w (t67+1)) (Sh.put l68 t67 q80)
  else
   some l68
def CV (s0:(List Int))(p0:Ah)(p2:AG)(uZ:(List Int)->Ah->AG->Option (Int)):Nat->Int->(List Int)->Option ((Int) ⊕ (List Int))
 | 0,_,_=>none
 | n+1,t90,l91=>
  if (decide (t90<(Sh.len p2.kids)))=true then
   (Sh.get p2.kids t90).bind λc108=>
   (uZ s0 p0 c108).bind λq110=>
   (Sh.get l91 t90).bind λc111=>
   (Sh.get (Sh.put l91 t90 q110) t90).bind λc113=>
   if (decide (c113<0))=true then
    some (Sum.inl (-1))
   else
    CV s0 p0 p2 uZ n (Sh.w (t90+1)) (Sh.put l91 t90 q110)
  else
   some (Sum.inr l91)
def BG (N:Nat)(uZ:(List Int)->Ah->AG->Option (Int))(s0:(List Int))(p0:Ah)(p2:AG):Option (Int):=
 if (decide (p2.op=12))=true then
  (
   if (decide (0<(Sh.len p2.kids)))=true then
    some true
   else
   if (decide (p2.num<0))=true then
    some true
   else
    some (decide ((Sh.len s0)<=p2.num))
  ).bind λt8=>
  if t8=true then
   some (-1)
  else
   (Sh.get s0 p2.num).bind λc13=>
   some c13
 else
 if (decide (p2.op=13))=true then
  (
   if (!decide ((Sh.len p2.kids)=2))=true then
    some true
   else
    some (!decide (p2.num=0))
  ).bind λt20=>
  if t20=true then
   some (-1)
  else
   (Sh.get p2.kids 0).bind λc25=>
   (uZ s0 p0 c25).bind λxP=>
   if (decide (xP<0))=true then
    some (-1)
   else
    (Sh.app s0 [xP] 8).bind λl32=>
    (Sh.get p2.kids 1).bind λc33=>
    (uZ l32 p0 c33).bind λwQ=>
    some wQ
 else
 if (decide (p2.op=7))=true then
  (
   if (!decide ((Sh.len p2.kids)=3))=true then
    some true
   else
   if (!decide (p2.num=0))=true then
    some true
   else
    (Sh.get p2.kids 0).bind λc51=>
    (uZ s0 p0 c51).bind λq52=>
    some (!decide (q52=0))
  ).bind λt41=>
  if t41=true then
   some (-1)
  else
   (Sh.sl p2.kids 1 (Sh.len p2.kids)).bind λl46=>
   (Sh.mk [] 2 24).bind λl47=>
   (Ej N uZ p0 s0 l46 l47).bind λq48=>
   some q48
 else
 if (decide (p2.op=8))=true then
  (Ji N p0.decls p2.num).bind λq56=>
  (
   if (decide ((Sh.len q56)=0))=true then
    some true
   else
   if (!decide ((Sh.len p2.kids)=(Sh.w (1+(Sh.len q56)))))=true then
    some true
   else
    (Sh.get p2.kids 0).bind λc84=>
    (uZ s0 p0 c84).bind λq85=>
    some (!decide (q85=p2.num))
  ).bind λt59=>
  if t59=true then
   some (-1)
  else
   (Sh.mk [] (Sh.len q56) 24).bind λl64=>
   (CU N p0 q56 N 0 l64).bind λl69=>
   (Sh.sl p2.kids 1 (Sh.len p2.kids)).bind λl72=>
   (Ej N uZ p0 s0 l72 l69).bind λq73=>
   some q73
 else
  (Sh.mk 0 (Sh.len p2.kids) 8).bind λl87=>
  Sh.cont (CV s0 p0 p2 uZ N 0 l87) (id) λl92=>
  (AS N p0 p2.op p2.num l92).bind λq95=>
  if (!q95.2)=true then
   some (-1)
  else
   some q95.1
def Bo (N:Nat):Nat->(List Int)->Ah->AG->Option (Int)
 | 0,_,_,_=>none
 | n+1,s0,p0,p2=>BG N (Bo N n) s0 p0 p2
def JP (N:Nat)(s0:(List Int))(p0:Ah)(p2:AG):Option (Int):=Bo N N s0 p0 p2
def OH (N:Nat)(p0:AP)(p1:(List Int))(p2:AG):Option (Int):=
 (
  Option.bind (IU N p0) λvv=>
  if (!vv)=true then
   some true
  else
   (Lg N p2).bind λwD=>
   if (decide (wD<0))=true then
    some true
   else
    (H4 N p0.decls p1).bind λxA=>
    some (!xA)
 ).bind λt4=>
 if t4=true then
  some (-1)
 else
  (MV N p0).bind λq9=>
  (Bx p1).bind λwL=>
  (JP N wL q9 p2).bind λyM=>
  some yM
def Eu (N:Nat)(p0:AP):Nat->Int->Option ((Bool) ⊕ (Unit))
 | 0,_=>none
 | n+1,t11=>
  if (decide (t11<(Sh.len p0.funcs)))=true then
   (Sh.get p0.funcs t11).bind λwe=>
   (OH N p0 we.params we.body).bind λvk=>
   if (!decide (vk=we.result))=true then
    some (Sum.inl false)
   else
    Eu N p0 n (Sh.w (t11+1))
  else
   some (Sum.inr ())
def H7 (N:Nat)(p0:AP):Option (Bool):=
 (IU N p0).bind λq4=>
 if (!q4)=true then
  some false
 else
  Sh.cont (Eu N p0 N 0) (id) λ()=>
  some true
end RC
namespace RC
def Ws (N:Nat)(p0:CQ)(p1:Int):Option (Int):=
 (N9 p0.params p1).bind λq3=>
 if (decide (q3<0))=true then
  some (-1)
 else
  (N9 p0.CE q3).bind λq9=>
  if (decide (q9<0))=true then
   some (-1)
  else
   (ZH N p0.body q9).bind λwD=>
   if (decide (wD<0))=true then
    some (-1)
   else
    some wD
def TC (N:Nat)(p0:(List CQ)):Nat->Int->Int->Option ((Int) ⊕ (Int))
 | 0,_,_=>none
 | n+1,left9,i10=>
  if (decide (i10<(Sh.len p0)))=true then
   (Sh.get p0 i10).bind λwe=>
   (Ws N we left9).bind λwH=>
   if (decide (wH<0))=true then
    some (Sum.inl (-1))
   else
    TC N p0 n wH (Sh.w (i10+1))
  else
   some (Sum.inr left9)
def IS (p0:Ax):Nat->Int->(List Ar)->Option (List Ar)
 | 0,_,_=>none
 | n+1,i5,l6=>
  if (decide (i5<(Sh.len p0.AU)))=true then
   (Sh.get p0.AU i5).bind λwT=>
   (Sh.app l6 ([Ar.mk wT.params wT.result (AG.mk 0 0 [])]) 72).bind λl15=>
   IS p0 n (Sh.w (i5+1)) l15
  else
   some l6
def Q3 (N:Nat)(p0:Ax):Option (AP):=
 (IS p0 N 0 []).bind λl7=>
 some (AP.mk p0.decls l7)
def F6 (N:Nat)(p0:Ax):Nat->Int->Option ((Bool) ⊕ (Unit))
 | 0,_=>none
 | n+1,i10=>
  if (decide (i10<(Sh.len p0.AU)))=true then
   (Sh.get p0.AU i10).bind λwg=>
   (Nx N wg.params wg.CE).bind λwR=>
   if (!wR)=true then
    some (Sum.inl false)
   else
    F6 N p0 n (Sh.w (i10+1))
  else
   some (Sum.inr ())
def KA (N:Nat)(p0:Ax):Option (Bool):=
 (
  if (decide (4<(Sh.len p0.AU)))=true then
   some true
  else
   (Q3 N p0).bind λxI=>
   (HY N xI).bind λxP=>
   some (!xP)
 ).bind λt4=>
 if t4=true then
  some false
 else
  Sh.cont (F6 N p0 N 0) (id) λ()=>
  some true
def OD (p0:Int):Option (Bool):=
 (
  if (decide (p0=0))=true then
   some true
  else
  if (decide (p0=6))=true then
   some true
  else
  if (decide (p0=8))=true then
   some true
  else
  if (decide (p0=9))=true then
   some true
  else
   some (decide (p0=10))
 ).bind λt3=>
 some t3
def CW (p0:(List Int))(p1:Step):Option (Bool):=
 if (decide (p1.Ed=0))=true then
  some true
 else
  (
   if (decide (p1.op=6))=true then
    (Bv p1.Ed 1 (Sh.len p0)).bind λwL=>
    if wL=true then
     (Sh.get p0 (Sh.w (p1.Ed-1))).bind λyh=>
     some (decide (0<yh))
    else
     some false
   else
    some false
  ).bind λt7=>
  some t7
def KV (p0:(List Int))(p1:(List Int))(p2:(List Int)):Nat->Int->Option ((Bool) ⊕ (Unit))
 | 0,_=>none
 | n+1,i10=>
  if (decide (i10<(Sh.len p1)))=true then
   (
    Option.bind (Sh.get p1 i10) λc22=>
    (Bv c22 0 (Sh.w ((Sh.len p0)-1))).bind λwX=>
    if (!wX)=true then
     some true
    else
     (Sh.get p0 c22).bind λc25=>
     (Sh.get p2 i10).bind λze=>
     some (!decide (c25=ze))
   ).bind λt18=>
   if t18=true then
    some (Sum.inl false)
   else
    KV p0 p1 p2 n (Sh.w (i10+1))
  else
   some (Sum.inr ())
def Cq (N:Nat)(p0:(List Int))(p1:(List Int))(p2:(List Int)):Option (Bool):=
 if (!decide ((Sh.len p1)=(Sh.len p2)))=true then
  some false
 else
  Sh.cont (KV p0 p1 p2 N 0) (id) λ()=>
  some true
def Ij (N:Nat)(yy:Int)(p0:Ax)(p1:(List Int))(p2:Step)(q3:(List Int))(uz:Ax->(List Int)->Block->Option (Int)):Nat->Int->Int->Option ((Int) ⊕ (Int))
 | 0,_,_=>none
 | n+1,t17,i18=>
  if (decide (i18<yy))=true then
   (
    if (decide (p2.op=8))=true then
     (Sh.get q3 i18).bind λc43=>
     (BV N p0.decls c43).bind λq44=>
     (DP p1 q44).bind λzK=>
     some zK
    else
     some p1
   ).bind λinner28=>
   (Sh.get p2.kids i18).bind λc31=>
   (uz p0 inner28 c31).bind λxb=>
   (
    if (decide (xb<0))=true then
     some true
    else
    if (decide (0<i18))=true then
     some (!decide (xb=t17))
    else
     some false
   ).bind λt35=>
   if t35=true then
    some (Sum.inl (-1))
   else
    Ij N yy p0 p1 p2 q3 uz n xb (Sh.w (i18+1))
  else
   some (Sum.inr t17)
def JL (N:Nat)(uz:Ax->(List Int)->Block->Option (Int))(p0:Ax)(p1:(List Int))(p2:Step):Option (Int):=
 (Gj N p0.decls p2.num).bind λq3=>
 (
  if (decide (p2.op=7))=true then
   some 2
  else
   some (Sh.len q3)
 ).bind λyy=>
 (
  if (decide (yy=0))=true then
   some true
  else
   some (!decide ((Sh.len p2.kids)=yy))
 ).bind λt10=>
 if t10=true then
  some (-1)
 else
  Sh.cont (Ij N yy p0 p1 p2 q3 uz N 0 0) (id) λt19=>
  some t19
def HU (N:Nat)(p0:Ax)(p1:(List Int))(p2:Step):Option (Int):=
 (Bv p2.num 0 (Sh.w ((Sh.len p0.AU)-1))).bind λq4=>
 if (!q4)=true then
  some (-1)
 else
  (Sh.get p0.AU p2.num).bind λxn=>
  if (decide (p2.op=9))=true then
   (Cq N p1 p2.args xn.params).bind λxA=>
   if (!xA)=true then
    some (-1)
   else
    some xn.result
  else
   (
    if (decide ((Sh.len xn.params)=0))=true then
     some true
    else
    if (decide (0<(Sh.len xn.CE)))=true then
     some true
    else
     (Sh.sl xn.params 0 (Sh.w ((Sh.len xn.params)-1))).bind λl34=>
     (Cq N p1 p2.args l34).bind λyA=>
     some (!yA)
   ).bind λt25=>
   if t25=true then
    some (-1)
   else
    (Sh.get xn.params (Sh.w ((Sh.len xn.params)-1))).bind λc30=>
    (Hr N p0.decls c30 xn.result).bind λq31=>
    some q31
def Jh (p0:Ax)(p1:(List Int))(p2:Step):Option (Int):=
 (
  if (!decide ((Sh.len p2.args)=1))=true then
   some true
  else
   (Sh.get p2.args 0).bind λc21=>
   (Bv c21 0 (Sh.w ((Sh.len p1)-1))).bind λyv=>
   if (!yv)=true then
    some true
   else
    (Sh.get p1 c21).bind λc24=>
    some (decide (c24=0))
 ).bind λt4=>
 if t4=true then
  some (-1)
 else
  (
   if (!decide (p2.op=14))=true then
    if (!decide (p2.op=15))=true then
     (Sh.get p2.args 0).bind λyS=>
     (Sh.get p1 yS).bind λwg=>
     (F7 p0.decls wg).bind λwR=>
     some wR
    else
     some false
   else
    some false
  ).bind λt10=>
  if t10=true then
   some (-1)
  else
   some 0
def HL (N:Nat)(uz:Ax->(List Int)->Block->Option (Int))(p0:Ax)(p1:(List Int))(p2:Step):Option (Int):=
 (
  if (!decide (p2.num=0))=true then
   (OD p2.op).bind λq105=>
   if (!q105)=true then
    some true
   else
    (CW p1 p2).bind λq107=>
    if (!q107)=true then
     some true
    else
    if (decide (0<(Sh.len p2.kids)))=true then
     if (!decide (p2.op=7))=true then
      some (!decide (p2.op=8))
     else
      some false
    else
     some false
  else
   (CW p1 p2).bind λq111=>
   if (!q111)=true then
    some true
   else
   if (decide (0<(Sh.len p2.kids)))=true then
    if (!decide (p2.op=7))=true then
     some (!decide (p2.op=8))
    else
     some false
   else
    some false
 ).bind λt4=>
 if t4=true then
  some (-1)
 else
  Sh.cont (
   if (decide (p2.op=0))=true then
    (
     if (decide ((Sh.len p2.args)=0))=true then
      (Bv p2.num (-999) 999).bind λwH=>
      some wH
     else
      some false
    ).bind λt15=>
    if t15=true then
     some (Sum.inl 0)
    else
     some (Sum.inr ())
   else
    (
     if (decide (p2.op=1))=true then
      some true
     else
     if (decide (p2.op=2))=true then
      some true
     else
     if (decide (p2.op=3))=true then
      some true
     else
      some (decide (p2.op=4))
    ).bind λt22=>
    if t22=true then
     (Cq N p1 p2.args [(0:Int),0]).bind λxP=>
     if xP=true then
      some (Sum.inl 0)
     else
      some (Sum.inr ())
    else
    if (decide (p2.op=5))=true then
     (Cq N p1 p2.args [(0:Int)]).bind λxb=>
     if xb=true then
      some (Sum.inl 0)
     else
      some (Sum.inr ())
    else
    if (decide (p2.op=6))=true then
     (
      Option.bind (DU N p0.decls p2.num) λq43=>
      if (decide (0<q43))=true then
       (BV N p0.decls p2.num).bind λzK=>
       (Cq N p1 p2.args zK).bind λq46=>
       some q46
      else
       some false
     ).bind λt38=>
     if t38=true then
      (DU N p0.decls p2.num).bind λq42=>
      some (Sum.inl q42)
     else
      some (Sum.inr ())
    else
    if (decide (p2.op=7))=true then
     (Cq N p1 p2.args [(0:Int)]).bind λq50=>
     if q50=true then
      (JL N uz p0 p1 p2).bind λzL=>
      some (Sum.inl zL)
     else
      some (Sum.inr ())
    else
    if (decide (p2.op=8))=true then
     (Cq N p1 p2.args [p2.num]).bind λq57=>
     if q57=true then
      (JL N uz p0 p1 p2).bind λq60=>
      some (Sum.inl q60)
     else
      some (Sum.inr ())
    else
     (
      if (decide (p2.op=9))=true then
       some true
      else
       some (decide (p2.op=10))
     ).bind λt62=>
     if t62=true then
      (HU N p0 p1 p2).bind λq66=>
      some (Sum.inl q66)
     else
     if (decide (p2.op=11))=true then
      (
       if (decide ((Sh.len p2.args)=2))=true then
        (Sh.get p2.args 0).bind λc79=>
        (Bv c79 0 (Sh.w ((Sh.len p1)-1))).bind λq80=>
        if q80=true then
         (Sh.get p1 c79).bind λc82=>
         (F7 p0.decls c82).bind λq83=>
         some q83
        else
         some false
       else
        some false
      ).bind λt70=>
      if t70=true then
       (Sh.get p2.args 0).bind λc74=>
       (Sh.get p1 c74).bind λc75=>
       (Sh.get p0.decls (Sh.w (c75-1))).bind λc76=>
       (Sh.sl p2.args 1 (Sh.len p2.args)).bind λl79=>
       (Cq N p1 l79 [c76.from_]).bind λq80=>
       if q80=true then
        some (Sum.inl c76.to)
       else
        some (Sum.inr ())
      else
       some (Sum.inr ())
     else
      (
       if (decide (p2.op=14))=true then
        some true
       else
       if (decide (p2.op=15))=true then
        some true
       else
       if (decide (p2.op=16))=true then
        some true
       else
        some (decide (p2.op=17))
      ).bind λt85=>
      if t85=true then
       (Jh p0 p1 p2).bind λq89=>
       some (Sum.inl q89)
      else
       some (Sum.inr ())
  ) (id) λ()=>
  some (-1)
def Dw (N:Nat)(p0:Ax)(p2:Block)(uz:Ax->(List Int)->Block->Option (Int)):Nat->Int->(List Int)->Option ((Int) ⊕ (List Int))
 | 0,_,_=>none
 | n+1,i6,l7=>
  if (decide (i6<(Sh.len p2.steps)))=true then
   Sh.cont (
    (Sh.get p2.steps i6).bind λze=>
    (HL N uz p0 l7 ze).bind λxc=>
    if (decide (xc<0))=true then
     some (Sum.inl (Sum.inl (-1)))
    else
     (NP ze.op).bind λxY=>
     if xY=true then
      (Sh.app l7 [xc] 8).bind λl35=>
      some (Sum.inr l35)
     else
      some (Sum.inr l7)
   ) (id) λzp=>
   Dw N p0 p2 uz n (Sh.w (i6+1)) zp
  else
   some (Sum.inr l7)
def KF (N:Nat)(uz:Ax->(List Int)->Block->Option (Int))(p0:Ax)(p1:(List Int))(p2:Block):Option (Int):=
 (EP p1).bind λq3=>
 Sh.cont (Dw N p0 p2 uz N 0 q3) (id) λl8=>
 (Bv p2.result 0 (Sh.w ((Sh.len l8)-1))).bind λwJ=>
 if (!wJ)=true then
  some (-1)
 else
  (Sh.get l8 p2.result).bind λwg=>
  some wg
def Da (N:Nat):Nat->Ax->(List Int)->Block->Option (Int)
 | 0,_,_,_=>none
 | n+1,p0,p1,p2=>KF N (Da N n) p0 p1 p2
def Nz (N:Nat)(p0:Ax)(p1:(List Int))(p2:Block):Option (Int):=Da N N p0 p1 p2
def ER (N:Nat)(p0:Ax):Nat->Int->Option ((Bool) ⊕ (Unit))
 | 0,_=>none
 | n+1,i11=>
  if (decide (i11<(Sh.len p0.AU)))=true then
   (Sh.get p0.AU i11).bind λwe=>
   (
    Option.bind (Ph N we.body) λxI=>
    if (decide (xI<0))=true then
     some true
    else
     (Nz N p0 we.params we.body).bind λxc=>
     some (!decide (xc=we.result))
   ).bind λt21=>
   if t21=true then
    some (Sum.inl false)
   else
    ER N p0 n (Sh.w (i11+1))
  else
   some (Sum.inr ())
def Iq (N:Nat)(p0:Ax):Option (Bool):=
 (KA N p0).bind λq4=>
 if (!q4)=true then
  some false
 else
  Sh.cont (ER N p0 N 0) (id) λ()=>
  some true
def EJ (p0:Ax):Nat->Int->(List BX)->Option (List BX)
 | 0,_,_=>none
 | n+1,t9,l10=>
  if (decide (t9<(Sh.len p0.AU)))=true then
   (Sh.get p0.AU t9).bind λxx=>
   (Sh.app l10 [BX.mk xx.params xx.CE xx.result] 56).bind λl21=>
   EJ p0 n (Sh.w (t9+1)) l21
  else
   some l10
def JQ (N:Nat)(p0:Ax):Option (Ah×Bool):=
 if (decide (4<(Sh.len p0.AU)))=true then
  some (Ah.mk [] [],false)
 else
  (EJ p0 N 0 []).bind λl11=>
  (IQ N p0.decls l11).bind λzS=>
  some (Ah.mk p0.decls l11,zS)
def DI (N:Nat)(p0:Ah)(p1:(List Int))(p2:(List Block))(p3:(List (List Int)))(uX:Ah->(List Int)->Block->Option (Int)):Nat->Int->Int->Option ((Int×Bool) ⊕ (Int))
 | 0,_,_=>none
 | n+1,vP,t6=>
  if (decide (t6<(Sh.len p2)))=true then
   (Sh.get p2 t6).bind λc15=>
   (Sh.get p3 t6).bind λyS=>
   (DT N [p1,yS]).bind λxy=>
   (uX p0 xy c15).bind λwR=>
   (
    if (decide (wR<0))=true then
     some true
    else
    if (decide (0<t6))=true then
     some (!decide (wR=vP))
    else
     some false
   ).bind λt22=>
   if t22=true then
    some (Sum.inl (-1,false))
   else
    DI N p0 p1 p2 p3 uX n wR (Sh.w (t6+1))
  else
   some (Sum.inr vP)
def DM (N:Nat)(uX:Ah->(List Int)->Block->Option (Int))(p0:Ah)(p1:(List Int))(p2:(List Block))(p3:(List (List Int))):Option (Int×Bool):=
 Sh.cont (DI N p0 p1 p2 p3 uX N (-1) 0) (id) λvg=>
 some (vg,true)
def Ce (N:Nat)(p0:Ah)(q5:(List Int)):Nat->Int->(List (List Int))->Option (List (List Int))
 | 0,_,_=>none
 | n+1,t6,l7=>
  if (decide (t6<(Sh.len q5)))=true then
   (Sh.get q5 t6).bind λwu=>
   (Dy N p0.decls wu).bind λxA=>
   (Sh.app l7 [xA] 24).bind λl18=>
   Ce N p0 q5 n (Sh.w (t6+1)) l18
  else
   some l7
def EO (N:Nat)(p0:Ah)(p1:Int):Option (List (List Int)):=
 (Ji N p0.decls p1).bind λq5=>
 (Ce N p0 q5 N 0 []).bind λl8=>
 some l8
def CK (p1:(List Int))(p2:Step):Nat->Int->(List Int)->Option ((Int×Bool) ⊕ (List Int))
 | 0,_,_=>none
 | n+1,t6,l7=>
  if (decide (t6<(Sh.len p2.args)))=true then
   (Sh.get p2.args t6).bind λc94=>
   (
    if (decide (c94<0))=true then
     some true
    else
     some (decide ((Sh.len p1)<=c94))
   ).bind λt97=>
   if t97=true then
    some (Sum.inl (-1,false))
   else
    (Sh.get p1 c94).bind λc101=>
    (Sh.app l7 [c101] 8).bind λl102=>
    CK p1 p2 n (Sh.w (t6+1)) l102
  else
   some (Sum.inr l7)
def Be (N:Nat)(uX:Ah->(List Int)->Block->Option (Int))(p0:Ah)(p1:(List Int))(p2:Step):Option (Int×Bool):=
 (Sh.mk 0 (Sh.len p2.args) 8).bind λl3=>
 Sh.cont (CK p1 p2 N 0 []) (id) λl8=>
 (
  if (!decide (p2.Ed=0))=true then
   if (!decide (p2.op=6))=true then
    some true
   else
   if (decide (p2.Ed<1))=true then
    some true
   else
   if (decide ((Sh.len p1)<p2.Ed))=true then
    some true
   else
    (Sh.get p1 (Sh.w (p2.Ed-1))).bind λc88=>
    some (decide (c88=0))
  else
   some false
 ).bind λt12=>
 if t12=true then
  some (-1,false)
 else
  (EM p2.op).bind λxy=>
  if xy=true then
   (
    if (decide ((Sh.len l8)=1))=true then
     (Sh.get l8 0).bind λc38=>
     if (!decide (c38=0))=true then
      if (decide (p2.num=0))=true then
       some (decide ((Sh.len p2.kids)=0))
      else
       some false
     else
      some false
    else
     some false
   ).bind λok21=>
   (
    Option.bind (
     if ok21=true then
      if (decide (p2.op=16))=true then
       some true
      else
       some (decide (p2.op=17))
     else
      some false
    ) λt28=>
    if t28=true then
     (Sh.get l8 0).bind λc32=>
     (Hs p0.decls c32).bind λxY=>
     some (!xY.2)
    else
     some ok21
   ).bind λok24=>
   some (-1,ok24)
  else
  if (decide (p2.op=7))=true then
   (
    if (!decide ((Sh.len l8)=1))=true then
     some true
    else
     (Sh.get l8 0).bind λc53=>
     if (!decide (c53=0))=true then
      some true
     else
     if (!decide (p2.num=0))=true then
      some true
     else
      some (!decide ((Sh.len p2.kids)=2))
   ).bind λt45=>
   if t45=true then
    some (-1,false)
   else
    (Sh.mk [] 2 24).bind λl50=>
    (DM N uX p0 p1 p2.kids l50).bind λq51=>
    some (q51.1,q51.2)
  else
  if (decide (p2.op=8))=true then
   (EO N p0 p2.num).bind λq59=>
   (
    if (!decide ((Sh.len l8)=1))=true then
     some true
    else
     (Sh.get l8 0).bind λc69=>
     if (!decide (c69=p2.num))=true then
      some true
     else
     if (decide ((Sh.len q59)=0))=true then
      some true
     else
      some (!decide ((Sh.len p2.kids)=(Sh.len q59)))
   ).bind λt62=>
   if t62=true then
    some (-1,false)
   else
    (DM N uX p0 p1 p2.kids q59).bind λq67=>
    some (q67.1,q67.2)
  else
   (
    if (decide (0<(Sh.len p2.kids)))=true then
     some true
    else
    if (decide (p2.op=10))=true then
     if (decide (0<=p2.num))=true then
      if (decide (p2.num<(Sh.len p0.funcs)))=true then
       (Sh.get p0.funcs p2.num).bind λc83=>
       some (decide (0<(Sh.len c83.CE)))
      else
       some false
     else
      some false
    else
     some false
   ).bind λt73=>
   if t73=true then
    some (-1,false)
   else
    (AS N p0 p2.op p2.num l8).bind λq78=>
    some (q78.1,q78.2)
def BQ (N:Nat)(p0:Ah)(p2:Block)(uX:Ah->(List Int)->Block->Option (Int)):Nat->Int->(List Int)->Option ((Int) ⊕ (List Int))
 | 0,_,_=>none
 | n+1,t6,l7=>
  if (decide (t6<(Sh.len p2.steps)))=true then
   Sh.cont (
    (Sh.get p2.steps t6).bind λze=>
    (Be N uX p0 l7 ze).bind λwW=>
    if (!wW.2)=true then
     some (Sum.inl (Sum.inl (-1)))
    else
     (EM ze.op).bind λq36=>
     if (!q36)=true then
      (Sh.app l7 [wW.1] 8).bind λl39=>
      some (Sum.inr l39)
     else
      some (Sum.inr l7)
   ) (id) λzp=>
   BQ N p0 p2 uX n (Sh.w (t6+1)) zp
  else
   some (Sum.inr l7)
def DJ (N:Nat)(uX:Ah->(List Int)->Block->Option (Int))(p0:Ah)(p1:(List Int))(p2:Block):Option (Int):=
 (Bx p1).bind λq3=>
 Sh.cont (BQ N p0 p2 uX N 0 q3) (id) λl8=>
 (
  if (decide (p2.result<0))=true then
   some true
  else
   some (decide ((Sh.len l8)<=p2.result))
 ).bind λt12=>
 if t12=true then
  some (-1)
 else
  (Sh.get l8 p2.result).bind λyS=>
  some yS
def BM (N:Nat):Nat->Ah->(List Int)->Block->Option (Int)
 | 0,_,_,_=>none
 | n+1,p0,p1,p2=>DJ N (BM N n) p0 p1 p2
def IG (N:Nat)(p0:Ah)(p1:(List Int))(p2:Block):Option (Int):=BM N N p0 p1 p2
def FP (N:Nat)(p0:Ax)(q3:Ah×Bool):Nat->Int->Option ((Bool) ⊕ (Unit))
 | 0,_=>none
 | n+1,t12=>
  if (decide (t12<(Sh.len p0.AU)))=true then
   (Sh.get p0.AU t12).bind λxx=>
   (
    Option.bind (Ld N xx.body) λxP=>
    if (decide (xP<0))=true then
     some true
    else
     (IG N q3.1 xx.params xx.body).bind λwW=>
     some (!decide (wW=xx.result))
   ).bind λt22=>
   if t22=true then
    some (Sum.inl false)
   else
    FP N p0 q3 n (Sh.w (t12+1))
  else
   some (Sum.inr ())
def Ez (N:Nat)(p0:Ax):Option (Bool):=
 (JQ N p0).bind λq3=>
 if (!q3.2)=true then
  some false
 else
  Sh.cont (FP N p0 q3 N 0) (id) λ()=>
  some true
def HJ (uT:Bool)(p0:Step):Option (Bool):=
 if uT=true then
  (EM p0.op).bind λq3=>
  if (!q3)=true then
   some (decide (p0.Ed=0))
  else
   some false
 else
  some false
def EE (c13:Step)(vE:Bool->Block->Option (Bool)):Nat->Int->Bool->Option (Bool)
 | 0,_,_=>none
 | n+1,t17,f18=>
  if (decide (t17<(Sh.len c13.kids)))=true then
   (Sh.get c13.kids t17).bind λze=>
   (vE f18 ze).bind λxc=>
   EE c13 vE n (Sh.w (t17+1)) xc
  else
   some f18
def EC (N:Nat)(p0:Block)(vE:Bool->Block->Option (Bool)):Nat->Int->Bool->Option (Bool)
 | 0,_,_=>none
 | n+1,t4,f5=>
  if (decide (t4<(Sh.len p0.steps)))=true then
   (Sh.get p0.steps t4).bind λc13=>
   (HJ f5 c13).bind λwD=>
   (EE c13 vE N 0 wD).bind λf19=>
   EC N p0 vE n (Sh.w (t4+1)) f19
  else
   some f5
def Jc (N:Nat)(vE:Bool->Block->Option (Bool))(uT:Bool)(p0:Block):Option (Bool):=
 (EC N p0 vE N 0 uT).bind λf6=>
 some f6
def GN (N:Nat):Nat->Bool->Block->Option (Bool)
 | 0,_,_=>none
 | n+1,uT,p0=>Jc N (GN N n) uT p0
def Mq (N:Nat)(uT:Bool)(p0:Block):Option (Bool):=GN N N uT p0
def H9 (N:Nat)(p0:Block):Option (Bool):=
 (Mq N true p0).bind λq4=>
 some q4
def G5 (N:Nat)(p0:Ax):Nat->Int->Option ((Bool) ⊕ (Unit))
 | 0,_=>none
 | n+1,t11=>
  if (decide (t11<(Sh.len p0.AU)))=true then
   (Sh.get p0.AU t11).bind λwe=>
   (H9 N we.body).bind λvk=>
   if (!vk)=true then
    some (Sum.inl false)
   else
    G5 N p0 n (Sh.w (t11+1))
  else
   some (Sum.inr ())
def I4 (N:Nat)(p0:Ax):Option (Bool):=
 (Ez N p0).bind λq4=>
 if (!q4)=true then
  some false
 else
  Sh.cont (G5 N p0 N 0) (id) λ()=>
  some true
end RC
namespace RC
end RC
namespace RC
end RC
namespace RC
def Ht (p0:(List Int))(p1:Int):Nat->Int->Option ((Bool) ⊕ (Unit))
 | 0,_=>none
 | n+1,i4=>
  if (decide (i4<(Sh.len p0)))=true then
   (Sh.get p0 i4).bind λyh=>
   if (decide (yh=p1))=true then
    some (Sum.inl true)
   else
    Ht p0 p1 n (Sh.w (i4+1))
  else
   some (Sum.inr ())
def L3 (N:Nat)(p0:(List Int))(p1:Int):Option (Bool):=
 Sh.cont (Ht p0 p1 N 0) (id) λ()=>
 some false
end RC
namespace RC
def Dm (p0:(List AI)):Option (List AI):=
 (Sh.app ([]:List AI) p0 40).bind λl6=>
 some l6
def DN (p0:(List EK)):Option (List EK):=
 (Sh.app ([]:List EK) p0 24).bind λl6=>
 some l6
end RC
namespace RC
def Em (cs:List EK):Nat->Int->List EK->Option (List EK)
 | 0,_,_=>none
 | n+1,i,q=>
  if decide (i<Sh.len cs)=true then
   (Sh.get cs i).bind λc=>
   (Bx c.fields).bind λf=>
   (Sh.get q i).bind λ_=>
   Em cs n (Sh.w (i+1)) (Sh.put q i (EK.mk f))
  else some q
def Es (N:Nat)(m:Int):Nat->Int->List AI->Option (List AI)
 | 0,_,_=>none
 | n+1,t,l=>
  if decide (t<m)=true then
   (Sh.get l t).bind λd=>
   (DN d.cons).bind λvk=>
   (Em d.cons N 0 vk).bind λq=>
   Es N m n (Sh.w (t+1)) (Sh.put l t (AI.mk d.from_ d.to q))
  else some l
def JE (N:Nat)(p0:List AI):Option (List AI):=
 (Dm p0).bind λq9=>
 (Es N (Sh.len q9) N 0 q9).bind λl=>
 some l
end RC
namespace RC
def FE (i5:Int)(p0:(List AI)):Nat->Int->(List EK)->Option (List EK)
 | 0,_,_=>none
 | n+1,k17,l18=>
  (Sh.get p0 i5).bind λc25=>
  if (decide (k17<(Sh.len c25.cons)))=true then
   (Sh.get c25.cons k17).bind λc28=>
   (EP c28.fields).bind λza=>
   (Sh.app l18 [EK.mk za] 24).bind λl30=>
   FE i5 p0 n (Sh.w (k17+1)) l30
  else
   some l18
def GK (N:Nat)(p0:(List AI)):Nat->Int->(List AI)->Option (List AI)
 | 0,_,_=>none
 | n+1,i5,l6=>
  if (decide (i5<(Sh.len p0)))=true then
   (FE i5 p0 N 0 []).bind λl19=>
   (Sh.get p0 i5).bind λc21=>
   (Sh.app l6 [AI.mk c21.from_ c21.to l19] 40).bind λl22=>
   GK N p0 n (Sh.w (i5+1)) l22
  else
   some l6
def Jt (N:Nat)(p0:(List AI)):Option (List AI):=
 (GK N p0 N 0 []).bind λl7=>
 some l7
end RC
namespace RC
def Jk (p0:(List Int)):Option ((List Int)×Int):=
 (
  if (decide (2000<(Sh.len p0)))=true then
   (Sh.sl p0 0 2000).bind λl8=>
   some l8
  else
   some p0
 ).bind λcode3=>
 some (code3,0)
def Fz (p0:(List Int)):Option (EK):=
 some (EK.mk p0)
def Ay (uT:(List Int))(uV p1:Int):Option (Int×Int):=
 (
  if (decide (p1<1))=true then
   some true
  else
   some (decide ((Sh.len uT)=0))
 ).bind λt5=>
 if t5=true then
  some (0,Sh.w (uV+1))
 else
 if (decide ((Sh.w ((Sh.w (uV+1))-1))<(Sh.len uT)))=true then
  (Sh.get uT (Sh.w ((Sh.w (uV+1))-1))).bind λwT=>
  (Sh.rem (Sh.wk .i64 wT) p1).bind λd15=>
  some (d15,Sh.w (uV+1))
 else
  (Sh.rem (Sh.w ((Sh.w (uV+1))-1)) (Sh.len uT)).bind λd17=>
  (Sh.get uT d17).bind λwg=>
  (Sh.rem (Sh.w ((Sh.w ((Sh.w ((Sh.w (uV+1))-1))*7))+3)) (Sh.len uT)).bind λd19=>
  (Sh.get uT d19).bind λxx=>
  (Sh.quo (Sh.w ((Sh.w (uV+1))-1)) (Sh.len uT)).bind λd21=>
  (Sh.rem (Sh.xor (Sh.w ((Sh.w ((Sh.w ((Sh.w ((Sh.wk .i64 wg)*131))+(Sh.w ((Sh.wk .i64 xx)*1117))))+(Sh.w ((Sh.w ((Sh.w (uV+1))-1))*29))))+(Sh.w (d21*53)))) (Sh.w (Int.tdiv (Sh.w ((Sh.w ((Sh.w ((Sh.w ((Sh.wk .i64 wg)*131))+(Sh.w ((Sh.wk .i64 xx)*1117))))+(Sh.w ((Sh.w ((Sh.w (uV+1))-1))*29))))+(Sh.w (d21*53)))) 64))) p1).bind λd24=>
  some (d24,Sh.w (uV+1))
def IT (uT:(List Int))(uV:Int):Option ((List AI)×Int):=
 (Fz ([]:List Int)).bind λq3=>
 (Fz [(0:Int),1]).bind λq4=>
 (Fz ([]:List Int)).bind λq6=>
 (Fz [(3:Int),0,3]).bind λq7=>
 (Fz [(1:Int),3]).bind λq9=>
 (Fz [(1:Int),1,0]).bind λwL=>
 (Fz [(0:Int)]).bind λyM=>
 (Fz [(3:Int)]).bind λwJ=>
 (Ay uT uV 5).bind λwD=>
 (
  if (decide (wD.1<4))=true then
   (Sh.get ([AI.mk 0 0 [q9],AI.mk 1 0 [],AI.mk 0 0 [wL,yM,wJ],AI.mk 0 1 []]) wD.1).bind λc22=>
   (Sh.app ([AI.mk 0 0 [q3,q4],AI.mk 0 0 [],AI.mk 0 0 [q6,q7]]) [c22] 40).bind λzp=>
   some zp
  else
   some ([AI.mk 0 0 [q3,q4],AI.mk 0 0 [],AI.mk 0 0 [q6,q7]])
 ).bind λl17=>
 some (l17,wD.2)
def FU (p0:(List Int))(p1:Int):Option (Ar):=
 some (Ar.mk p0 p1 (AG.mk 0 0 []))
def CC (uT:(List Int))(uV:Int)(p1:(List Int)):Option (Int×Int):=
 (Ay uT uV (Sh.len p1)).bind λq3=>
 (Sh.get p1 q3.1).bind λc4=>
 some (c4,q3.2)
def GV (p0:(List Int))(p1:Int):Nat->Int->Option ((Int) ⊕ (Unit))
 | 0,_=>none
 | n+1,i4=>
  if (decide (i4<(Sh.len p0)))=true then
   (Sh.get p0 i4).bind λyh=>
   if (decide (yh=p1))=true then
    some (Sum.inl i4)
   else
    GV p0 p1 n (Sh.w (i4+1))
  else
   some (Sum.inr ())
def Lc (N:Nat)(p0:(List Int))(p1:Int):Option (Int):=
 Sh.cont (GV p0 p1 N 0) (id) λ()=>
 some (-1)
def F5 (p0:Int):Option (AG):=
 some (AG.mk 0 p0 [])
def El (p0:(List Int))(p1:Int):Nat->Int->(List Int)->Option (List Int)
 | 0,_,_=>none
 | n+1,i5,l6=>
  if (decide (i5<(Sh.len p0)))=true then
   (
    Option.bind (Sh.get p0 i5) λyS=>
    if (decide (yS=p1))=true then
     (Sh.app l6 [i5] 8).bind λl19=>
     some l19
    else
     some l6
   ).bind λwM=>
   El p0 p1 n (Sh.w (i5+1)) wM
  else
   some l6
def JK (N:Nat)(p0:(List Int))(p1:Int):Option (List Int):=
 (El p0 p1 N 0 []).bind λl7=>
 some l7
def Fo (N:Nat)(p0:AP)(p1:Int):Nat->Int->(List Int)->Option (List Int)
 | 0,_,_=>none
 | n+1,f5,l6=>
  if (decide (f5<(Sh.len p0.funcs)))=true then
   (
    Option.bind (Sh.get p0.funcs f5) λyS=>
    (
     if (decide (0<(Sh.len yS.params)))=true then
      (Sh.get yS.params (Sh.w ((Sh.len yS.params)-1))).bind λc24=>
      (Hr N p0.decls c24 yS.result).bind λxI=>
      some (decide (xI=p1))
     else
      some false
    ).bind λt19=>
    if t19=true then
     (Sh.app l6 [f5] 8).bind λl22=>
     some l22
    else
     some l6
   ).bind λwM=>
   Fo N p0 p1 n (Sh.w (f5+1)) wM
  else
   some l6
def JS (N:Nat)(p0:AP)(p1:Int):Option (List Int):=
 (Fo N p0 p1 N 0 []).bind λl7=>
 some l7
def Hq (N:Nat)(p0:AP)(p1:(List Int))(p2:Int):Option (Bool):=
 (
  Option.bind (F7 p0.decls p2) λq5=>
  if (!q5)=true then
   some true
  else
   (JS N p0 p2).bind λq7=>
   if (decide (0<(Sh.len q7)))=true then
    some true
   else
    (L3 N p1 p2).bind λq9=>
    some q9
 ).bind λt3=>
 some t3
def Ci (p0:Int):Option (AG):=
 some (AG.mk 12 p0 [])
def Bl (p0 p1:Int)(p2:(List AG)):Option (AG):=
 some (AG.mk p0 p1 p2)
def J5 (uT:(List Int))(uV:Int):Option (Int×Int):=
 (Ay uT uV 6).bind λq3=>
 (Ay uT q3.2 6).bind λq4=>
 (Ay uT q4.2 40).bind λq5=>
 (CC uT q5.2 [q3.1,q4.1,0,1,2,-1,3,q5.1,999,-998]).bind λq6=>
 some (q6.1,q6.2)
def Dk (uT:(List Int))(s1:(List Ar))(uW:(List AI))(xy:(List Int))(vG:(List Int)->Int->(List Ar)->(List AI)->Int->Option (AG×Int)):Nat->Int->Int->(List AG)->Option (Int×(List AG))
 | 0,_,_,_=>none
 | n+1,i21,f22,zp=>
  if (decide (i21<(Sh.len xy)))=true then
   (Sh.get xy i21).bind λc33=>
   (vG uT f22 s1 uW c33).bind λwQ=>
   (Sh.app zp [wQ.1] 40).bind λl35=>
   Dk uT s1 uW xy vG n (Sh.w (i21+1)) wQ.2 l35
  else
   some (f22,zp)
def Ek (c59:Ar)(uT:(List Int))(s1:(List Ar))(uW:(List AI))(vG:(List Int)->Int->(List Ar)->(List AI)->Int->Option (AG×Int)):Nat->Int->Int->(List AG)->Option (Int×(List AG))
 | 0,_,_,_=>none
 | n+1,i63,f64,l65=>
  if (decide ((Sh.w (i63+1))<(Sh.len c59.params)))=true then
   (Sh.get c59.params i63).bind λc75=>
   (vG uT f64 s1 uW c75).bind λq76=>
   (Sh.app l65 [q76.1] 40).bind λl77=>
   Ek c59 uT s1 uW vG n (Sh.w (i63+1)) q76.2 l77
  else
   some (f64,l65)
def JR (N:Nat)(vG:(List Int)->Int->(List Ar)->(List AI)->Int->Option (AG×Int))(uT:(List Int))(uV:Int)(s1:(List Ar))(uW:(List AI))(p2:Int):Option (AG×Int):=
 (Gj N uW p2).bind λq3=>
 if (decide (0<(Sh.len q3)))=true then
  (Sh.get q3 0).bind λc8=>
  (
   Option.bind (
    if (decide (1<(Sh.len q3)))=true then
     (Ay uT uV 4).bind λq47=>
     some (decide (q47.1=0),q47.2)
    else
     some (false,uV)
   ) λ(t41,f42)=>
   if t41=true then
    (Sh.get q3 1).bind λc45=>
    some (c45,f42)
   else
    some (c8,f42)
  ).bind λ(xn,f11)=>
  (
   Option.bind (BV N uW xn) λq37=>
   (L3 N q37 p2).bind λyL=>
   if yL=true then
    some c8
   else
    some xn
  ).bind λwT=>
  (BV N uW wT).bind λxy=>
  (Dk uT s1 uW xy vG N 0 f11 []).bind λ(f24,l25)=>
  (Bl 6 wT l25).bind λwW=>
  some (wW,f24)
 else
  (JS N (AP.mk uW s1) p2).bind λyR=>
  (
   if (decide (0<p2))=true then
    some (decide (0<(Sh.len yR)))
   else
    some false
  ).bind λt52=>
  if t52=true then
   (Ay uT uV (Sh.len yR)).bind λq56=>
   (Sh.get yR q56.1).bind λc57=>
   (Sh.get s1 c57).bind λc59=>
   (Ek c59 uT s1 uW vG N 0 q56.2 []).bind λ(f66,l67)=>
   (Bl 10 c57 l67).bind λq70=>
   some (q70,f66)
  else
   (J5 uT uV).bind λq79=>
   (F5 q79.1).bind λq80=>
   some (q80,q79.2)
def Dq (N:Nat):Nat->(List Int)->Int->(List Ar)->(List AI)->Int->Option (AG×Int)
 | 0,_,_,_,_,_=>none
 | n+1,uT,uV,s1,uW,p2=>JR N (Dq N n) uT uV s1 uW p2
def Ok (N:Nat)(uT:(List Int))(uV:Int)(s1:(List Ar))(uW:(List AI))(p2:Int):Option (AG×Int):=Dq N N uT uV s1 uW p2
def Iz (N:Nat)(uT:(List Int))(uV:Int)(s1:(List Ar))(uW:(List AI))(p2:(List Int))(p3:Int):Option (AG×Int):=
 (JK N p2 p3).bind λq3=>
 (
  if (decide (0<(Sh.len q3)))=true then
   (Ay uT uV 6).bind λxA=>
   if (decide (0<xA.1))=true then
    some (true,xA.2)
   else
    (Hq N (AP.mk uW s1) ([]:List Int) p3).bind λwR=>
    some (!wR,xA.2)
  else
   some (false,uV)
 ).bind λ(t6,f7)=>
 if t6=true then
  (Ay uT f7 (Sh.len q3)).bind λyM=>
  (Sh.get q3 yM.1).bind λyh=>
  (Ci yh).bind λvv=>
  some (vv,yM.2)
 else
  (Ok N uT f7 s1 uW p3).bind λwD=>
  some (wD.1,wD.2)
def Lh (N:Nat)(uT:(List Int))(uV:Int)(s1:(List Ar))(uW:(List AI))(p2:(List Int)):Option (Int×Int):=
 (CC uT uV [(1:Int),1,3,0,2,4,3]).bind λq3=>
 (
  if (decide ((Sh.len uW)<q3.1))=true then
   some true
  else
   (Hq N (AP.mk uW s1) p2 q3.1).bind λwJ=>
   some (!wJ)
 ).bind λt6=>
 if t6=true then
  some (1,q3.2)
 else
  some (q3.1,q3.2)
def Gr (uT:(List Int))(s1:(List Ar))(uW:(List AI))(p2:(List Int))(p3:(List Int))(p4:Int)(ug:(List Int)->Int->(List Ar)->(List AI)->(List Int)->Int->Int->Option (AG×Int)):Nat->Int->Int->(List AG)->Option (Int×(List AG))
 | 0,_,_,_=>none
 | n+1,i5,f6,l7=>
  if (decide (i5<(Sh.len p3)))=true then
   (Sh.get p3 i5).bind λwu=>
   (Sh.quo p4 (Sh.len p3)).bind λd17=>
   (ug uT f6 s1 uW p2 wu d17).bind λxy=>
   (Sh.app l7 [xy.1] 40).bind λl19=>
   Gr uT s1 uW p2 p3 p4 ug n (Sh.w (i5+1)) xy.2 l19
  else
   some (f6,l7)
def Gl (N:Nat)(ug:(List Int)->Int->(List Ar)->(List AI)->(List Int)->Int->Int->Option (AG×Int))(uT:(List Int))(uV:Int)(s1:(List Ar))(uW:(List AI))(p2:(List Int))(p3:(List Int))(p4:Int):Option ((List AG)×Int):=
 (Gr uT s1 uW p2 p3 p4 ug N 0 uV []).bind λ(f8,l9)=>
 some (l9,f8)
def E0 (N:Nat)(uT:(List Int))(s1:(List Ar))(uW:(List AI))(p2:(List Int))(p3 p4:Int)(q8:(List Int))(ug:(List Int)->Int->(List Ar)->(List AI)->(List Int)->Int->Int->Option (AG×Int)):Nat->Int->Int->(List AG)->Option (Int×(List AG))
 | 0,_,_,_=>none
 | n+1,i13,f14,l15=>
  if (decide (i13<(Sh.len q8)))=true then
   (Sh.get q8 i13).bind λc25=>
   (BV N uW c25).bind λxP=>
   (DP p2 xP).bind λxc=>
   (Sh.quo (Sh.w (p4-2)) (Sh.len q8)).bind λd28=>
   (ug uT f14 s1 uW xc p3 d28).bind λza=>
   (Sh.app l15 [za.1] 40).bind λl30=>
   E0 N uT s1 uW p2 p3 p4 q8 ug n (Sh.w (i13+1)) za.2 l30
  else
   some (f14,l15)
def Kj (N:Nat)(ug:(List Int)->Int->(List Ar)->(List AI)->(List Int)->Int->Int->Option (AG×Int))(uT:(List Int))(uV:Int)(s1:(List Ar))(uW:(List AI))(p2:(List Int))(p3 p4:Int):Option (AG×Int):=
 (CC uT uV [(1:Int),1,3,4]).bind λq3=>
 (
  Option.bind (
   if (decide ((Sh.len uW)<q3.1))=true then
    some true
   else
    (F7 uW q3.1).bind λq36=>
    some q36
  ) λt32=>
  if t32=true then
   some 1
  else
   some q3.1
 ).bind λd5=>
 (Gj N uW d5).bind λq8=>
 (Iz N uT q3.2 s1 uW p2 d5).bind λwL=>
 (E0 N uT s1 uW p2 p3 p4 q8 ug N 0 wL.2 [wL.1]).bind λ(f16,l17)=>
 (Bl 8 d5 l17).bind λwH=>
 some (wH,f16)
def Fv (N:Nat)(yS:Ar)(p0:AP):Nat->Bool->Int->Option (Bool)
 | 0,_,_=>none
 | n+1,ok20,i21=>
  if (decide (i21<(Sh.len yS.params)))=true then
   (
    if ok20=true then
     (Sh.get yS.params i21).bind λc34=>
     (Hq N p0 ([]:List Int) c34).bind λyA=>
     some yA
    else
     some false
   ).bind λok31=>
   Fv N yS p0 n ok31 (Sh.w (i21+1))
  else
   some ok20
def Ft (N:Nat)(p0:AP)(p1:Int):Nat->Int->(List Int)->Option (List Int)
 | 0,_,_=>none
 | n+1,f5,l6=>
  if (decide (f5<(Sh.len p0.funcs)))=true then
   (
    Option.bind (Sh.get p0.funcs f5) λyS=>
    (Fv N yS p0 N (decide (yS.result=p1)) 0).bind λok22=>
    if ok22=true then
     (Sh.app l6 [f5] 8).bind λl26=>
     some l26
    else
     some l6
   ).bind λwM=>
   Ft N p0 p1 n (Sh.w (f5+1)) wM
  else
   some l6
def Kn (N:Nat)(p0:AP)(p1:Int):Option (List Int):=
 (Ft N p0 p1 N 1 []).bind λl7=>
 some l7
def Fj (N:Nat)(uT:(List Int))(s1:(List Ar))(uW:(List AI))(p2:(List Int))(p3 p4:Int)(wQ:Int×Int)(ug:(List Int)->Int->(List Ar)->(List AI)->(List Int)->Int->Int->Option (AG×Int)):Nat->Int->Option ((AG×Int) ⊕ (Unit))
 | 0,_=>none
 | n+1,a38=>
  if (decide (a38<=(Sh.len uW)))=true then
   (
    Option.bind (F7 uW a38) λzL=>
    if zL=true then
     (Sh.get uW (Sh.w (a38-1))).bind λc55=>
     if (decide (c55.to=p3))=true then
      (Hq N (AP.mk uW s1) p2 a38).bind λq57=>
      some q57
     else
      some false
    else
     some false
   ).bind λt45=>
   if t45=true then
    (Iz N uT wQ.2 s1 uW p2 a38).bind λyR=>
    (Sh.get uW (Sh.w (a38-1))).bind λzb=>
    (ug uT yR.2 s1 uW p2 zb.from_ (Sh.w (p4-2))).bind λq51=>
    (Bl 11 0 [yR.1,q51.1]).bind λq52=>
    some (Sum.inl (q52,q51.2))
   else
    Fj N uT s1 uW p2 p3 p4 wQ ug n (Sh.w (a38+1))
  else
   some (Sum.inr ())
def KZ (N:Nat)(ug:(List Int)->Int->(List Ar)->(List AI)->(List Int)->Int->Int->Option (AG×Int))(uT:(List Int))(uV:Int)(s1:(List Ar))(uW:(List AI))(p2:(List Int))(p3 p4:Int):Option (AG×Int):=
 Sh.cont (
  (Ay uT uV 4).bind λwQ=>
  if (decide (wQ.1=0))=true then
   Sh.cont (Fj N uT s1 uW p2 p3 p4 wQ ug N 1) (λx=>Sum.inl x) λ()=>
   some (Sum.inr wQ.2)
  else
   some (Sum.inr wQ.2)
 ) (id) λf3=>
 (Gj N uW p3).bind λq6=>
 if (decide (0<(Sh.len q6)))=true then
  (Ay uT f3 (Sh.len q6)).bind λyM=>
  (Sh.get q6 yM.1).bind λyh=>
  (BV N uW yh).bind λzS=>
  (Gl N ug uT yM.2 s1 uW p2 zS (Sh.w (p4-1))).bind λwD=>
  (Bl 6 yh wD.1).bind λxX=>
  some (xX,wD.2)
 else
 if (decide (0<p3))=true then
  (Iz N uT f3 s1 uW p2 p3).bind λvk=>
  some (vk.1,vk.2)
 else
  (Ay uT f3 3).bind λq24=>
  if (decide (q24.1=0))=true then
   (Gl N ug uT q24.2 s1 uW p2 [(0:Int)] (Sh.w (p4-1))).bind λxc=>
   (Bl 5 0 xc.1).bind λwW=>
   some (wW,xc.2)
  else
   (CC uT q24.2 [(1:Int),2,3,4]).bind λq30=>
   (Gl N ug uT q30.2 s1 uW p2 [(0:Int),0] (Sh.w (p4-1))).bind λq31=>
   (Bl q30.1 0 q31.1).bind λxb=>
   some (xb,q31.2)
def Nd (N:Nat)(ug:(List Int)->Int->(List Ar)->(List AI)->(List Int)->Int->Int->Option (AG×Int))(uT:(List Int))(uV:Int)(s1:(List Ar))(uW:(List AI))(p2:(List Int))(p3 p4:Int):Option (AG×Int):=
 if (decide (p4<3))=true then
  (Iz N uT uV s1 uW p2 p3).bind λq6=>
  some (q6.1,q6.2)
 else
  Sh.cont (
   (Ay uT uV 12).bind λvv=>
   if (decide (vv.1=0))=true then
    (Iz N uT vv.2 s1 uW p2 p3).bind λxA=>
    some (Sum.inl (xA.1,xA.2))
   else
    (
     if (decide (vv.1=1))=true then
      some true
     else
      some (decide (vv.1=2))
    ).bind λt19=>
    if t19=true then
     (Lh N uT vv.2 s1 uW p2).bind λwX=>
     (ug uT wX.2 s1 uW p2 wX.1 (Sh.w (Int.tdiv p4 2))).bind λxI=>
     (DP p2 [wX.1]).bind λxP=>
     (ug uT xI.2 s1 uW xP p3 (Sh.w (Int.tdiv p4 2))).bind λxc=>
     (Bl 13 0 [xI.1,xc.1]).bind λwW=>
     some (Sum.inl (wW,xc.2))
    else
    if (decide (vv.1=3))=true then
     (Gl N ug uT vv.2 s1 uW p2 [0,p3,p3] (Sh.w (p4-1))).bind λxb=>
     (Bl 7 0 xb.1).bind λxY=>
     some (Sum.inl (xY,xb.2))
    else
     (
      if (decide (vv.1=4))=true then
       some true
      else
      if (decide (vv.1=5))=true then
       some true
      else
       some (decide (vv.1=6))
     ).bind λt35=>
     if t35=true then
      (Kj N ug uT vv.2 s1 uW p2 p3 p4).bind λzJ=>
      some (Sum.inl (zJ.1,zJ.2))
     else
      (
       if (decide (vv.1=7))=true then
        some true
       else
        some (decide (vv.1=8))
      ).bind λt41=>
      if t41=true then
       (Kn N (AP.mk uW s1) p3).bind λzK=>
       if (decide (0<(Sh.len zK)))=true then
        (Ay uT vv.2 (Sh.len zK)).bind λyR=>
        (Sh.get zK yR.1).bind λzb=>
        (Sh.get s1 zb).bind λc52=>
        (Gl N ug uT yR.2 s1 uW p2 c52.params (Sh.w (p4-1))).bind λzL=>
        (Bl 9 zb zL.1).bind λq54=>
        some (Sum.inl (q54,zL.2))
       else
        some (Sum.inr vv.2)
      else
       some (Sum.inr vv.2)
  ) (id) λf8=>
  (KZ N ug uT f8 s1 uW p2 p3 p4).bind λyM=>
  some (yM.1,yM.2)
def Kb (N:Nat):Nat->(List Int)->Int->(List Ar)->(List AI)->(List Int)->Int->Int->Option (AG×Int)
 | 0,_,_,_,_,_,_,_=>none
 | n+1,uT,uV,s1,uW,p2,p3,p4=>Nd N (Kb N n) uT uV s1 uW p2 p3 p4
def Hw (N:Nat)(uT:(List Int))(uV:Int)(s1:(List Ar))(uW:(List AI))(p2:(List Int))(p3 p4:Int):Option (AG×Int):=Kb N N uT uV s1 uW p2 p3 p4
def GW (uT:(List Int)):Nat->Int->Int->Int->Int->(List AG)->Option (Int×Int×Int×(List AG))
 | 0,_,_,_,_,_=>none
 | n+1,n21,f22,f23,f24,f25=>
  if (decide (0<n21))=true then
   (J5 uT f22).bind λq36=>
   (F5 q36.1).bind λq37=>
   (Bl 6 1 [q37,AG.mk f23 f24 f25]).bind λyL=>
   GW uT n (Sh.w (n21-1)) q36.2 yL.op yL.num yL.kids
  else
   some (f22,f23,f24,f25)
def Li (N:Nat)(uT:(List Int))(uV p1:Int):Option (AG×Int):=
 (Bl 6 0 ([]:List AG)).bind λq3=>
 if (decide (p1=3))=true then
  (Bl 6 2 ([]:List AG)).bind λq8=>
  (Ay uT uV 9).bind λwL=>
  (F5 wL.1).bind λyM=>
  (Bl 6 3 [q8,yM,q8]).bind λwJ=>
  (Ay uT wL.2 9).bind λzS=>
  (F5 zS.1).bind λwD=>
  (Bl 6 3 [wJ,wD,q8]).bind λxX=>
  some (xX,zS.2)
 else
  (Ay uT uV 3).bind λwH=>
  (GW uT N (Sh.w (1+wH.1)) wH.2 q3.op q3.num q3.kids).bind λ(f26,f27,f28,f29)=>
  some (AG.mk f27 f28 f29,f26)
def Ke (N:Nat)(uT:(List Int))(uV:Int)(s1:(List Ar))(uW:(List AI)):Option (AG×Int):=
 (CC uT uV [(1:Int),1,3]).bind λq3=>
 (Hw N uT q3.2 s1 uW [q3.1] 0 16).bind λq5=>
 (
  Option.bind (Ay uT q5.2 3) λxX=>
  if (decide (xX.1=0))=true then
   (Bl 5 0 [q5.1]).bind λxy=>
   some (xX.2,xy.op,xy.num,xy.kids)
  else
   some (xX.2,q5.1.op,q5.1.num,q5.1.kids)
 ).bind λ(f7,f8,f9,f10)=>
 (Li N uT f7 q3.1).bind λvv=>
 (Bl 13 0 [vv.1,AG.mk f8 f9 f10]).bind λzS=>
 some (zS,vv.2)
def Fp (c3:Ar)(uT:(List Int))(p3:Int):Nat->Int->Int->(List AG)->Option (Int×(List AG))
 | 0,_,_,_=>none
 | n+1,i10,f11,l12=>
  if (decide (i10<(Sh.len c3.params)))=true then
   (
    if (decide (i10=p3))=true then
     (Ci (Sh.w ((Sh.len c3.params)+1))).bind λq67=>
     (Sh.app l12 [q67] 40).bind λl68=>
     some (f11,l68)
    else
     (
      Option.bind (Sh.get c3.params i10) λc80=>
      if (decide (c80=0))=true then
       (Ay uT f11 2).bind λq82=>
       some (decide (q82.1=0),q82.2)
      else
       some (false,f11)
     ).bind λ(t70,f71)=>
     if t70=true then
      (Ci i10).bind λq74=>
      (Ci (Sh.len c3.params)).bind λq75=>
      (Bl 1 0 [q74,q75]).bind λq76=>
      (Sh.app l12 [q76] 40).bind λl77=>
      some (f71,l77)
     else
      (Ci i10).bind λq78=>
      (Sh.app l12 [q78] 40).bind λl79=>
      some (f71,l79)
   ).bind λ(f62,l63)=>
   Fp c3 uT p3 n (Sh.w (i10+1)) f62 l63
  else
   some (f11,l12)
def Kh (N:Nat)(uT:(List Int))(uV:Int)(s1:(List Ar))(uW:(List AI))(p2 p3:Int):Option (AG×Int):=
 (Sh.get s1 p2).bind λc3=>
 (DP c3.params [(0:Int),1]).bind λq6=>
 (Fp c3 uT p3 N 0 uV []).bind λ(f13,wM)=>
 (Bl 9 p2 wM).bind λxA=>
 (
  Option.bind (
   if (decide (c3.result=1))=true then
    (Ay uT f13 5).bind λq57=>
    some (decide (0<q57.1),q57.2)
   else
    some (false,f13)
  ) λ(t30,f31)=>
  if t30=true then
   (Hw N uT f31 s1 uW q6 0 4).bind λyA=>
   (
    Option.bind (
     if (decide (1<(Sh.len c3.params)))=true then
      (Sh.get c3.params 0).bind λzb=>
      some (decide (zb=2))
     else
      some false
    ) λt43=>
    if t43=true then
     (Ci 0).bind λq46=>
     (Ci (Sh.len c3.params)).bind λq47=>
     (Bl 11 0 [q46,q47]).bind λq48=>
     some (q48.op,q48.num,q48.kids)
    else
     some (yA.1.op,yA.1.num,yA.1.kids)
   ).bind λ(f37,f38,f39)=>
   (Bl 6 1 [AG.mk f37 f38 f39,xA]).bind λq41=>
   some (yA.2,q41.op,q41.num,q41.kids)
  else
  if (decide (c3.result=0))=true then
   (CC uT f31 [(1:Int),2]).bind λzL=>
   (Hw N uT zL.2 s1 uW q6 0 4).bind λq54=>
   (Bl zL.1 0 [q54.1,xA]).bind λq55=>
   some (q54.2,q55.op,q55.num,q55.kids)
  else
   some (f31,xA.op,xA.num,xA.kids)
 ).bind λ(f20,f21,f22,f23)=>
 (Ci p3).bind λxP=>
 (Hw N uT f20 s1 uW c3.params c3.result 4).bind λxc=>
 (Bl 8 1 [xP,xc.1,AG.mk f21 f22 f23]).bind λwW=>
 some (wW,xc.2)
def Fq (c3:Ar):Nat->Int->(List AG)->(List AG)->Option ((List AG)×(List AG))
 | 0,_,_,_=>none
 | n+1,i11,l12,l13=>
  if (decide (i11<(Sh.len c3.params)))=true then
   (Ci i11).bind λq47=>
   (Sh.app l12 [q47] 40).bind λl48=>
   (Ci i11).bind λyR=>
   (Sh.app l13 [yR] 40).bind λl50=>
   Fq c3 n (Sh.w (i11+1)) l48 l50
  else
   some (l12,l13)
def Kg (N:Nat)(uT:(List Int))(uV:Int)(s1:(List Ar))(uW:(List AI))(p2:Int):Option (AG×Int):=
 (Sh.get s1 p2).bind λc3=>
 (Ci (Sh.len c3.params)).bind λq6=>
 (Ci (Sh.w ((Sh.len c3.params)+2))).bind λq8=>
 (Fq c3 N 1 [q6] [q8]).bind λ(wM,l15)=>
 (Bl 9 p2 wM).bind λxy=>
 (Bl 9 p2 l15).bind λwH=>
 (DP c3.params [(3:Int),0,3]).bind λyv=>
 (Hw N uT uV s1 uW yv 0 4).bind λwX=>
 (Bl 1 0 [wX.1,wH]).bind λq24=>
 (Bl 1 0 [xy,q24]).bind λxI=>
 (
  if (decide (c3.result=3))=true then
   (DP c3.params [(3:Int),0,3]).bind λyL=>
   (Hw N uT wX.2 s1 uW yL 0 4).bind λzJ=>
   (Ci (Sh.w ((Sh.len c3.params)+2))).bind λq40=>
   (Bl 6 3 [xy,zJ.1,q40]).bind λq41=>
   some (zJ.2,q41.op,q41.num,q41.kids)
  else
   some (wX.2,xI.op,xI.num,xI.kids)
 ).bind λ(f27,f28,f29,f30)=>
 (Ci 0).bind λxY=>
 (Hw N uT f27 s1 uW c3.params c3.result 4).bind λwQ=>
 (Bl 8 3 [xY,wQ.1,AG.mk f28 f29 f30]).bind λyA=>
 some (yA,wQ.2)
def Fw (N:Nat)(c3:Ar)(uT:(List Int))(s1:(List Ar))(uW:(List AI)):Nat->Int->Int->(List AG)->Option (Int×(List AG))
 | 0,_,_,_=>none
 | n+1,i10,f11,l12=>
  if (decide (i10<(Sh.len c3.params)))=true then
   (Sh.get c3.params i10).bind λc39=>
   (Iz N uT f11 s1 uW c3.params c39).bind λq40=>
   (Sh.app l12 [q40.1] 40).bind λl41=>
   Fw N c3 uT s1 uW n (Sh.w (i10+1)) q40.2 l41
  else
   some (f11,l12)
def Ko (N:Nat)(uT:(List Int))(uV:Int)(s1:(List Ar))(uW:(List AI))(p2:Int):Option (AG×Int):=
 (Sh.get s1 p2).bind λc3=>
 (Ci 0).bind λq5=>
 (F5 1).bind λq6=>
 (Bl 2 0 [q5,q6]).bind λq7=>
 (Fw N c3 uT s1 uW N 1 uV [q7]).bind λ(f13,wM)=>
 (Bl 9 p2 wM).bind λxA=>
 (
  if (decide (c3.result=1))=true then
   (Hw N uT f13 s1 uW c3.params 0 3).bind λxY=>
   (Bl 6 1 [xY.1,xA]).bind λwQ=>
   some (xY.2,wQ.op,wQ.num,wQ.kids)
  else
   some (f13,xA.op,xA.num,xA.kids)
 ).bind λ(f19,f20,f21,f22)=>
 (F5 0).bind λxI=>
 (Ci 0).bind λxP=>
 (Bl 4 0 [xI,xP]).bind λxc=>
 (Hw N uT f19 s1 uW c3.params c3.result 4).bind λza=>
 (Bl 7 0 [xc,AG.mk f20 f21 f22,za.1]).bind λq30=>
 some (q30,za.2)
def G4 (N:Nat)(uT:(List Int))(s1:(List Ar))(uW:(List AI))(p2:(List Int))(p3:Int):Nat->Int->Int->Int->Int->(List AG)->Option (Int×Int×Int×(List AG))
 | 0,_,_,_,_,_=>none
 | n+1,budget5,f6,f7,f8,f9=>
  (
   Option.bind (I5 N (AG.mk f7 f8 f9)) λwX=>
   if (decide (wX<0))=true then
    some (decide (2<budget5))
   else
    some false
  ).bind λt18=>
  if t18=true then
   (Hw N uT f6 s1 uW p2 p3 (Sh.w (Int.tdiv budget5 2))).bind λyv=>
   G4 N uT s1 uW p2 p3 n (Sh.w (Int.tdiv budget5 2)) yv.2 yv.1.op yv.1.num yv.1.kids
  else
   some (f6,f7,f8,f9)
def J0 (N:Nat)(uT:(List Int))(uV:Int)(s1:(List Ar))(uW:(List AI))(p2:(List Int))(p3 p4:Int):Option (AG×Int):=
 (Hw N uT uV s1 uW p2 p3 p4).bind λq3=>
 (G4 N uT s1 uW p2 p3 N p4 q3.2 q3.1.op q3.1.num q3.1.kids).bind λ(f10,f11,f12,f13)=>
 some (AG.mk f11 f12 f13,f10)
def MP (N:Nat)(uT:(List Int))(uV:Int)(s1:(List Ar))(uW:(List AI))(p2:Int):Option (AG×Int):=
 (Sh.get s1 p2).bind λc3=>
 (Lc N c3.params 1).bind λq6=>
 (F5 0).bind λq8=>
 (Ay uT uV 4).bind λwL=>
 (
  Option.bind (
   if (decide (wL.1<3))=true then
    some (decide (p2=0))
   else
    some false
  ) λt25=>
  if t25=true then
   (Ke N uT wL.2 s1 uW).bind λwW=>
   some (wW.2,wW.1.op,wW.1.num,wW.1.kids)
  else
   (
    if (decide (wL.1<3))=true then
     if (decide (0<=q6))=true then
      if (decide (c3.result=0))=true then
       some true
      else
       some (decide (c3.result=1))
     else
      some false
    else
     some false
   ).bind λt30=>
   if t30=true then
    (Kh N uT wL.2 s1 uW p2 q6).bind λxY=>
    some (xY.2,xY.1.op,xY.1.num,xY.1.kids)
   else
    (
     if (decide (wL.1<3))=true then
      if (decide (0<(Sh.len c3.params)))=true then
       (Sh.get c3.params 0).bind λc52=>
       if (decide (c52=3))=true then
        if (decide (c3.result=0))=true then
         some true
        else
         some (decide (c3.result=3))
       else
        some false
      else
       some false
     else
      some false
    ).bind λt35=>
    if t35=true then
     (Kg N uT wL.2 s1 uW p2).bind λyL=>
     some (yL.2,yL.1.op,yL.1.num,yL.1.kids)
    else
     (
      if (decide (wL.1<3))=true then
       if (decide (0<(Sh.len c3.params)))=true then
        (Sh.get c3.params 0).bind λc47=>
        if (decide (c47=0))=true then
         if (decide (c3.result=0))=true then
          some true
         else
          some (decide (c3.result=1))
        else
         some false
       else
        some false
      else
       some false
     ).bind λt40=>
     if t40=true then
      (Ko N uT wL.2 s1 uW p2).bind λq43=>
      some (q43.2,q43.1.op,q43.1.num,q43.1.kids)
     else
      (J0 N uT wL.2 s1 uW c3.params c3.result 18).bind λq44=>
      some (q44.2,q44.1.op,q44.1.num,q44.1.kids)
 ).bind λ(f12,f13,f14,f15)=>
 (I5 N (AG.mk f13 f14 f15)).bind λwR=>
 if (decide (wR<0))=true then
  (J0 N uT f12 s1 uW c3.params c3.result 12).bind λyv=>
  some (yv.1,yv.2)
 else
  some (AG.mk f13 f14 f15,f12)
def E6 (N:Nat)(uT:(List Int))(q3:(List AI)×Int):Nat->Int->Int->(List Ar)->Option (Int×(List Ar))
 | 0,_,_,_=>none
 | n+1,f37,f38,l39=>
  if (decide (0<=f37))=true then
   (MP N uT f38 l39 q3.1 f37).bind λyR=>
   (Sh.get l39 f37).bind λzb=>
   E6 N uT q3 n (Sh.w (f37-1)) yR.2 (Sh.put l39 f37 (Ar.mk zb.params zb.result yR.1))
  else
   some (f38,l39)
def IX (N:Nat)(uT:(List Int))(uV:Int):Option (AP×Int):=
 (IT uT uV).bind λq3=>
 (FU [(1:Int)] 0).bind λq5=>
 (FU [(1:Int),1] 1).bind λq6=>
 (FU [(1:Int)] 1).bind λq7=>
 (FU [(1:Int),0] 1).bind λq8=>
 (FU [(2:Int),1] 1).bind λq9=>
 (FU [(1:Int),1] 0).bind λwL=>
 (FU [(3:Int)] 0).bind λwJ=>
 (FU [(0:Int)] 1).bind λvv=>
 (FU [(0:Int),1] 1).bind λzS=>
 (FU [(3:Int),0] 3).bind λwD=>
 (FU [(3:Int)] 1).bind λxX=>
 (FU [(1:Int),3,0] 0).bind λxA=>
 (FU [(0:Int)] 0).bind λwR=>
 (FU [(0:Int),0] 0).bind λwH=>
 (FU [(1:Int),0] 0).bind λvk=>
 (FU [(0:Int)] 1).bind λyv=>
 (FU ([]:List Int) 0).bind λq24=>
 (Ay uT q3.2 (Sh.len [q5,q6,q7,q8,q9,wL])).bind λxI=>
 (Sh.get [q5,q6,q7,q8,q9,wL] xI.1).bind λze=>
 (Ay uT xI.2 (Sh.len [wJ,vv,zS,wD,xX,xA])).bind λxc=>
 (Sh.get [wJ,vv,zS,wD,xX,xA] xc.1).bind λc28=>
 (Ay uT xc.2 (Sh.len [wR,wH,vk,yv])).bind λza=>
 (Sh.get [wR,wH,vk,yv] za.1).bind λc30=>
 (CC uT za.2 [(4:Int),4,3,2,4]).bind λxb=>
 (Sh.hi [q24,ze,c28,c30] xb.1).bind λl34=>
 (E6 N uT q3 N (Sh.w (xb.1-1)) xb.2 l34).bind λ(f40,l41)=>
 some (AP.mk q3.1 l41,f40)
def MQ (vC:(List AG)->Option (List AG))(p0:AG):Option (AG):=
 (vC p0.kids).bind λq3=>
 some (AG.mk p0.op p0.num q3)
def ES (p0:(List AG))(vC:(List AG)->Option (List AG)):Nat->Int->(List AG)->Option (List AG)
 | 0,_,_=>none
 | n+1,i5,l6=>
  if (decide (i5<(Sh.len p0)))=true then
   (Sh.get p0 i5).bind λwT=>
   (MQ vC wT).bind λwD=>
   (Sh.app l6 [wD] 40).bind λl16=>
   ES p0 vC n (Sh.w (i5+1)) l16
  else
   some l6
def KH (N:Nat)(vC:(List AG)->Option (List AG))(p0:(List AG)):Option (List AG):=
 (ES p0 vC N 0 []).bind λl7=>
 some l7
def Fk (N:Nat):Nat->(List AG)->Option (List AG)
 | 0,_=>none
 | n+1,p0=>KH N (Fk N n) p0
def Nv (N:Nat)(p0:(List AG)):Option (List AG):=Fk N N p0
def OE (N:Nat)(vt:(List Int)->Int->AG->Option (AG×Int))(uT:(List Int))(uV:Int)(p1:AG):Option (AG×Int):=
 (
  if (decide (0<(Sh.len p1.kids)))=true then
   (Ay uT uV 3).bind λq47=>
   some (decide (0<q47.1),q47.2)
  else
   some (false,uV)
 ).bind λ(t4,f5)=>
 if t4=true then
  (Nv N p1.kids).bind λq9=>
  (Ay uT f5 (Sh.len q9)).bind λyM=>
  (Sh.get q9 yM.1).bind λc13=>
  (vt uT yM.2 c13).bind λzS=>
  (Bl p1.op p1.num (Sh.put q9 yM.1 zS.1)).bind λxX=>
  some (xX,zS.2)
 else
  (Ay uT f5 5).bind λwR=>
  if (decide (wR.1=0))=true then
   (Ay uT wR.2 15).bind λwX=>
   (Bl wX.1 p1.num p1.kids).bind λq24=>
   some (q24,wX.2)
  else
  if (decide (wR.1=1))=true then
   (CC uT wR.2 [(1:Int),-1,1000,2]).bind λwW=>
   (Bl p1.op (Sh.w (p1.num+wW.1)) p1.kids).bind λza=>
   some (za,wW.2)
  else
  if (decide (wR.1=2))=true then
   (Nv N p1.kids).bind λxY=>
   (F5 1).bind λwQ=>
   (Sh.app xY [wQ] 40).bind λl35=>
   (Bl p1.op p1.num l35).bind λq36=>
   some (q36,wR.2)
  else
  if (decide (wR.1=3))=true then
   (CC uT wR.2 [(0:Int),1,2,5,100,-1]).bind λq41=>
   (Ci q41.1).bind λq42=>
   some (q42,q41.2)
  else
   (CC uT wR.2 [(0:Int),1000,-1000,5]).bind λq44=>
   (F5 q44.1).bind λzK=>
   some (zK,q44.2)
def Kz (N:Nat):Nat->(List Int)->Int->AG->Option (AG×Int)
 | 0,_,_,_=>none
 | n+1,uT,uV,p1=>OE N (Kz N n) uT uV p1
def TX (N:Nat)(uT:(List Int))(uV:Int)(p1:AG):Option (AG×Int):=Kz N N uT uV p1
def Kc (uT:(List Int))(uV:Int):Option ((List AI)×Int):=
 (IT uT uV).bind λq3=>
 (Ay uT q3.2 (Sh.len q3.1)).bind λq5=>
 (
  Option.bind (Ay uT q5.2 14) λwJ=>
  if (decide (wJ.1=0))=true then
   (CC uT wJ.2 [(-1:Int),5,0,2]).bind λwD=>
   (CC uT wD.2 [(0:Int),1,5]).bind λxX=>
   (Sh.get q3.1 q5.1).bind λyS=>
   some (xX.2,Sh.put q3.1 q5.1 (AI.mk wD.1 xX.1 []))
  else
  if (decide (wJ.1=1))=true then
   (CC uT wJ.2 [(-1:Int),0,4,5]).bind λwH=>
   (Fz [wH.1]).bind λvk=>
   (Fz [(0:Int),0,0,0]).bind λyv=>
   (Fz ([]:List Int)).bind λwX=>
   (Sh.get q3.1 q5.1).bind λc24=>
   some (wH.2,Sh.put q3.1 q5.1 (AI.mk 0 0 [vk,yv,wX]))
  else
  if (decide (wJ.1=2))=true then
   (Fz [Sh.w (q5.1+1)]).bind λxc=>
   (Sh.get q3.1 q5.1).bind λc28=>
   some (wJ.2,Sh.put q3.1 q5.1 (AI.mk 0 0 [xc]))
  else
  if (decide (wJ.1=3))=true then
   (CC uT wJ.2 [(0:Int),2,1]).bind λq31=>
   (Sh.app q3.1 ([AI.mk 2 q31.1 []]) 40).bind λl32=>
   some (q31.2,l32)
  else
  if (decide (wJ.1=4))=true then
   (Ay uT wJ.2 2).bind λyA=>
   (Fz ([]:List Int)).bind λq36=>
   (Fz [(2:Int)]).bind λq37=>
   (Fz ([]:List Int)).bind λyL=>
   (Fz ([]:List Int)).bind λzJ=>
   (Ay uT yA.2 3).bind λq40=>
   (Sh.sl [q36,q37,yL,zJ] q40.1 (Sh.len [q36,q37,yL,zJ])).bind λl41=>
   (Sh.get q3.1 q5.1).bind λc42=>
   some (q40.2,Sh.put q3.1 q5.1 (AI.mk yA.1 0 l41))
  else
  if (decide (wJ.1=5))=true then
   (Sh.app q3.1 ([AI.mk 0 0 [],AI.mk 3 0 []]) 40).bind λl45=>
   some (wJ.2,l45)
  else
   some (wJ.2,q3.1)
 ).bind λ(f7,l8)=>
 some (l8,f7)
def IC (N:Nat)(uT:(List Int))(uV:Int)(s1:(List Ar))(uW:(List AI)):Option (AP×Int):=
 (Ay uT uV (Sh.len s1)).bind λq3=>
 (Sh.get s1 q3.1).bind λc5=>
 (
  Option.bind (Ay uT q3.2 24) λvv=>
  if (decide (vv.1=0))=true then
   (TX N uT vv.2 c5.body).bind λxX=>
   some (xX.2,Sh.put s1 q3.1 (Ar.mk c5.params c5.result xX.1),uW)
  else
  if (decide (vv.1=1))=true then
   (CC uT vv.2 [(0:Int),1,9,-1]).bind λwR=>
   (DP c5.params [wR.1]).bind λwH=>
   some (wR.2,Sh.put s1 q3.1 (Ar.mk wH c5.result c5.body),uW)
  else
  if (decide (vv.1=2))=true then
   (CC uT vv.2 [(0:Int),1,3,5,-1]).bind λwX=>
   some (wX.2,Sh.put s1 q3.1 (Ar.mk c5.params wX.1 c5.body),uW)
  else
  if (decide (vv.1=3))=true then
   (Kc uT vv.2).bind λxP=>
   some (xP.2,s1,xP.1)
  else
  if (decide (vv.1=4))=true then
   (Sh.app s1 [c5] 72).bind λl29=>
   some (vv.2,l29,uW)
  else
   some (vv.2,s1,uW)
 ).bind λ(f7,l8,f9)=>
 some (AP.mk f9 l8,f7)
def JB (N:Nat)(uT:(List Int))(uV:Int):Option (AP×Int):=
 (IX N uT uV).bind λq3=>
 (IC N uT q3.2 q3.1.funcs q3.1.decls).bind λq4=>
 some (q4.1,q4.2)
end RC
namespace RC
end RC
namespace RC
end RC
namespace RC
def FO (p0:(List Int))(p1:(List Int)):Nat->Int->Option ((Bool) ⊕ (Unit))
 | 0,_=>none
 | n+1,i10=>
  if (decide (i10<(Sh.len p0)))=true then
   (Sh.get p0 i10).bind λwg=>
   (Sh.get p1 i10).bind λwe=>
   if (!decide (wg=we))=true then
    some (Sum.inl false)
   else
    FO p0 p1 n (Sh.w (i10+1))
  else
   some (Sum.inr ())
def GC (N:Nat)(p0:(List Int))(p1:(List Int)):Option (Bool):=
 if (!decide ((Sh.len p0)=(Sh.len p1)))=true then
  some false
 else
  Sh.cont (FO p0 p1 N 0) (id) λ()=>
  some true
def Er (N:Nat)(i10:Int)(p0:(List AI))(p1:(List AI)):Nat->Int->Option ((Bool) ⊕ (Unit))
 | 0,_=>none
 | n+1,k24=>
  (Sh.get p0 i10).bind λc28=>
  if (decide (k24<(Sh.len c28.cons)))=true then
   (Sh.get c28.cons k24).bind λc32=>
   (Sh.get p1 i10).bind λc33=>
   (Sh.get c33.cons k24).bind λc34=>
   (GC N c32.fields c34.fields).bind λyA=>
   if (!yA)=true then
    some (Sum.inl false)
   else
    Er N i10 p0 p1 n (Sh.w (k24+1))
  else
   some (Sum.inr ())
def Ep (N:Nat)(p0:(List AI))(p1:(List AI)):Nat->Int->Option ((Bool) ⊕ (Unit))
 | 0,_=>none
 | n+1,i10=>
  if (decide (i10<(Sh.len p0)))=true then
   (
    Option.bind (Sh.get p0 i10) λc40=>
    (Sh.get p1 i10).bind λc41=>
    if (!decide (c40.from_=c41.from_))=true then
     some true
    else
    if (!decide (c40.to=c41.to))=true then
     some true
    else
     some (!decide ((Sh.len c40.cons)=(Sh.len c41.cons)))
   ).bind λt19=>
   if t19=true then
    some (Sum.inl false)
   else
    Sh.cont (Er N i10 p0 p1 N 0) (λx=>Sum.inl x) λ()=>
    Ep N p0 p1 n (Sh.w (i10+1))
  else
   some (Sum.inr ())
def Hv (N:Nat)(p0:(List AI))(p1:(List AI)):Option (Bool):=
 if (!decide ((Sh.len p0)=(Sh.len p1)))=true then
  some false
 else
  Sh.cont (Ep N p0 p1 N 0) (id) λ()=>
  some true
end RC
namespace RC
def He (N:Nat)(p0:(List Int)):Option (AP):=
 (Jk p0).bind λq3=>
 (JB N q3.1 q3.2).bind λq4=>
 some q4.1
def EV (uV p3:Int):Nat->Int->(List Int)->Option (List Int)
 | 0,_,_=>none
 | n+1,t8,l9=>
  if (decide (t8<p3))=true then
   (Sh.app l9 [Sh.w (uV+t8)] 8).bind λl20=>
   EV uV p3 n (Sh.w (t8+1)) l20
  else
   some l9
def Io (N:Nat)(ue:(List AI)->Int->(List Step)->AG->(List Int)->Option (Int×Int×(List Step)))(uT:(List AI))(uV:Int)(s1:(List Step))(p1:AG)(p2:(List Int))(p3:Int):Option (Block):=
 (Bx p2).bind λq5=>
 (EV uV p3 N 0 q5).bind λl10=>
 (ue uT (Sh.w (uV+p3)) ([]:List Step) p1 l10).bind λvv=>
 some (Block.mk vv.2.2 vv.1)
def HV (uT:(List AI))(uV:Int)(s1:(List Step))(p1:Step):Option (Int×Int×(List Step)):=
 (Sh.app s1 [p1] 72).bind λl3=>
 some (Sh.w ((Sh.w (uV+1))-1),Sh.w (uV+1),l3)
def D4 (N:Nat)(l32:(List AG))(uT:(List AI))(p1:AG)(p2:(List Int))(xI:Int×Int×(List Step))(wW:(List Int))(ue:(List AI)->Int->(List Step)->AG->(List Int)->Option (Int×Int×(List Step))):Nat->Int->(List Block)->Option (List Block)
 | 0,_,_=>none
 | n+1,t33,l34=>
  if (decide (t33<(Sh.len l32)))=true then
   (Sh.get l32 t33).bind λc44=>
   (
    if (decide (p1.op=8))=true then
     (Sh.get wW t33).bind λc54=>
     (Dy N uT c54).bind λq55=>
     some (Sh.len q55)
    else
     some 0
   ).bind λfields47=>
   (Io N ue uT xI.2.1 xI.2.2 c44 p2 fields47).bind λyR=>
   (Sh.app l34 [yR] 32).bind λl50=>
   D4 N l32 uT p1 p2 xI wW ue n (Sh.w (t33+1)) l50
  else
   some l34
def DV (uT:(List AI))(p1:AG)(p2:(List Int))(ue:(List AI)->Int->(List Step)->AG->(List Int)->Option (Int×Int×(List Step))):Nat->Int->Int->(List Step)->(List Int)->Option (Int×(List Step)×(List Int))
 | 0,_,_,_,_=>none
 | n+1,t30,f31,l32,l33=>
  if (decide (t30<(Sh.len p1.kids)))=true then
   (Sh.get p1.kids t30).bind λc45=>
   (ue uT f31 l32 c45 p2).bind λq46=>
   (Sh.app l33 [q46.1] 8).bind λl47=>
   DV uT p1 p2 ue n (Sh.w (t30+1)) q46.2.1 q46.2.2 l47
  else
   some (f31,l32,l33)
def II (N:Nat)(ue:(List AI)->Int->(List Step)->AG->(List Int)->Option (Int×Int×(List Step)))(uT:(List AI))(uV:Int)(s1:(List Step))(p1:AG)(p2:(List Int)):Option (Int×Int×(List Step)):=
 if (decide (p1.op=12))=true then
  (Sh.get p2 p1.num).bind λc7=>
  some (c7,uV,s1)
 else
 if (decide (p1.op=13))=true then
  (Sh.get p1.kids 0).bind λc11=>
  (ue uT uV s1 c11 p2).bind λwJ=>
  (Sh.get p1.kids 1).bind λwT=>
  (Bx p2).bind λwD=>
  (Sh.app wD [wJ.1] 8).bind λl16=>
  (ue uT wJ.2.1 wJ.2.2 wT l16).bind λxA=>
  some (xA.1,xA.2.1,xA.2.2)
 else
  (
   if (decide (p1.op=7))=true then
    some true
   else
    some (decide (p1.op=8))
  ).bind λt20=>
  if t20=true then
   (Sh.get p1.kids 0).bind λc24=>
   (ue uT uV s1 c24 p2).bind λxI=>
   (Ji N uT p1.num).bind λwW=>
   (Sh.sl p1.kids 1 (Sh.len p1.kids)).bind λl32=>
   (D4 N l32 uT p1 p2 xI wW ue N 0 []).bind λl35=>
   (HV uT xI.2.1 xI.2.2 (Step.mk p1.op p1.num 0 [xI.1] l35)).bind λyL=>
   some (yL.1,yL.2.1,yL.2.2)
  else
   (DV uT p1 p2 ue N 0 uV s1 []).bind λ(f34,l35,l36)=>
   (HV uT f34 l35 (Step.mk p1.op p1.num 0 l36 [])).bind λzJ=>
   some (zJ.1,zJ.2.1,zJ.2.2)
def EB (N:Nat):Nat->(List AI)->Int->(List Step)->AG->(List Int)->Option (Int×Int×(List Step))
 | 0,_,_,_,_,_=>none
 | n+1,uT,uV,s1,p1,p2=>II N (EB N n) uT uV s1 p1 p2
def LK (N:Nat)(uT:(List AI))(uV:Int)(s1:(List Step))(p1:AG)(p2:(List Int)):Option (Int×Int×(List Step)):=EB N N uT uV s1 p1 p2
def FK (l26:(List Int)):Nat->Int->(List Int)->Option (List Int)
 | 0,_,_=>none
 | n+1,t29,l30=>
  if (decide (t29<(Sh.len l26)))=true then
   (Sh.get l30 t29).bind λc42=>
   FK l26 n (Sh.w (t29+1)) (Sh.put l30 t29 t29)
  else
   some l30
def FG (N:Nat)(p0:AP):Nat->Int->(List CQ)->Option (List CQ)
 | 0,_,_=>none
 | n+1,t13,wM=>
  if (decide (t13<(Sh.len p0.funcs)))=true then
   (Sh.get p0.funcs t13).bind λc23=>
   (Sh.mk 0 (Sh.len c23.params) 8).bind λl26=>
   (FK l26 N 0 l26).bind λl31=>
   (LK N p0.decls (Sh.len c23.params) ([]:List Step) c23.body l31).bind λwQ=>
   (Bx c23.params).bind λyA=>
   (Sh.app wM ([CQ.mk yA [] c23.result (Block.mk wQ.2.2 wQ.1)]) 88).bind λl36=>
   FG N p0 n (Sh.w (t13+1)) l36
  else
   some wM
def IN (N:Nat)(p0:AP):Option (Ax×Bool):=
 (H7 N p0).bind λq4=>
 if (!q4)=true then
  some (Ax.mk [] [],false)
 else
  (JE N p0.decls).bind λwL=>
  (FG N p0 N 0 []).bind λl15=>
  some (Ax.mk wL l15,true)
def FF (p0 p1:Int):Nat->Int->(List Int)->Option (List Int)
 | 0,_,_=>none
 | n+1,i5,l6=>
  if (decide (i5<p1))=true then
   (Sh.app l6 [Sh.w (p0+i5)] 8).bind λwM=>
   FF p0 p1 n (Sh.w (i5+1)) wM
  else
   some l6
def HT (N:Nat)(p0 p1:Int):Option (List Int):=
 (FF p0 p1 N 0 []).bind λl7=>
 some l7
def G9 (uV:Int)(s1:(List Step))(p1:Step):Option (Int×(List Step)×Int):=
 (
  Option.bind (Sh.app s1 [p1] 72) λl7=>
  some l7
 ).bind λl3=>
 some (Sh.w ((Sh.w (uV+1))-1),l3,Sh.w (uV+1))
def Dn (N:Nat)(p1:AP)(p2:AG)(p3:(List Int))(wX:Int×(List Step)×Int)(xP:(List Int))(uf:AP->AG->(List Int)->Int->Option (Block)):Nat->Int->(List Block)->Option (List Block)
 | 0,_,_=>none
 | n+1,i29,l30=>
  if (decide (i29<(Sh.len p2.kids)))=true then
   (
    if (decide (p2.op=8))=true then
     (Sh.get xP (Sh.w (i29-1))).bind λzb=>
     (BV N p1.decls zb).bind λq51=>
     some (Sh.len q51)
    else
     some 0
   ).bind λmany41=>
   (Sh.get p2.kids i29).bind λc43=>
   (HT N wX.2.2 many41).bind λq44=>
   (DP p3 q44).bind λzK=>
   (uf p1 c43 zK (Sh.w (wX.2.2+many41))).bind λq46=>
   (Sh.app l30 [q46] 32).bind λl47=>
   Dn N p1 p2 p3 wX xP uf n (Sh.w (i29+1)) l47
  else
   some l30
def DL (p1:AP)(p2:AG)(p3:(List Int))(vA:Int->(List Step)->AP->AG->(List Int)->Option (Int×(List Step)×Int)):Nat->Int->Int->(List Int)->(List Step)->Option (Int×(List Int)×(List Step))
 | 0,_,_,_,_=>none
 | n+1,i55,f56,l57,l58=>
  if (decide (i55<(Sh.len p2.kids)))=true then
   (Sh.get p2.kids i55).bind λc70=>
   (vA f56 l58 p1 c70 p3).bind λq71=>
   (Sh.app l57 [q71.1] 8).bind λl72=>
   DL p1 p2 p3 vA n (Sh.w (i55+1)) q71.2.2 l72 q71.2.1
  else
   some (f56,l57,l58)
def Hn (N:Nat)(uf:AP->AG->(List Int)->Int->Option (Block))(vA:Int->(List Step)->AP->AG->(List Int)->Option (Int×(List Step)×Int))(uV:Int)(s1:(List Step))(p1:AP)(p2:AG)(p3:(List Int)):Option (Int×(List Step)×Int):=
 if (decide (p2.op=12))=true then
  (Sh.get p3 p2.num).bind λc7=>
  some (c7,s1,uV)
 else
 if (decide (p2.op=13))=true then
  (Sh.get p2.kids 0).bind λc11=>
  (vA uV s1 p1 c11 p3).bind λwJ=>
  (Sh.get p2.kids 1).bind λwT=>
  (DP p3 [wJ.1]).bind λwD=>
  (vA wJ.2.2 wJ.2.1 p1 wT wD).bind λxX=>
  some (xX.1,xX.2.1,xX.2.2)
 else
  (
   if (decide (p2.op=7))=true then
    some true
   else
    some (decide (p2.op=8))
  ).bind λt18=>
  if t18=true then
   (Sh.get p2.kids 0).bind λc22=>
   (vA uV s1 p1 c22 p3).bind λwX=>
   (Gj N p1.decls p2.num).bind λxP=>
   (Dn N p1 p2 p3 wX xP uf N 1 []).bind λl31=>
   (G9 wX.2.2 wX.2.1 (Step.mk p2.op p2.num 0 [wX.1] l31)).bind λwQ=>
   some (wQ.1,wQ.2.1,wQ.2.2)
  else
   (DL p1 p2 p3 vA N 0 uV [] s1).bind λ(f59,l60,l61)=>
   (G9 f59 l61 (Step.mk p2.op p2.num 0 l60 [])).bind λq64=>
   some (q64.1,q64.2.1,q64.2.2)
def EY (N:Nat)(uf:AP->AG->(List Int)->Int->Option (Block)):Nat->Int->(List Step)->AP->AG->(List Int)->Option (Int×(List Step)×Int)
 | 0,_,_,_,_,_=>none
 | n+1,uV,s1,p1,p2,p3=>Hn N uf (EY N uf n) uV s1 p1 p2 p3
def Is (N:Nat)(uf:AP->AG->(List Int)->Int->Option (Block))(uV:Int)(s1:(List Step))(p1:AP)(p2:AG)(p3:(List Int)):Option (Int×(List Step)×Int):=EY N uf N uV s1 p1 p2 p3
def ID (N:Nat)(uf:AP->AG->(List Int)->Int->Option (Block))(p0:AP)(p1:AG)(p2:(List Int))(p3:Int):Option (Block):=
 (Is N uf p3 ([]:List Step) p0 p1 p2).bind λq4=>
 some (Block.mk q4.2.1 q4.1)
def Eb (N:Nat):Nat->AP->AG->(List Int)->Int->Option (Block)
 | 0,_,_,_,_=>none
 | n+1,p0,p1,p2,p3=>ID N (Eb N n) p0 p1 p2 p3
def Mx (N:Nat)(p0:AP)(p1:AG)(p2:(List Int))(p3:Int):Option (Block):=Eb N N p0 p1 p2 p3
def FD (N:Nat)(p0:AP):Nat->Int->(List CQ)->Option (List CQ)
 | 0,_,_=>none
 | n+1,i6,l7=>
  if (decide (i6<(Sh.len p0.funcs)))=true then
   (Sh.get p0.funcs i6).bind λwu=>
   (HT N 0 (Sh.len wu.params)).bind λwR=>
   (Mx N p0 wu.body wR (Sh.len wu.params)).bind λwH=>
   (EP wu.params).bind λyv=>
   (Sh.app l7 ([CQ.mk yv [] wu.result wH]) 88).bind λzp=>
   FD N p0 n (Sh.w (i6+1)) zp
  else
   some l7
def Lr (N:Nat)(p0:AP):Option (Ax):=
 (Jt N p0.decls).bind λq3=>
 (FD N p0 N 0 []).bind λl8=>
 some (Ax.mk q3 l8)
def IV (N:Nat)(p0:AP):Option (Ax×Bool):=
 (Ec N p0).bind λq4=>
 if (!q4)=true then
  some (Ax.mk [] [],false)
 else
  (Lr N p0).bind λwL=>
  some (wL,true)
def FB (p0 p1:Step)(uu:Block->Block->Option (Bool)):Nat->Int->Option ((Bool) ⊕ (Unit))
 | 0,_=>none
 | n+1,i10=>
  if (decide (i10<(Sh.len p0.kids)))=true then
   (Sh.get p0.kids i10).bind λwg=>
   (Sh.get p1.kids i10).bind λwe=>
   (uu wg we).bind λwH=>
   if (!wH)=true then
    some (Sum.inl false)
   else
    FB p0 p1 uu n (Sh.w (i10+1))
  else
   some (Sum.inr ())
def Jr (N:Nat)(uu:Block->Block->Option (Bool))(p0 p1:Step):Option (Bool):=
 (
  if (!decide (p0.op=p1.op))=true then
   some true
  else
  if (!decide (p0.num=p1.num))=true then
   some true
  else
  if (!decide (p0.Ed=p1.Ed))=true then
   some true
  else
   (GC N p0.args p1.args).bind λwW=>
   if (!wW)=true then
    some true
   else
    some (!decide ((Sh.len p0.kids)=(Sh.len p1.kids)))
 ).bind λt4=>
 if t4=true then
  some false
 else
  Sh.cont (FB p0 p1 uu N 0) (id) λ()=>
  some true
def EA (N:Nat)(p0 p1:Block)(uu:Block->Block->Option (Bool)):Nat->Int->Option ((Bool) ⊕ (Unit))
 | 0,_=>none
 | n+1,i10=>
  if (decide (i10<(Sh.len p0.steps)))=true then
   (Sh.get p0.steps i10).bind λwg=>
   (Sh.get p1.steps i10).bind λwe=>
   (Jr N uu wg we).bind λwH=>
   if (!wH)=true then
    some (Sum.inl false)
   else
    EA N p0 p1 uu n (Sh.w (i10+1))
  else
   some (Sum.inr ())
def JY (N:Nat)(uu:Block->Block->Option (Bool))(p0 p1:Block):Option (Bool):=
 (
  if (!decide (p0.result=p1.result))=true then
   some true
  else
   some (!decide ((Sh.len p0.steps)=(Sh.len p1.steps)))
 ).bind λt4=>
 if t4=true then
  some false
 else
  Sh.cont (EA N p0 p1 uu N 0) (id) λ()=>
  some true
def FC (N:Nat):Nat->Block->Block->Option (Bool)
 | 0,_,_=>none
 | n+1,p0,p1=>JY N (FC N n) p0 p1
def Mn (N:Nat)(p0 p1:Block):Option (Bool):=FC N N p0 p1
def EW (N:Nat)(p0 p1:Ax):Nat->Int->Option ((Bool) ⊕ (Unit))
 | 0,_=>none
 | n+1,i10=>
  if (decide (i10<(Sh.len p0.AU)))=true then
   (Sh.get p0.AU i10).bind λwg=>
   (Sh.get p1.AU i10).bind λxx=>
   (
    Option.bind (GC N wg.params xx.params) λxP=>
    if (!xP)=true then
     some true
    else
     (GC N wg.CE xx.CE).bind λwW=>
     if (!wW)=true then
      some true
     else
     if (!decide (wg.result=xx.result))=true then
      some true
     else
      (Mn N wg.body xx.body).bind λq31=>
      some (!q31)
   ).bind λt22=>
   if t22=true then
    some (Sum.inl false)
   else
    EW N p0 p1 n (Sh.w (i10+1))
  else
   some (Sum.inr ())
def HR (N:Nat)(p0 p1:Ax):Option (Bool):=
 (
  Option.bind (Hv N p0.decls p1.decls) λxb=>
  if (!xb)=true then
   some true
  else
   some (!decide ((Sh.len p0.AU)=(Sh.len p1.AU)))
 ).bind λt4=>
 if t4=true then
  some false
 else
  Sh.cont (EW N p0 p1 N 0) (id) λ()=>
  some true
def EX (N:Nat)(q7:AP)(q9:Ax×Bool):Nat->Int->Option ((Bool) ⊕ (Unit))
 | 0,_=>none
 | n+1,f30=>
  if (decide (f30<(Sh.len q7.funcs)))=true then
   (Sh.get q9.1.AU f30).bind λc39=>
   (
    if (decide (0<(Sh.len c39.CE)))=true then
     some true
    else
     (Sh.get q7.funcs f30).bind λc46=>
     if (!decide (c39.result=c46.result))=true then
      some true
     else
      (GC N c39.params c46.params).bind λq48=>
      some (!q48)
   ).bind λt41=>
   if t41=true then
    some (Sum.inl false)
   else
    EX N q7 q9 n (Sh.w (f30+1))
  else
   some (Sum.inr ())
def KD (N:Nat)(p0:(List Int)):Option (Bool):=
 if (decide (1048576<(Sh.len p0)))=true then
  some true
 else
  (He N p0).bind λq7=>
  (IN N q7).bind λq9=>
  (IV N q7).bind λyM=>
  (
   Option.bind (HR N q9.1 yM.1) λzL=>
   if (!zL)=true then
    some true
   else
   if (q9.2 != yM.2)=true then
    some true
   else
    some (!q9.2)
  ).bind λt14=>
  if t14=true then
   (
    Option.bind (HR N q9.1 yM.1) λwH=>
    if wH=true then
     some (q9.2==yM.2)
    else
     some false
   ).bind λt18=>
   some t18
  else
   (
    Option.bind (I4 N q9.1) λyR=>
    if (!yR)=true then
     some true
    else
     (Ez N q9.1).bind λq51=>
     if (!q51)=true then
      some true
     else
      some (!decide ((Sh.len q9.1.AU)=(Sh.len q7.funcs)))
   ).bind λt24=>
   if t24=true then
    some false
   else
    Sh.cont (EX N q7 q9 N 0) (id) λ()=>
    (Hv N q9.1.decls q7.decls).bind λxY=>
    some xY
end RC
