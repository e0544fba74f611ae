import Derived.Test.YtccficmcdkcpnaaGreatSufF
set_option linter.all false
namespace RC
def I7 (p0:(List Int))(p1:Int):Option (Int):=
 if (decide ((Sh.w (p1-(Sh.len p0)))<0))=true then
  some (-1)
 else
  some (Sh.w (p1-(Sh.len p0)))
def G5 (p0:(List Int)):Nat->Int->(List Int)->Option (List Int)
 | 0,_,_=>none
 | n+1,i6,l7=>
  if (decide (i6<(Sh.len p0)))=true then
   (Sh.get p0 i6).bind λc15=>
   (Sh.get l7 i6).bind λc16=>
   G5 p0 n (Sh.w (i6+1)) (Sh.put l7 i6 c15)
  else
   some l7
def JM (N:Nat)(p0:(List Int)):Option (List Int):=
 (Sh.mk 0 (Sh.len p0) 8).bind λl3=>
 (G5 p0 N 0 l3).bind λl8=>
 some l8
def Bq (p0 p1 p2:Int):Option (Bool):=
 (
  if (decide (p1<=p0))=true then
   some (decide (p0<=p2))
  else
   some false
 ).bind λt3=>
 some t3
def W7 (p0:(List Int)):Nat->Int->Option ((Bool) ⊕ (Unit))
 | 0,_=>none
 | n+1,i4=>
  if (decide (i4<(Sh.len p0)))=true then
   (Sh.get p0 i4).bind λc12=>
   if (!decide (c12=0))=true then
    some (Sum.inl false)
   else
    W7 p0 n (Sh.w (i4+1))
  else
   some (Sum.inr ())
def Bu (p0:(List Int)):Option (List Int):=
 (Sh.app ([]:List Int) p0 8).bind λl6=>
 some l6
def G3 (p0:(List Int))(p1:(List Int)):Nat->Int->Option ((Bool) ⊕ (Unit))
 | 0,_=>none
 | n+1,i10=>
  if (decide (i10<(Sh.len p0)))=true then
   (Sh.get p0 i10).bind λc18=>
   (Sh.get p1 i10).bind λc19=>
   if (!decide (c18=c19))=true then
    some (Sum.inl false)
   else
    G3 p0 p1 n (Sh.w (i10+1))
  else
   some (Sum.inr ())
def JG (N:Nat)(p0:(List Int))(p1:(List Int)):Option (Bool):=
 if (!decide ((Sh.len p0)=(Sh.len p1)))=true then
  some false
 else
  Sh.cont (G3 p0 p1 N 0) (id) λ()=>
  some true
end RC
namespace RC
def OM (p0:Bw)(p1:Int):Option (Int):=
 (I7 p0.fields p1).bind λq3=>
 if (decide (q3<0))=true then
  some (-1)
 else
  some q3
def H0 (p0:(List Bw)):Nat->Int->Int->Option ((Int) ⊕ (Int))
 | 0,_,_=>none
 | n+1,left9,i10=>
  if (decide (i10<(Sh.len p0)))=true then
   (Sh.get p0 i10).bind λc19=>
   (OM c19 left9).bind λq20=>
   if (decide (q20<0))=true then
    some (Sum.inl (-1))
   else
    H0 p0 n q20 (Sh.w (i10+1))
  else
   some (Sum.inr left9)
def Mx (N:Nat)(p0:(List Bw))(p1:Int):Option (Int):=
 if (decide ((Sh.w (p1-(Sh.len p0)))<0))=true then
  some (-1)
 else
  Sh.cont (H0 p0 N (Sh.w (p1-(Sh.len p0))) 0) (id) λleft11=>
  some left11
def NC (N:Nat)(p0:AP)(p1:Int):Option (Int):=
 (Mx N p0.cons p1).bind λq3=>
 if (decide (q3<0))=true then
  some (-1)
 else
  some q3
def HM (N:Nat)(p0:(List AP)):Nat->Int->Int->Option ((Int) ⊕ (Int))
 | 0,_,_=>none
 | n+1,left9,i10=>
  if (decide (i10<(Sh.len p0)))=true then
   (Sh.get p0 i10).bind λc19=>
   (NC N c19 left9).bind λq20=>
   if (decide (q20<0))=true then
    some (Sum.inl (-1))
   else
    HM N p0 n q20 (Sh.w (i10+1))
  else
   some (Sum.inr left9)
def Lu (N:Nat)(p0:(List AP))(p1:Int):Option (Int):=
 if (decide ((Sh.w (p1-(Sh.len p0)))<0))=true then
  some (-1)
 else
  Sh.cont (HM N p0 N (Sh.w (p1-(Sh.len p0))) 0) (id) λleft11=>
  some left11
def OI (N:Nat)(p0:Bw):Option (Bw):=
 (JM N p0.fields).bind λq4=>
 some (Bw.mk q4)
def Hy (N:Nat)(p0:(List Bw)):Nat->Int->(List Bw)->Option (List Bw)
 | 0,_,_=>none
 | n+1,i6,l7=>
  if (decide (i6<(Sh.len p0)))=true then
   (Sh.get p0 i6).bind λc15=>
   (OI N c15).bind λq16=>
   (Sh.get l7 i6).bind λc17=>
   Hy N p0 n (Sh.w (i6+1)) (Sh.put l7 i6 q16)
  else
   some l7
def Mp (N:Nat)(p0:(List Bw)):Option (List Bw):=
 (Sh.mk (Bw.mk []) (Sh.len p0) 24).bind λl3=>
 (Hy N p0 N 0 l3).bind λl8=>
 some l8
def Mr (N:Nat)(p0:AP):Option (AP):=
 (Mp N p0.cons).bind λq6=>
 some (AP.mk p0.from_ p0.to q6)
def HC (N:Nat)(p0:(List AP)):Nat->Int->(List AP)->Option (List AP)
 | 0,_,_=>none
 | n+1,i6,l7=>
  if (decide (i6<(Sh.len p0)))=true then
   (Sh.get p0 i6).bind λc15=>
   (Mr N c15).bind λq16=>
   (Sh.get l7 i6).bind λc17=>
   HC N p0 n (Sh.w (i6+1)) (Sh.put l7 i6 q16)
  else
   some l7
def L6 (N:Nat)(p0:(List AP)):Option (List AP):=
 (Sh.mk (AP.mk 0 0 []) (Sh.len p0) 40).bind λl3=>
 (HC N p0 N 0 l3).bind λl8=>
 some l8
def Gv (p0:(List AP))(p1:(List Int)):Nat->Int->Option ((Bool) ⊕ (Unit))
 | 0,_=>none
 | n+1,i4=>
  if (decide (i4<(Sh.len p1)))=true then
   (Sh.get p1 i4).bind λc12=>
   (Bq c12 0 (Sh.len p0)).bind λq13=>
   if (!q13)=true then
    some (Sum.inl false)
   else
    Gv p0 p1 n (Sh.w (i4+1))
  else
   some (Sum.inr ())
def Js (N:Nat)(p0:(List AP))(p1:(List Int)):Option (Bool):=
 Sh.cont (Gv p0 p1 N 0) (id) λ()=>
 some true
def F8 (N:Nat)(c3:AP)(p0:(List AP)):Nat->Int->Option ((Bool) ⊕ (Unit))
 | 0,_=>none
 | n+1,i15=>
  if (decide (i15<(Sh.len c3.cons)))=true then
   (
    Option.bind (Sh.get c3.cons i15) λc27=>
    if (decide (3<(Sh.len c27.fields)))=true then
     some true
    else
     (Js N p0 c27.fields).bind λq29=>
     some (!q29)
   ).bind λt23=>
   if t23=true then
    some (Sum.inl false)
   else
    F8 N c3 p0 n (Sh.w (i15+1))
  else
   some (Sum.inr ())
def GA (c3:AP)(p0:(List AP))(p1:Int):Nat->Int->Option ((Bool) ⊕ (Unit))
 | 0,_=>none
 | n+1,i34=>
  if (decide (i34<p1))=true then
   (
    Option.bind (Sh.get p0 i34) λc51=>
    if (decide ((Sh.len c51.cons)=0))=true then
     if (decide (c51.from_=c3.from_))=true then
      some (decide (c51.to=c3.to))
     else
      some false
    else
     some false
   ).bind λt47=>
   if t47=true then
    some (Sum.inl false)
   else
    GA c3 p0 p1 n (Sh.w (i34+1))
  else
   some (Sum.inr ())
def KY (N:Nat)(p0:(List AP))(p1:Int):Option (Bool):=
 (Sh.get p0 p1).bind λc3=>
 if (decide (0<(Sh.len c3.cons)))=true then
  (
   if (decide (3<(Sh.len c3.cons)))=true then
    some true
   else
   if (!decide (c3.from_=0))=true then
    some true
   else
    some (!decide (c3.to=0))
  ).bind λt9=>
  if t9=true then
   some false
  else
   Sh.cont (F8 N c3 p0 N 0) (id) λ()=>
   some true
 else
  Sh.cont (GA c3 p0 p1 N 0) (id) λ()=>
  (
   Option.bind (Bq c3.from_ 0 (Sh.len p0)) λq39=>
   if q39=true then
    (Bq c3.to 0 (Sh.len p0)).bind λq41=>
    some q41
   else
    some false
  ).bind λt37=>
  some t37
def FZ (N:Nat)(p0:(List AP)):Nat->Int->Option ((Bool) ⊕ (Unit))
 | 0,_=>none
 | n+1,i8=>
  if (decide (i8<(Sh.len p0)))=true then
   (KY N p0 i8).bind λq16=>
   if (!q16)=true then
    some (Sum.inl false)
   else
    FZ N p0 n (Sh.w (i8+1))
  else
   some (Sum.inr ())
def Ju (N:Nat)(p0:(List AP)):Option (Bool):=
 if (decide (4<(Sh.len p0)))=true then
  some false
 else
  Sh.cont (FZ N p0 N 0) (id) λ()=>
  some true
def E7 (N:Nat)(p0:Ej):Nat->Int->Option ((Bool) ⊕ (Unit))
 | 0,_=>none
 | n+1,i10=>
  if (decide (i10<(Sh.len p0.funcs)))=true then
   (Sh.get p0.funcs i10).bind λc22=>
   (
    if (decide (3<(Sh.len c22.params)))=true then
     some true
    else
     (Js N p0.decls c22.params).bind λq29=>
     if (!q29)=true then
      some true
     else
      (Bq c22.result 0 (Sh.len p0.decls)).bind λq31=>
      some (!q31)
   ).bind λt24=>
   if t24=true then
    some (Sum.inl false)
   else
    E7 N p0 n (Sh.w (i10+1))
  else
   some (Sum.inr ())
def KM (N:Nat)(p0:Ej):Option (Bool):=
 (
  Option.bind (Ju N p0.decls) λq32=>
  if (!q32)=true then
   some true
  else
   (Bq (Sh.len p0.funcs) 1 4).bind λq34=>
   some (!q34)
 ).bind λt4=>
 if t4=true then
  some false
 else
  Sh.cont (E7 N p0 N 0) (id) λ()=>
  (
   Option.bind (Sh.get p0.funcs 0) λc15=>
   if (decide ((Sh.len c15.params)=0))=true then
    some (decide (c15.result=0))
   else
    some false
  ).bind λt13=>
  some t13
def GF (p0:(List Int))(p1:(List Int)):Nat->Int->Option ((Bool) ⊕ (Unit))
 | 0,_=>none
 | n+1,i4=>
  if (decide (i4<(Sh.len p1)))=true then
   (
    Option.bind (Sh.get p1 i4) λc16=>
    (Bq c16 0 (Sh.w ((Sh.len p0)-1))).bind λq17=>
    if (!q17)=true then
     some true
    else
     (Sh.get p0 c16).bind λc19=>
     if (decide (c19=0))=true then
      some true
     else
     if (decide (0<i4))=true then
      (Sh.get p1 (Sh.w (i4-1))).bind λc22=>
      some (decide (c16<=c22))
     else
      some false
   ).bind λt12=>
   if t12=true then
    some (Sum.inl false)
   else
    GF p0 p1 n (Sh.w (i4+1))
  else
   some (Sum.inr ())
def KH (N:Nat)(p0:(List Int))(p1:(List Int)):Option (Bool):=
 Sh.cont (GF p0 p1 N 0) (id) λ()=>
 some true
def JP (p0:Int):Option (Bool):=
 (Bq p0 0 11).bind λq3=>
 some q3
def Fl (p0:(List AP))(p1:Int):Nat->Int->Int->Option (Int)
 | 0,_,_=>none
 | n+1,n5,i6=>
  if (decide (i6<p1))=true then
   (Sh.get p0 i6).bind λc14=>
   Fl p0 p1 n (Sh.w (n5+(Sh.len c14.cons))) (Sh.w (i6+1))
  else
   some n5
def IW (N:Nat)(p0:(List AP))(p1:Int):Option (Int):=
 (Fl p0 p1 N 0 0).bind λn7=>
 some n7
def Ei (N:Nat)(p0:(List AP))(p1:Int):Nat->Int->Option ((Int) ⊕ (Unit))
 | 0,_=>none
 | n+1,i4=>
  if (decide (i4<(Sh.len p0)))=true then
   (IW N p0 i4).bind λq12=>
   (Sh.get p0 i4).bind λc14=>
   (Bq p1 q12 (Sh.w ((Sh.w (q12+(Sh.len c14.cons)))-1))).bind λq15=>
   if q15=true then
    some (Sum.inl (Sh.w (i4+1)))
   else
    Ei N p0 p1 n (Sh.w (i4+1))
  else
   some (Sum.inr ())
def Dp (N:Nat)(p0:(List AP))(p1:Int):Option (Int):=
 Sh.cont (Ei N p0 p1 N 0) (id) λ()=>
 some (-1)
def CK (N:Nat)(p0:(List AP))(p1:Int):Option (List Int):=
 (Dp N p0 p1).bind λq3=>
 if (decide (q3<1))=true then
  some []
 else
  (Sh.get p0 (Sh.w (q3-1))).bind λc9=>
  (IW N p0 (Sh.w (q3-1))).bind λq10=>
  (Sh.get c9.cons (Sh.w (p1-q10))).bind λc11=>
  some c11.fields
def G1 (N:Nat)(p0:(List AP))(p1:Int):Nat->Int->(List Int)->Option (List Int)
 | 0,_,_=>none
 | n+1,i12,l13=>
  (Sh.get p0 (Sh.w (p1-1))).bind λc19=>
  if (decide (i12<(Sh.len c19.cons)))=true then
   (IW N p0 (Sh.w (p1-1))).bind λq22=>
   (Sh.app l13 [Sh.w (q22+i12)] 8).bind λl23=>
   G1 N p0 p1 n (Sh.w (i12+1)) l23
  else
   some l13
def LY (N:Nat)(p0:(List AP))(p1:Int):Option (List Int):=
 (Bq p1 1 (Sh.len p0)).bind λq5=>
 if (!q5)=true then
  some []
 else
  (G1 N p0 p1 N 0 []).bind λl14=>
  some l14
def I9 (p0:(List AP))(p1:Int):Option (Bool):=
 (
  if (decide (0<=p1))=true then
   some (decide (p1<=(Sh.len p0)))
  else
   some false
 ).bind λt3=>
 some t3
def Gl (p0:(List AP))(p1:(List Int)):Nat->Int->Option ((Bool) ⊕ (Unit))
 | 0,_=>none
 | n+1,t4=>
  if (decide (t4<(Sh.len p1)))=true then
   (Sh.get p1 t4).bind λc12=>
   (I9 p0 c12).bind λq14=>
   if (!q14)=true then
    some (Sum.inl false)
   else
    Gl p0 p1 n (Sh.w (t4+1))
  else
   some (Sum.inr ())
def Jp (N:Nat)(p0:(List AP))(p1:(List Int)):Option (Bool):=
 Sh.cont (Gl p0 p1 N 0) (id) λ()=>
 some true
def El (c16:AP)(l28:(List AP)):Nat->Int->Option ((Bool) ⊕ (Unit))
 | 0,_=>none
 | n+1,t29=>
  if (decide (t29<(Sh.len l28)))=true then
   (Sh.get l28 t29).bind λc36=>
   (
    if (decide ((Sh.len c16.cons)=0))=true then
     if (decide ((Sh.len c36.cons)=0))=true then
      if (decide (c36.from_=c16.from_))=true then
       some (decide (c36.to=c16.to))
      else
       some false
     else
      some false
    else
     some false
   ).bind λt38=>
   if t38=true then
    some (Sum.inl false)
   else
    El c16 l28 n (Sh.w (t29+1))
  else
   some (Sum.inr ())
def Eo (N:Nat)(c16:AP)(p0:(List AP)):Nat->Int->Option ((Bool) ⊕ (Unit))
 | 0,_=>none
 | n+1,t25=>
  if (decide (t25<(Sh.len c16.cons)))=true then
   (Sh.get c16.cons t25).bind λc50=>
   (
    if (decide (3<(Sh.len c50.fields)))=true then
     some true
    else
     (Jp N p0 c50.fields).bind λq57=>
     some (!q57)
   ).bind λt52=>
   if t52=true then
    some (Sum.inl false)
   else
    Eo N c16 p0 n (Sh.w (t25+1))
  else
   some (Sum.inr ())
def Fi (N:Nat)(p0:(List AP)):Nat->Int->Option ((Bool) ⊕ (Unit))
 | 0,_=>none
 | n+1,t8=>
  if (decide (t8<(Sh.len p0)))=true then
   (Sh.get p0 t8).bind λc16=>
   (
    Option.bind (I9 p0 c16.from_) λq58=>
    if (!q58)=true then
     some true
    else
     (I9 p0 c16.to).bind λq60=>
     if (!q60)=true then
      some true
     else
     if (decide (3<(Sh.len c16.cons)))=true then
      some true
     else
     if (decide (0<(Sh.len c16.cons)))=true then
      if (!decide (c16.from_=0))=true then
       some true
      else
       some (!decide (c16.to=0))
     else
      some false
   ).bind λt19=>
   if t19=true then
    some (Sum.inl false)
   else
    Sh.cont (Eo N c16 p0 N 0) (λx=>Sum.inl x) λ()=>
    (Sh.sl p0 0 t8).bind λl28=>
    Sh.cont (El c16 l28 N 0) (λx=>Sum.inl x) λ()=>
    Fi N p0 n (Sh.w (t8+1))
  else
   some (Sum.inr ())
def Jd (N:Nat)(p0:(List AP)):Option (Bool):=
 if (decide (4<(Sh.len p0)))=true then
  some false
 else
  Sh.cont (Fi N p0 N 0) (id) λ()=>
  some true
def FM (c18:Aw):Nat->Int->Option ((Bool) ⊕ (Unit))
 | 0,_=>none
 | n+1,t26=>
  if (decide (t26<(Sh.len c18.Aq)))=true then
   (Sh.get c18.Aq t26).bind λc33=>
   (
    if (decide (c33<0))=true then
     some true
    else
    if (decide ((Sh.len c18.params)<=c33))=true then
     some true
    else
     (Sh.get c18.params c33).bind λc41=>
     if (decide (c41=0))=true then
      some true
     else
     if (decide (0<t26))=true then
      (Sh.get c18.Aq (Sh.w (t26-1))).bind λc44=>
      some (decide (c33<=c44))
     else
      some false
   ).bind λt35=>
   if t35=true then
    some (Sum.inl false)
   else
    FM c18 n (Sh.w (t26+1))
  else
   some (Sum.inr ())
def FL (N:Nat)(p0:(List AP))(p1:(List Aw)):Nat->Int->Option ((Bool) ⊕ (Unit))
 | 0,_=>none
 | n+1,t10=>
  if (decide (t10<(Sh.len p1)))=true then
   (Sh.get p1 t10).bind λc18=>
   (
    if (decide (3<(Sh.len c18.params)))=true then
     some true
    else
     (Jp N p0 c18.params).bind λq46=>
     if (!q46)=true then
      some true
     else
      (I9 p0 c18.result).bind λq48=>
      some (!q48)
   ).bind λt21=>
   if t21=true then
    some (Sum.inl false)
   else
    Sh.cont (FM c18 N 0) (λx=>Sum.inl x) λ()=>
    FL N p0 p1 n (Sh.w (t10+1))
  else
   some (Sum.inr ())
def KV (N:Nat)(p0:(List AP))(p1:(List Aw)):Option (Bool):=
 (
  Option.bind (Jd N p0) λq49=>
  if (!q49)=true then
   some true
  else
  if (decide ((Sh.len p1)<1))=true then
   some true
  else
  if (decide (4<(Sh.len p1)))=true then
   some true
  else
   (Sh.get p1 0).bind λc53=>
   if (decide (0<(Sh.len c53.params)))=true then
    some true
   else
    some (!decide (c53.result=0))
 ).bind λt4=>
 if t4=true then
  some false
 else
  Sh.cont (FL N p0 p1 N 0) (id) λ()=>
  some true
def Ft (p0:(List AP)):Nat->Int->Int->Option (Int)
 | 0,_,_=>none
 | n+1,n5,t6=>
  if (decide (t6<(Sh.len p0)))=true then
   (Sh.get p0 t6).bind λc15=>
   Ft p0 n (Sh.w (n5+(Sh.len c15.cons))) (Sh.w (t6+1))
  else
   some n5
def Ky (N:Nat)(p0:(List AP)):Option (Int):=
 (Ft p0 N 0 0).bind λn7=>
 some n7
def G6 (c14:AP)(q10:Int):Nat->Int->(List Int)->Option (List Int)
 | 0,_,_=>none
 | n+1,t15,l16=>
  if (decide (t15<(Sh.len c14.cons)))=true then
   (Sh.app l16 [Sh.w (q10+t15)] 8).bind λl25=>
   G6 c14 q10 n (Sh.w (t15+1)) l25
  else
   some l16
def Mz (N:Nat)(p0:(List AP))(p1:Int):Option (List Int):=
 (
  if (decide (p1<1))=true then
   some true
  else
   some (decide ((Sh.len p0)<p1))
 ).bind λt4=>
 if t4=true then
  some []
 else
  (Sh.sl p0 0 (Sh.w (p1-1))).bind λl9=>
  (Ky N l9).bind λq10=>
  (Sh.get p0 (Sh.w (p1-1))).bind λc14=>
  (G6 c14 q10 N 0 []).bind λl17=>
  some l17
def Gh (p0:(List AP)):Nat->Int->Int->Option ((Int×Bw) ⊕ (Unit))
 | 0,_,_=>none
 | n+1,c4,t5=>
  if (decide (t5<(Sh.len p0)))=true then
   (Sh.get p0 t5).bind λc13=>
   (
    if (decide (0<=c4))=true then
     some (decide (c4<(Sh.len c13.cons)))
    else
     some false
   ).bind λt16=>
   if t16=true then
    (Sh.get c13.cons c4).bind λc20=>
    some (Sum.inl (Sh.w (t5+1),c20))
   else
    Gh p0 n (Sh.w (c4-(Sh.len c13.cons))) (Sh.w (t5+1))
  else
   some (Sum.inr ())
def J2 (N:Nat)(p0:(List AP))(p1:Int):Option (Int×Bw):=
 Sh.cont (Gh p0 N p1 0) (id) λ()=>
 some (-1,Bw.mk [])
def Ik (N:Nat)(p0:(List AP))(p1:Int):Option (List Int):=
 (J2 N p0 p1).bind λq3=>
 some q3.2.fields
def OP (N:Nat)(p0 p1:Bw):Option (Bool):=
 (JG N p0.fields p1.fields).bind λq4=>
 if (!q4)=true then
  some false
 else
  some true
def Hs (N:Nat)(p0:(List Bw))(p1:(List Bw)):Nat->Int->Option ((Bool) ⊕ (Unit))
 | 0,_=>none
 | n+1,i10=>
  if (decide (i10<(Sh.len p0)))=true then
   (Sh.get p0 i10).bind λc18=>
   (Sh.get p1 i10).bind λc19=>
   (OP N c18 c19).bind λq20=>
   if (!q20)=true then
    some (Sum.inl false)
   else
    Hs N p0 p1 n (Sh.w (i10+1))
  else
   some (Sum.inr ())
def Mq (N:Nat)(p0:(List Bw))(p1:(List Bw)):Option (Bool):=
 if (!decide ((Sh.len p0)=(Sh.len p1)))=true then
  some false
 else
  Sh.cont (Hs N p0 p1 N 0) (id) λ()=>
  some true
def ND (N:Nat)(p0 p1:AP):Option (Bool):=
 if (!decide (p0.from_=p1.from_))=true then
  some false
 else
 if (!decide (p0.to=p1.to))=true then
  some false
 else
  (Mq N p0.cons p1.cons).bind λq16=>
  if (!q16)=true then
   some false
  else
   some true
def HH (N:Nat)(p0:(List AP))(p1:(List AP)):Nat->Int->Option ((Bool) ⊕ (Unit))
 | 0,_=>none
 | n+1,i10=>
  if (decide (i10<(Sh.len p0)))=true then
   (Sh.get p0 i10).bind λc18=>
   (Sh.get p1 i10).bind λc19=>
   (ND N c18 c19).bind λq20=>
   if (!q20)=true then
    some (Sum.inl false)
   else
    HH N p0 p1 n (Sh.w (i10+1))
  else
   some (Sum.inr ())
def L5 (N:Nat)(p0:(List AP))(p1:(List AP)):Option (Bool):=
 if (!decide ((Sh.len p0)=(Sh.len p1)))=true then
  some false
 else
  Sh.cont (HH N p0 p1 N 0) (id) λ()=>
  some true
end RC
namespace RC
end RC
namespace RC
def Fp (p0:(List Block))(zY:Block->Int->Option (Int)):Nat->Int->Int->Option ((Int) ⊕ (Int))
 | 0,_,_=>none
 | n+1,left9,i10=>
  if (decide (i10<(Sh.len p0)))=true then
   (Sh.get p0 i10).bind λc19=>
   (zY c19 left9).bind λq20=>
   if (decide (q20<0))=true then
    some (Sum.inl (-1))
   else
    Fp p0 zY n q20 (Sh.w (i10+1))
  else
   some (Sum.inr left9)
def LQ (N:Nat)(zY:Block->Int->Option (Int))(p0:(List Block))(p1:Int):Option (Int):=
 if (decide ((Sh.w (p1-(Sh.len p0)))<0))=true then
  some (-1)
 else
  Sh.cont (Fp p0 zY N (Sh.w (p1-(Sh.len p0))) 0) (id) λleft11=>
  some left11
def My (N:Nat)(zY:Block->Int->Option (Int))(p0:Step)(p1:Int):Option (Int):=
 (I7 p0.args p1).bind λq3=>
 if (decide (q3<0))=true then
  some (-1)
 else
  (LQ N zY p0.kids q3).bind λq9=>
  if (decide (q9<0))=true then
   some (-1)
  else
   some q9
def GL (N:Nat)(p0:(List Step))(zY:Block->Int->Option (Int)):Nat->Int->Int->Option ((Int) ⊕ (Int))
 | 0,_,_=>none
 | n+1,left9,i10=>
  if (decide (i10<(Sh.len p0)))=true then
   (Sh.get p0 i10).bind λc19=>
   (My N zY c19 left9).bind λq20=>
   if (decide (q20<0))=true then
    some (Sum.inl (-1))
   else
    GL N p0 zY n q20 (Sh.w (i10+1))
  else
   some (Sum.inr left9)
def N8 (N:Nat)(zY:Block->Int->Option (Int))(p0:(List Step))(p1:Int):Option (Int):=
 if (decide ((Sh.w (p1-(Sh.len p0)))<0))=true then
  some (-1)
 else
  Sh.cont (GL N p0 zY N (Sh.w (p1-(Sh.len p0))) 0) (id) λleft11=>
  some left11
def L8 (N:Nat)(zY:Block->Int->Option (Int))(p0:Block)(p1:Int):Option (Int):=
 (N8 N zY p0.steps p1).bind λq3=>
 if (decide (q3<0))=true then
  some (-1)
 else
  some q3
def H5 (N:Nat):Nat->Block->Int->Option (Int)
 | 0,_,_=>none
 | n+1,p0,p1=>L8 N (H5 N n) p0 p1
def OB (N:Nat)(p0:Block)(p1:Int):Option (Int):=H5 N N p0 p1
def Fm (p0:(List Block))(zZ:Block->Option (Block)):Nat->Int->(List Block)->Option (List Block)
 | 0,_,_=>none
 | n+1,i6,l7=>
  if (decide (i6<(Sh.len p0)))=true then
   (Sh.get p0 i6).bind λc15=>
   (zZ c15).bind λq16=>
   (Sh.get l7 i6).bind λc17=>
   Fm p0 zZ n (Sh.w (i6+1)) (Sh.put l7 i6 q16)
  else
   some l7
def NH (N:Nat)(zZ:Block->Option (Block))(p0:(List Block)):Option (List Block):=
 (Sh.mk (Block.mk [] 0) (Sh.len p0) 32).bind λl3=>
 (Fm p0 zZ N 0 l3).bind λl8=>
 some l8
def Mw (N:Nat)(zZ:Block->Option (Block))(p0:Step):Option (Step):=
 (JM N p0.args).bind λq7=>
 (NH N zZ p0.kids).bind λq9=>
 some (Step.mk p0.op p0.num p0.BF q7 q9)
def GM (N:Nat)(p0:(List Step))(zZ:Block->Option (Block)):Nat->Int->(List Step)->Option (List Step)
 | 0,_,_=>none
 | n+1,i6,l7=>
  if (decide (i6<(Sh.len p0)))=true then
   (Sh.get p0 i6).bind λc15=>
   (Mw N zZ c15).bind λq16=>
   (Sh.get l7 i6).bind λc17=>
   GM N p0 zZ n (Sh.w (i6+1)) (Sh.put l7 i6 q16)
  else
   some l7
def N4 (N:Nat)(zZ:Block->Option (Block))(p0:(List Step)):Option (List Step):=
 (Sh.mk (Step.mk 0 0 0 [] []) (Sh.len p0) 72).bind λl3=>
 (GM N p0 zZ N 0 l3).bind λl8=>
 some l8
def MM (N:Nat)(zZ:Block->Option (Block))(p0:Block):Option (Block):=
 (N4 N zZ p0.steps).bind λq4=>
 some (Block.mk q4 p0.result)
def H2 (N:Nat):Nat->Block->Option (Block)
 | 0,_=>none
 | n+1,p0=>MM N (H2 N n) p0
def OC (N:Nat)(p0:Block):Option (Block):=H2 N N p0
def EI (i5:Int)(p0:Block)(AAA:Block->Int->Option (Int)):Nat->Int->Int->Option ((Int) ⊕ (Int))
 | 0,_,_=>none
 | n+1,left19,k20=>
  (Sh.get p0.steps i5).bind λc25=>
  if (decide (k20<(Sh.len c25.kids)))=true then
   (Sh.get c25.kids k20).bind λc29=>
   (AAA c29 left19).bind λq30=>
   if (decide (q30<0))=true then
    some (Sum.inl (-1))
   else
    EI i5 p0 AAA n q30 (Sh.w (k20+1))
  else
   some (Sum.inr left19)
def EJ (N:Nat)(p0:Block)(AAA:Block->Int->Option (Int)):Nat->Int->Int->Option ((Int) ⊕ (Int))
 | 0,_,_=>none
 | n+1,left4,i5=>
  if (decide (i5<(Sh.len p0.steps)))=true then
   if (decide (left4<1))=true then
    some (Sum.inl (-1))
   else
    Sh.cont (EI i5 p0 AAA N (Sh.w (left4-1)) 0) (λx=>Sum.inl x) λleft21=>
    EJ N p0 AAA n left21 (Sh.w (i5+1))
  else
   some (Sum.inr left4)
def JL (N:Nat)(AAA:Block->Int->Option (Int))(p0:Block)(p1:Int):Option (Int):=
 Sh.cont (EJ N p0 AAA N p1 0) (id) λleft6=>
 some left6
def EF (N:Nat):Nat->Block->Int->Option (Int)
 | 0,_,_=>none
 | n+1,p0,p1=>JL N (EF N n) p0 p1
def MQ (N:Nat)(p0:Block)(p1:Int):Option (Int):=EF N N p0 p1
def IG (N:Nat)(p0:Block):Option (Int):=
 (MQ N p0 600).bind λq3=>
 if (decide (q3<0))=true then
  some (-1)
 else
  some (Sh.w (600-q3))
def IM (p0:Int):Option (Bool):=
 (Bq p0 14 17).bind λq3=>
 some q3
def D0 (c14:Step)(zu:Int->Block->Option (Bool×Int)):Nat->Int->Int->Option ((Bool×Int) ⊕ (Int))
 | 0,_,_=>none
 | n+1,t21,f22=>
  if (decide (t21<(Sh.len c14.kids)))=true then
   (Sh.get c14.kids t21).bind λc30=>
   (zu f22 c30).bind λq32=>
   if (!q32.1)=true then
    some (Sum.inl (false,q32.2))
   else
    D0 c14 zu n (Sh.w (t21+1)) q32.2
  else
   some (Sum.inr f22)
def D1 (N:Nat)(p0:Block)(zu:Int->Block->Option (Bool×Int)):Nat->Int->Int->Option ((Bool×Int) ⊕ (Int))
 | 0,_,_=>none
 | n+1,t4,f5=>
  if (decide (t4<(Sh.len p0.steps)))=true then
   (Sh.get p0.steps t4).bind λc14=>
   if (decide (600<(Sh.w (f5+1))))=true then
    some (Sum.inl (false,Sh.w (f5+1)))
   else
    Sh.cont (D0 c14 zu N 0 (Sh.w (f5+1))) (λx=>Sum.inl x) λf23=>
    D1 N p0 zu n (Sh.w (t4+1)) f23
  else
   some (Sum.inr f5)
def Ia (N:Nat)(zu:Int->Block->Option (Bool×Int))(zR:Int)(p0:Block):Option (Bool×Int):=
 Sh.cont (D1 N p0 zu N 0 zR) (id) λf6=>
 some (true,f6)
def Ds (N:Nat):Nat->Int->Block->Option (Bool×Int)
 | 0,_,_=>none
 | n+1,zR,p0=>Ia N (Ds N n) zR p0
def Lg (N:Nat)(zR:Int)(p0:Block):Option (Bool×Int):=Ds N N zR p0
def IH (N:Nat)(p0:Block):Option (Int):=
 (Lg N 0 p0).bind λq5=>
 if (!q5.1)=true then
  some (-1)
 else
  some q5.2
def Dh (p0:Int):Option (Bool):=
 (
  if (decide (14<=p0))=true then
   some (decide (p0<=17))
  else
   some false
 ).bind λt3=>
 some t3
def Fk (p0:(List Block))(p1:(List Block))(za:Block->Block->Option (Bool)):Nat->Int->Option ((Bool) ⊕ (Unit))
 | 0,_=>none
 | n+1,i10=>
  if (decide (i10<(Sh.len p0)))=true then
   (Sh.get p0 i10).bind λc18=>
   (Sh.get p1 i10).bind λc19=>
   (za c18 c19).bind λq20=>
   if (!q20)=true then
    some (Sum.inl false)
   else
    Fk p0 p1 za n (Sh.w (i10+1))
  else
   some (Sum.inr ())
def NR (N:Nat)(za:Block->Block->Option (Bool))(p0:(List Block))(p1:(List Block)):Option (Bool):=
 if (!decide ((Sh.len p0)=(Sh.len p1)))=true then
  some false
 else
  Sh.cont (Fk p0 p1 za N 0) (id) λ()=>
  some true
def Mv (N:Nat)(za:Block->Block->Option (Bool))(p0 p1:Step):Option (Bool):=
 if (!decide (p0.op=p1.op))=true then
  some false
 else
 if (!decide (p0.num=p1.num))=true then
  some false
 else
 if (!decide (p0.BF=p1.BF))=true then
  some false
 else
  (JG N p0.args p1.args).bind λq22=>
  if (!q22)=true then
   some false
  else
   (NR N za p0.kids p1.kids).bind λq29=>
   if (!q29)=true then
    some false
   else
    some true
def GQ (N:Nat)(p0:(List Step))(p1:(List Step))(za:Block->Block->Option (Bool)):Nat->Int->Option ((Bool) ⊕ (Unit))
 | 0,_=>none
 | n+1,i10=>
  if (decide (i10<(Sh.len p0)))=true then
   (Sh.get p0 i10).bind λc18=>
   (Sh.get p1 i10).bind λc19=>
   (Mv N za c18 c19).bind λq20=>
   if (!q20)=true then
    some (Sum.inl false)
   else
    GQ N p0 p1 za n (Sh.w (i10+1))
  else
   some (Sum.inr ())
def N9 (N:Nat)(za:Block->Block->Option (Bool))(p0:(List Step))(p1:(List Step)):Option (Bool):=
 if (!decide ((Sh.len p0)=(Sh.len p1)))=true then
  some false
 else
  Sh.cont (GQ N p0 p1 za N 0) (id) λ()=>
  some true
def MI (N:Nat)(za:Block->Block->Option (Bool))(p0 p1:Block):Option (Bool):=
 (N9 N za p0.steps p1.steps).bind λq4=>
 if (!q4)=true then
  some false
 else
 if (!decide (p0.result=p1.result))=true then
  some false
 else
  some true
def Hw (N:Nat):Nat->Block->Block->Option (Bool)
 | 0,_,_=>none
 | n+1,p0,p1=>MI N (Hw N n) p0 p1
def Nz (N:Nat)(p0 p1:Block):Option (Bool):=Hw N N p0 p1
end RC
namespace RC
def Xf (p0:(List Ee))(rec_laws_szExpr:Ee->Int->Option (Int)):Nat->Int->Int->Option ((Int) ⊕ (Int))
 | 0,_,_=>none
 | n+1,left9,i10=>
  if (decide (i10<(Sh.len p0)))=true then
   (Sh.get p0 i10).bind λc19=>
   (rec_laws_szExpr c19 left9).bind λq20=>
   if (decide (q20<0))=true then
    some (Sum.inl (-1))
   else
    Xf p0 rec_laws_szExpr n q20 (Sh.w (i10+1))
  else
   some (Sum.inr left9)
def W6 (p0:Ej)(p1:(List Int))(p2:(List Ee))(p3:Int)(rec_spec_typeOf:Ej->(List Int)->Ee->Option (Int)):Nat->Int->Option ((Bool) ⊕ (Unit))
 | 0,_=>none
 | n+1,i10=>
  if (decide (i10<p3))=true then
   (Sh.get p2 i10).bind λc18=>
   (rec_spec_typeOf p0 p1 c18).bind λq19=>
   if (!decide (q19=0))=true then
    some (Sum.inl false)
   else
    W6 p0 p1 p2 p3 rec_spec_typeOf n (Sh.w (i10+1))
  else
   some (Sum.inr ())
def DB (p0:(List Int)):Option (List Int):=
 (Sh.app ([]:List Int) p0 8).bind λl3=>
 some l3
def IC (p0:(List Int))(p1:(List Int)):Option (List Int):=
 (DB p0).bind λq3=>
 (Sh.app q3 p1 8).bind λl4=>
 some l4
def GV (p0:(List AP))(p1 p2:Int):Nat->Int->Option ((Int) ⊕ (Unit))
 | 0,_=>none
 | n+1,i4=>
  if (decide (i4<(Sh.len p0)))=true then
   (
    Option.bind (Sh.get p0 i4) λc16=>
    if (decide ((Sh.len c16.cons)=0))=true then
     if (decide (c16.from_=p1))=true then
      some (decide (c16.to=p2))
     else
      some false
    else
     some false
   ).bind λt12=>
   if t12=true then
    some (Sum.inl (Sh.w (i4+1)))
   else
    GV p0 p1 p2 n (Sh.w (i4+1))
  else
   some (Sum.inr ())
def Kc (N:Nat)(p0:(List AP))(p1 p2:Int):Option (Int):=
 Sh.cont (GV p0 p1 p2 N 0) (id) λ()=>
 some (-1)
def JW (p0:(List AP))(p1:Int):Option (Bool):=
 (
  Option.bind (Bq p1 1 (Sh.len p0)) λq5=>
  if q5=true then
   (Sh.get p0 (Sh.w (p1-1))).bind λc7=>
   some (decide ((Sh.len c7.cons)=0))
  else
   some false
 ).bind λt3=>
 some t3
def Hi (p1:Int):Option (List Int):=
 if (decide (p1<0))=true then
  none
 else
  (
   if (decide (0<(Sh.w (p1-(Sh.w (0-0))))))=true then
    (Sh.mk 0 (Sh.w (p1-(Sh.w (0-0)))) 8).bind λl12=>
    (Sh.hi l12 0).bind λl13=>
    some l13
   else
    some []
  ).bind λl6=>
  some l6
def Cv (p0:(List (List Int))):Nat->Int->(List Int)->Option (List Int)
 | 0,_,_=>none
 | n+1,t13,l14=>
  if (decide (t13<(Sh.len p0)))=true then
   (Sh.get p0 t13).bind λc23=>
   (Sh.app l14 c23 8).bind λl24=>
   Cv p0 n (Sh.w (t13+1)) l24
  else
   some l14
def Cw (p0:(List (List Int))):Nat->Int->Int->Option (Int)
 | 0,_,_=>none
 | n+1,size5,t6=>
  if (decide (t6<(Sh.len p0)))=true then
   (Sh.get p0 t6).bind λc30=>
   if (decide ((Sh.w (size5+(Sh.len c30)))<0))=true then
    none
   else
    Cw p0 n (Sh.w (size5+(Sh.len c30))) (Sh.w (t6+1))
  else
   some size5
def Dk (N:Nat)(p0:(List (List Int))):Option (List Int):=
 (Cw p0 N 0 0).bind λsize7=>
 (Hi size7).bind λq10=>
 (Cv p0 N 0 q10).bind λl15=>
 some l15
def JQ (p0:(List AP))(p1:Int):Option (AP×Bool):=
 (
  if (decide (p1<1))=true then
   some true
  else
  if (decide ((Sh.len p0)<p1))=true then
   some true
  else
   (Sh.get p0 (Sh.w (p1-1))).bind λc12=>
   some (decide (0<(Sh.len c12.cons)))
 ).bind λt4=>
 if t4=true then
  some (AP.mk 0 0 [],false)
 else
  (Sh.get p0 (Sh.w (p1-1))).bind λc9=>
  some (c9,true)
def Dw (p0:(List Int))(p1:(List Int)):Nat->Int->Option ((Bool) ⊕ (Unit))
 | 0,_=>none
 | n+1,t10=>
  if (decide (t10<(Sh.len p0)))=true then
   (Sh.get p0 t10).bind λc19=>
   (Sh.get p1 t10).bind λc20=>
   if (!decide (c19=c20))=true then
    some (Sum.inl false)
   else
    Dw p0 p1 n (Sh.w (t10+1))
  else
   some (Sum.inr ())
def DR (N:Nat)(p0:(List Int))(p1:(List Int)):Option (Bool):=
 if (!decide ((Sh.len p0)=(Sh.len p1)))=true then
  some false
 else
  Sh.cont (Dw p0 p1 N 0) (id) λ()=>
  some true
def GU (p0:(List AP))(p1 p2:Int):Nat->Int->Option ((Int) ⊕ (Unit))
 | 0,_=>none
 | n+1,t4=>
  if (decide (t4<(Sh.len p0)))=true then
   (Sh.get p0 t4).bind λc12=>
   (
    if (decide ((Sh.len c12.cons)=0))=true then
     if (decide (c12.from_=p1))=true then
      some (decide (c12.to=p2))
     else
      some false
    else
     some false
   ).bind λt14=>
   if t14=true then
    some (Sum.inl (Sh.w (t4+1)))
   else
    GU p0 p1 p2 n (Sh.w (t4+1))
  else
   some (Sum.inr ())
def Lv (N:Nat)(p0:(List AP))(p1 p2:Int):Option (Int):=
 Sh.cont (GU p0 p1 p2 N 0) (id) λ()=>
 some (-1)
def Ak (N:Nat)(p0:Ap)(p1 p2:Int)(p3:(List Int)):Option (Int×Bool):=
 Sh.cont (
  if (decide (p1=0))=true then
   (
    if (decide ((-999)<=p2))=true then
     if (decide (p2<=999))=true then
      some (decide ((Sh.len p3)=0))
     else
      some false
    else
     some false
   ).bind λt15=>
   some (Sum.inl (0,t15))
  else
   (
    if (decide (p1=1))=true then
     some true
    else
    if (decide (p1=2))=true then
     some true
    else
    if (decide (p1=3))=true then
     some true
    else
     some (decide (p1=4))
   ).bind λt20=>
   if t20=true then
    some (Sum.inr [(0:Int),0])
   else
   if (decide (p1=5))=true then
    some (Sum.inr [(0:Int)])
   else
   if (decide (p1=11))=true then
    if (!decide ((Sh.len p3)=2))=true then
     some (Sum.inl (-1,false))
    else
     (Sh.get p3 0).bind λc34=>
     (JQ p0.decls c34).bind λq35=>
     (
      if q35.2=true then
       (Sh.get p3 1).bind λc41=>
       if (decide (c41=q35.1.from_))=true then
        some (decide (p2=0))
       else
        some false
      else
       some false
     ).bind λt38=>
     some (Sum.inl (q35.1.to,t38))
   else
   if (decide (p1=6))=true then
    (J2 N p0.decls p2).bind λq40=>
    (
     if (decide (0<=q40.1))=true then
      (DR N p3 q40.2.fields).bind λq45=>
      some q45
     else
      some false
    ).bind λt42=>
    some (Sum.inl (q40.1,t42))
   else
    (
     if (decide (p1=9))=true then
      some true
     else
      some (decide (p1=10))
    ).bind λt47=>
    if t47=true then
     (
      if (decide (p2<0))=true then
       some true
      else
       some (decide ((Sh.len p0.funcs)<=p2))
     ).bind λt52=>
     if t52=true then
      some (Sum.inl (-1,false))
     else
      (Sh.get p0.funcs p2).bind λc57=>
      if (decide (p1=9))=true then
       (DR N p3 c57.params).bind λq62=>
       some (Sum.inl (c57.result,q62))
      else
      if (decide ((Sh.w ((Sh.len c57.params)-1))<0))=true then
       some (Sum.inl (-1,false))
      else
       (Sh.get c57.params (Sh.w ((Sh.len c57.params)-1))).bind λc69=>
       (Lv N p0.decls c69 c57.result).bind λq70=>
       (
        if (decide (0<=q70))=true then
         (Sh.sl c57.params 0 (Sh.w ((Sh.len c57.params)-1))).bind λl75=>
         (DR N p3 l75).bind λq76=>
         some q76
        else
         some false
       ).bind λt72=>
       some (Sum.inl (q70,t72))
    else
     some (Sum.inl (-1,false))
 ) (id) λl4=>
 (
  if (decide (p2=0))=true then
   (DR N p3 l4).bind λq10=>
   some q10
  else
   some false
 ).bind λt7=>
 some (0,t7)
end RC
namespace RC
def KL (N:Nat)(p0:Ad)(p1:Int):Option (Int):=
 (I7 p0.params p1).bind λq3=>
 if (decide (q3<0))=true then
  some (-1)
 else
  (I7 p0.Aq q3).bind λq9=>
  if (decide (q9<0))=true then
   some (-1)
  else
   (OB N p0.body q9).bind λq15=>
   if (decide (q15<0))=true then
    some (-1)
   else
    some q15
def Fg (N:Nat)(p0:(List Ad)):Nat->Int->Int->Option ((Int) ⊕ (Int))
 | 0,_,_=>none
 | n+1,left9,i10=>
  if (decide (i10<(Sh.len p0)))=true then
   (Sh.get p0 i10).bind λc19=>
   (KL N c19 left9).bind λq20=>
   if (decide (q20<0))=true then
    some (Sum.inl (-1))
   else
    Fg N p0 n q20 (Sh.w (i10+1))
  else
   some (Sum.inr left9)
def Jj (N:Nat)(p0:(List Ad))(p1:Int):Option (Int):=
 if (decide ((Sh.w (p1-(Sh.len p0)))<0))=true then
  some (-1)
 else
  Sh.cont (Fg N p0 N (Sh.w (p1-(Sh.len p0))) 0) (id) λleft11=>
  some left11
def LL (N:Nat)(p0:AL)(p1:Int):Option (Int):=
 (Lu N p0.decls p1).bind λq3=>
 if (decide (q3<0))=true then
  some (-1)
 else
  (Jj N p0.AF q3).bind λq9=>
  if (decide (q9<0))=true then
   some (-1)
  else
   some q9
def KI (N:Nat)(p0:Ad):Option (Ad):=
 (JM N p0.params).bind λq4=>
 (JM N p0.Aq).bind λq6=>
 (OC N p0.body).bind λq9=>
 some (Ad.mk q4 q6 p0.result q9)
def Fe (N:Nat)(p0:(List Ad)):Nat->Int->(List Ad)->Option (List Ad)
 | 0,_,_=>none
 | n+1,i6,l7=>
  if (decide (i6<(Sh.len p0)))=true then
   (Sh.get p0 i6).bind λc15=>
   (KI N c15).bind λq16=>
   (Sh.get l7 i6).bind λc17=>
   Fe N p0 n (Sh.w (i6+1)) (Sh.put l7 i6 q16)
  else
   some l7
def Jk (N:Nat)(p0:(List Ad)):Option (List Ad):=
 (Sh.mk (Ad.mk [] [] 0 (Block.mk [] 0)) (Sh.len p0) 88).bind λl3=>
 (Fe N p0 N 0 l3).bind λl8=>
 some l8
def HW (N:Nat)(p0:AL):Option (AL):=
 (L6 N p0.decls).bind λq4=>
 (Jk N p0.AF).bind λq6=>
 some (AL.mk q4 q6)
def G2 (p0:AL):Nat->Int->(List Kf)->Option (List Kf)
 | 0,_,_=>none
 | n+1,i5,l6=>
  if (decide (i5<(Sh.len p0.AF)))=true then
   (Sh.get p0.AF i5).bind λc14=>
   (Sh.app l6 ([Kf.mk c14.params c14.result (Ee.mk 0 0 [])]) 72).bind λl15=>
   G2 p0 n (Sh.w (i5+1)) l15
  else
   some l6
def NG (N:Nat)(p0:AL):Option (Ej):=
 (G2 p0 N 0 []).bind λl7=>
 some (Ej.mk p0.decls l7)
def Dt (N:Nat)(p0:AL):Nat->Int->Option ((Bool) ⊕ (Unit))
 | 0,_=>none
 | n+1,i10=>
  if (decide (i10<(Sh.len p0.AF)))=true then
   (Sh.get p0.AF i10).bind λc18=>
   (KH N c18.params c18.Aq).bind λq19=>
   if (!q19)=true then
    some (Sum.inl false)
   else
    Dt N p0 n (Sh.w (i10+1))
  else
   some (Sum.inr ())
def G8 (N:Nat)(p0:AL):Option (Bool):=
 (
  if (decide (4<(Sh.len p0.AF)))=true then
   some true
  else
   (NG N p0).bind λq25=>
   (KM N q25).bind λq26=>
   some (!q26)
 ).bind λt4=>
 if t4=true then
  some false
 else
  Sh.cont (Dt N p0 N 0) (id) λ()=>
  some true
def LW (p0:Int):Option (Bool):=
 (
  if (decide (p0=0))=true then
   some true
  else
  if (decide (p0=6))=true then
   some true
  else
  if (decide (p0=8))=true then
   some true
  else
  if (decide (p0=9))=true then
   some true
  else
   some (decide (p0=10))
 ).bind λt3=>
 some t3
def Bp (p0:(List Int))(p1:Step):Option (Bool):=
 if (decide (p1.BF=0))=true then
  some true
 else
  (
   if (decide (p1.op=6))=true then
    (Bq p1.BF 1 (Sh.len p0)).bind λq10=>
    if q10=true then
     (Sh.get p0 (Sh.w (p1.BF-1))).bind λc12=>
     some (decide (0<c12))
    else
     some false
   else
    some false
  ).bind λt7=>
  some t7
def Ih (p0:(List Int))(p1:(List Int))(p2:(List Int)):Nat->Int->Option ((Bool) ⊕ (Unit))
 | 0,_=>none
 | n+1,i10=>
  if (decide (i10<(Sh.len p1)))=true then
   (
    Option.bind (Sh.get p1 i10) λc22=>
    (Bq c22 0 (Sh.w ((Sh.len p0)-1))).bind λq23=>
    if (!q23)=true then
     some true
    else
     (Sh.get p0 c22).bind λc25=>
     (Sh.get p2 i10).bind λc26=>
     some (!decide (c25=c26))
   ).bind λt18=>
   if t18=true then
    some (Sum.inl false)
   else
    Ih p0 p1 p2 n (Sh.w (i10+1))
  else
   some (Sum.inr ())
def CG (N:Nat)(p0:(List Int))(p1:(List Int))(p2:(List Int)):Option (Bool):=
 if (!decide ((Sh.len p1)=(Sh.len p2)))=true then
  some false
 else
  Sh.cont (Ih p0 p1 p2 N 0) (id) λ()=>
  some true
def Gq (N:Nat)(many6:Int)(p0:AL)(p1:(List Int))(p2:Step)(q3:(List Int))(zX:AL->(List Int)->Block->Option (Int)):Nat->Int->Int->Option ((Int) ⊕ (Int))
 | 0,_,_=>none
 | n+1,t17,i18=>
  if (decide (i18<many6))=true then
   (
    if (decide (p2.op=8))=true then
     (Sh.get q3 i18).bind λc43=>
     (CK N p0.decls c43).bind λq44=>
     (IC p1 q44).bind λq45=>
     some q45
    else
     some p1
   ).bind λinner28=>
   (Sh.get p2.kids i18).bind λc31=>
   (zX p0 inner28 c31).bind λq32=>
   (
    if (decide (q32<0))=true then
     some true
    else
    if (decide (0<i18))=true then
     some (!decide (q32=t17))
    else
     some false
   ).bind λt35=>
   if t35=true then
    some (Sum.inl (-1))
   else
    Gq N many6 p0 p1 p2 q3 zX n q32 (Sh.w (i18+1))
  else
   some (Sum.inr t17)
def Ha (N:Nat)(zX:AL->(List Int)->Block->Option (Int))(p0:AL)(p1:(List Int))(p2:Step):Option (Int):=
 (LY N p0.decls p2.num).bind λq3=>
 (
  if (decide (p2.op=7))=true then
   some 2
  else
   some (Sh.len q3)
 ).bind λmany6=>
 (
  if (decide (many6=0))=true then
   some true
  else
   some (!decide ((Sh.len p2.kids)=many6))
 ).bind λt10=>
 if t10=true then
  some (-1)
 else
  Sh.cont (Gq N many6 p0 p1 p2 q3 zX N 0 0) (id) λt19=>
  some t19
def Fo (N:Nat)(p0:AL)(p1:(List Int))(p2:Step):Option (Int):=
 (Bq p2.num 0 (Sh.w ((Sh.len p0.AF)-1))).bind λq4=>
 if (!q4)=true then
  some (-1)
 else
  (Sh.get p0.AF p2.num).bind λc10=>
  if (decide (p2.op=9))=true then
   (CG N p1 p2.args c10.params).bind λq17=>
   if (!q17)=true then
    some (-1)
   else
    some c10.result
  else
   (
    if (decide ((Sh.len c10.params)=0))=true then
     some true
    else
    if (decide (0<(Sh.len c10.Aq)))=true then
     some true
    else
     (Sh.sl c10.params 0 (Sh.w ((Sh.len c10.params)-1))).bind λl34=>
     (CG N p1 p2.args l34).bind λq35=>
     some (!q35)
   ).bind λt25=>
   if t25=true then
    some (-1)
   else
    (Sh.get c10.params (Sh.w ((Sh.len c10.params)-1))).bind λc30=>
    (Kc N p0.decls c30 c10.result).bind λq31=>
    some q31
def HF (p0:AL)(p1:(List Int))(p2:Step):Option (Int):=
 (
  if (!decide ((Sh.len p2.args)=1))=true then
   some true
  else
   (Sh.get p2.args 0).bind λc21=>
   (Bq c21 0 (Sh.w ((Sh.len p1)-1))).bind λq22=>
   if (!q22)=true then
    some true
   else
    (Sh.get p1 c21).bind λc24=>
    some (decide (c24=0))
 ).bind λt4=>
 if t4=true then
  some (-1)
 else
  (
   if (!decide (p2.op=14))=true then
    if (!decide (p2.op=15))=true then
     (Sh.get p2.args 0).bind λc17=>
     (Sh.get p1 c17).bind λc18=>
     (JW p0.decls c18).bind λq19=>
     some q19
    else
     some false
   else
    some false
  ).bind λt10=>
  if t10=true then
   some (-1)
  else
   some 0
def FP (N:Nat)(zX:AL->(List Int)->Block->Option (Int))(p0:AL)(p1:(List Int))(p2:Step):Option (Int):=
 (
  if (!decide (p2.num=0))=true then
   (LW p2.op).bind λq105=>
   if (!q105)=true then
    some true
   else
    (Bp p1 p2).bind λq107=>
    if (!q107)=true then
     some true
    else
    if (decide (0<(Sh.len p2.kids)))=true then
     if (!decide (p2.op=7))=true then
      some (!decide (p2.op=8))
     else
      some false
    else
     some false
  else
   (Bp p1 p2).bind λq111=>
   if (!q111)=true then
    some true
   else
   if (decide (0<(Sh.len p2.kids)))=true then
    if (!decide (p2.op=7))=true then
     some (!decide (p2.op=8))
    else
     some false
   else
    some false
 ).bind λt4=>
 if t4=true then
  some (-1)
 else
  Sh.cont (
   if (decide (p2.op=0))=true then
    (
     if (decide ((Sh.len p2.args)=0))=true then
      (Bq p2.num (-999) 999).bind λq20=>
      some q20
     else
      some false
    ).bind λt15=>
    if t15=true then
     some (Sum.inl 0)
    else
     some (Sum.inr ())
   else
    (
     if (decide (p2.op=1))=true then
      some true
     else
     if (decide (p2.op=2))=true then
      some true
     else
     if (decide (p2.op=3))=true then
      some true
     else
      some (decide (p2.op=4))
    ).bind λt22=>
    if t22=true then
     (CG N p1 p2.args [(0:Int),0]).bind λq26=>
     if q26=true then
      some (Sum.inl 0)
     else
      some (Sum.inr ())
    else
    if (decide (p2.op=5))=true then
     (CG N p1 p2.args [(0:Int)]).bind λq32=>
     if q32=true then
      some (Sum.inl 0)
     else
      some (Sum.inr ())
    else
    if (decide (p2.op=6))=true then
     (
      Option.bind (Dp N p0.decls p2.num) λq43=>
      if (decide (0<q43))=true then
       (CK N p0.decls p2.num).bind λq45=>
       (CG N p1 p2.args q45).bind λq46=>
       some q46
      else
       some false
     ).bind λt38=>
     if t38=true then
      (Dp N p0.decls p2.num).bind λq42=>
      some (Sum.inl q42)
     else
      some (Sum.inr ())
    else
    if (decide (p2.op=7))=true then
     (CG N p1 p2.args [(0:Int)]).bind λq50=>
     if q50=true then
      (Ha N zX p0 p1 p2).bind λq53=>
      some (Sum.inl q53)
     else
      some (Sum.inr ())
    else
    if (decide (p2.op=8))=true then
     (CG N p1 p2.args [p2.num]).bind λq57=>
     if q57=true then
      (Ha N zX p0 p1 p2).bind λq60=>
      some (Sum.inl q60)
     else
      some (Sum.inr ())
    else
     (
      if (decide (p2.op=9))=true then
       some true
      else
       some (decide (p2.op=10))
     ).bind λt62=>
     if t62=true then
      (Fo N p0 p1 p2).bind λq66=>
      some (Sum.inl q66)
     else
     if (decide (p2.op=11))=true then
      (
       if (decide ((Sh.len p2.args)=2))=true then
        (Sh.get p2.args 0).bind λc79=>
        (Bq c79 0 (Sh.w ((Sh.len p1)-1))).bind λq80=>
        if q80=true then
         (Sh.get p1 c79).bind λc82=>
         (JW p0.decls c82).bind λq83=>
         some q83
        else
         some false
       else
        some false
      ).bind λt70=>
      if t70=true then
       (Sh.get p2.args 0).bind λc74=>
       (Sh.get p1 c74).bind λc75=>
       (Sh.get p0.decls (Sh.w (c75-1))).bind λc76=>
       (Sh.sl p2.args 1 (Sh.len p2.args)).bind λl79=>
       (CG N p1 l79 [c76.from_]).bind λq80=>
       if q80=true then
        some (Sum.inl c76.to)
       else
        some (Sum.inr ())
      else
       some (Sum.inr ())
     else
      (
       if (decide (p2.op=14))=true then
        some true
       else
       if (decide (p2.op=15))=true then
        some true
       else
       if (decide (p2.op=16))=true then
        some true
       else
        some (decide (p2.op=17))
      ).bind λt85=>
      if t85=true then
       (HF p0 p1 p2).bind λq89=>
       some (Sum.inl q89)
      else
       some (Sum.inr ())
  ) (id) λ()=>
  some (-1)
def Bh (N:Nat)(p0:AL)(p2:Block)(zX:AL->(List Int)->Block->Option (Int)):Nat->Int->(List Int)->Option ((Int) ⊕ (List Int))
 | 0,_,_=>none
 | n+1,i6,l7=>
  if (decide (i6<(Sh.len p2.steps)))=true then
   Sh.cont (
    (Sh.get p2.steps i6).bind λc26=>
    (FP N zX p0 l7 c26).bind λq27=>
    if (decide (q27<0))=true then
     some (Sum.inl (Sum.inl (-1)))
    else
     (JP c26.op).bind λq33=>
     if q33=true then
      (Sh.app l7 [q27] 8).bind λl35=>
      some (Sum.inr l35)
     else
      some (Sum.inr l7)
   ) (id) λl23=>
   Bh N p0 p2 zX n (Sh.w (i6+1)) l23
  else
   some (Sum.inr l7)
def Dm (N:Nat)(zX:AL->(List Int)->Block->Option (Int))(p0:AL)(p1:(List Int))(p2:Block):Option (Int):=
 (DB p1).bind λq3=>
 Sh.cont (Bh N p0 p2 zX N 0 q3) (id) λl8=>
 (Bq p2.result 0 (Sh.w ((Sh.len l8)-1))).bind λq12=>
 if (!q12)=true then
  some (-1)
 else
  (Sh.get l8 p2.result).bind λc18=>
  some c18
def Dn (N:Nat):Nat->AL->(List Int)->Block->Option (Int)
 | 0,_,_,_=>none
 | n+1,p0,p1,p2=>Dm N (Dn N n) p0 p1 p2
def Br (N:Nat)(p0:AL)(p1:(List Int))(p2:Block):Option (Int):=Dn N N p0 p1 p2
def DF (N:Nat)(p0:AL):Nat->Int->Option ((Bool) ⊕ (Unit))
 | 0,_=>none
 | n+1,i11=>
  if (decide (i11<(Sh.len p0.AF)))=true then
   (Sh.get p0.AF i11).bind λc19=>
   (
    Option.bind (IG N c19.body) λq25=>
    if (decide (q25<0))=true then
     some true
    else
     (Br N p0 c19.params c19.body).bind λq27=>
     some (!decide (q27=c19.result))
   ).bind λt21=>
   if t21=true then
    some (Sum.inl false)
   else
    DF N p0 n (Sh.w (i11+1))
  else
   some (Sum.inr ())
def Fs (N:Nat)(p0:AL):Option (Bool):=
 (G8 N p0).bind λq4=>
 if (!q4)=true then
  some false
 else
  Sh.cont (DF N p0 N 0) (id) λ()=>
  some true
def Dz (i4:Int)(p0:Block)(zw:Block->Option (Bool)):Nat->Int->Option ((Bool) ⊕ (Unit))
 | 0,_=>none
 | n+1,k18=>
  (Sh.get p0.steps i4).bind λc22=>
  if (decide (k18<(Sh.len c22.kids)))=true then
   (Sh.get c22.kids k18).bind λc26=>
   (zw c26).bind λq27=>
   if (!q27)=true then
    some (Sum.inl false)
   else
    Dz i4 p0 zw n (Sh.w (k18+1))
  else
   some (Sum.inr ())
def Eu (N:Nat)(p0:Block)(zw:Block->Option (Bool)):Nat->Int->Option ((Bool) ⊕ (Unit))
 | 0,_=>none
 | n+1,i4=>
  if (decide (i4<(Sh.len p0.steps)))=true then
   (
    Option.bind (Sh.get p0.steps i4) λc32=>
    (IM c32.op).bind λq33=>
    if q33=true then
     some true
    else
     some (!decide (c32.BF=0))
   ).bind λt13=>
   if t13=true then
    some (Sum.inl false)
   else
    Sh.cont (Dz i4 p0 zw N 0) (λx=>Sum.inl x) λ()=>
    Eu N p0 zw n (Sh.w (i4+1))
  else
   some (Sum.inr ())
def KC (N:Nat)(zw:Block->Option (Bool))(p0:Block):Option (Bool):=
 Sh.cont (Eu N p0 zw N 0) (id) λ()=>
 some true
def GG (N:Nat):Nat->Block->Option (Bool)
 | 0,_=>none
 | n+1,p0=>KC N (GG N n) p0
def LU (N:Nat)(p0:Block):Option (Bool):=GG N N p0
def HP (N:Nat)(p0:AL):Nat->Int->Option ((Bool) ⊕ (Unit))
 | 0,_=>none
 | n+1,i11=>
  if (decide (i11<(Sh.len p0.AF)))=true then
   (Sh.get p0.AF i11).bind λc19=>
   (LU N c19.body).bind λq20=>
   if (!q20)=true then
    some (Sum.inl false)
   else
    HP N p0 n (Sh.w (i11+1))
  else
   some (Sum.inr ())
def JX (N:Nat)(p0:AL):Option (Bool):=
 (Fs N p0).bind λq4=>
 if (!q4)=true then
  some false
 else
  Sh.cont (HP N p0 N 0) (id) λ()=>
  some true
def Qc (N:Nat)(p0:AL):Option (Bool):=
 (JX N p0).bind λq3=>
 some q3
def D4 (p0:AL):Nat->Int->(List Aw)->Option (List Aw)
 | 0,_,_=>none
 | n+1,t9,l10=>
  if (decide (t9<(Sh.len p0.AF)))=true then
   (Sh.get p0.AF t9).bind λc20=>
   (Sh.app l10 [Aw.mk c20.params c20.Aq c20.result] 56).bind λl21=>
   D4 p0 n (Sh.w (t9+1)) l21
  else
   some l10
def G9 (N:Nat)(p0:AL):Option (Ap×Bool):=
 if (decide (4<(Sh.len p0.AF)))=true then
  some (Ap.mk [] [],false)
 else
  (D4 p0 N 0 []).bind λl11=>
  (KV N p0.decls l11).bind λq14=>
  some (Ap.mk p0.decls l11,q14)
def Ct (N:Nat)(p0:Ap)(p1:(List Int))(p2:(List Block))(p3:(List (List Int)))(zV:Ap->(List Int)->Block->Option (Int)):Nat->Int->Int->Option ((Int×Bool) ⊕ (Int))
 | 0,_,_=>none
 | n+1,result5,t6=>
  if (decide (t6<(Sh.len p2)))=true then
   (Sh.get p2 t6).bind λc15=>
   (Sh.get p3 t6).bind λc17=>
   (Dk N [p1,c17]).bind λq18=>
   (zV p0 q18 c15).bind λq19=>
   (
    if (decide (q19<0))=true then
     some true
    else
    if (decide (0<t6))=true then
     some (!decide (q19=result5))
    else
     some false
   ).bind λt22=>
   if t22=true then
    some (Sum.inl (-1,false))
   else
    Ct N p0 p1 p2 p3 zV n q19 (Sh.w (t6+1))
  else
   some (Sum.inr result5)
def Cx (N:Nat)(zV:Ap->(List Int)->Block->Option (Int))(p0:Ap)(p1:(List Int))(p2:(List Block))(p3:(List (List Int))):Option (Int×Bool):=
 Sh.cont (Ct N p0 p1 p2 p3 zV N (-1) 0) (id) λresult7=>
 some (result7,true)
def CI (N:Nat)(p0:Ap)(q5:(List Int)):Nat->Int->(List (List Int))->Option (List (List Int))
 | 0,_,_=>none
 | n+1,t6,l7=>
  if (decide (t6<(Sh.len q5)))=true then
   (Sh.get q5 t6).bind λc16=>
   (Ik N p0.decls c16).bind λq17=>
   (Sh.app l7 [q17] 24).bind λl18=>
   CI N p0 q5 n (Sh.w (t6+1)) l18
  else
   some l7
def Cc (N:Nat)(p0:Ap)(p1:Int):Option (List (List Int)):=
 (Mz N p0.decls p1).bind λq5=>
 (CI N p0 q5 N 0 []).bind λl8=>
 some l8
def Bt (p1:(List Int))(p2:Step):Nat->Int->(List Int)->Option ((Int×Bool) ⊕ (List Int))
 | 0,_,_=>none
 | n+1,t6,l7=>
  if (decide (t6<(Sh.len p2.args)))=true then
   (Sh.get p2.args t6).bind λc94=>
   (
    if (decide (c94<0))=true then
     some true
    else
     some (decide ((Sh.len p1)<=c94))
   ).bind λt97=>
   if t97=true then
    some (Sum.inl (-1,false))
   else
    (Sh.get p1 c94).bind λc101=>
    (Sh.app l7 [c101] 8).bind λl102=>
    Bt p1 p2 n (Sh.w (t6+1)) l102
  else
   some (Sum.inr l7)
def Bx (N:Nat)(zV:Ap->(List Int)->Block->Option (Int))(p0:Ap)(p1:(List Int))(p2:Step):Option (Int×Bool):=
 (Sh.mk 0 (Sh.len p2.args) 8).bind λl3=>
 Sh.cont (Bt p1 p2 N 0 []) (id) λl8=>
 (
  if (!decide (p2.BF=0))=true then
   if (!decide (p2.op=6))=true then
    some true
   else
   if (decide (p2.BF<1))=true then
    some true
   else
   if (decide ((Sh.len p1)<p2.BF))=true then
    some true
   else
    (Sh.get p1 (Sh.w (p2.BF-1))).bind λc88=>
    some (decide (c88=0))
  else
   some false
 ).bind λt12=>
 if t12=true then
  some (-1,false)
 else
  (Dh p2.op).bind λq18=>
  if q18=true then
   (
    if (decide ((Sh.len l8)=1))=true then
     (Sh.get l8 0).bind λc38=>
     if (!decide (c38=0))=true then
      if (decide (p2.num=0))=true then
       some (decide ((Sh.len p2.kids)=0))
      else
       some false
     else
      some false
    else
     some false
   ).bind λok21=>
   (
    Option.bind (
     if ok21=true then
      if (decide (p2.op=16))=true then
       some true
      else
       some (decide (p2.op=17))
     else
      some false
    ) λt28=>
    if t28=true then
     (Sh.get l8 0).bind λc32=>
     (JQ p0.decls c32).bind λq33=>
     some (!q33.2)
    else
     some ok21
   ).bind λok24=>
   some (-1,ok24)
  else
  if (decide (p2.op=7))=true then
   (
    if (!decide ((Sh.len l8)=1))=true then
     some true
    else
     (Sh.get l8 0).bind λc53=>
     if (!decide (c53=0))=true then
      some true
     else
     if (!decide (p2.num=0))=true then
      some true
     else
      some (!decide ((Sh.len p2.kids)=2))
   ).bind λt45=>
   if t45=true then
    some (-1,false)
   else
    (Sh.mk [] 2 24).bind λl50=>
    (Cx N zV p0 p1 p2.kids l50).bind λq51=>
    some (q51.1,q51.2)
  else
  if (decide (p2.op=8))=true then
   (Cc N p0 p2.num).bind λq59=>
   (
    if (!decide ((Sh.len l8)=1))=true then
     some true
    else
     (Sh.get l8 0).bind λc69=>
     if (!decide (c69=p2.num))=true then
      some true
     else
     if (decide ((Sh.len q59)=0))=true then
      some true
     else
      some (!decide ((Sh.len p2.kids)=(Sh.len q59)))
   ).bind λt62=>
   if t62=true then
    some (-1,false)
   else
    (Cx N zV p0 p1 p2.kids q59).bind λq67=>
    some (q67.1,q67.2)
  else
   (
    if (decide (0<(Sh.len p2.kids)))=true then
     some true
    else
    if (decide (p2.op=10))=true then
     if (decide (0<=p2.num))=true then
      if (decide (p2.num<(Sh.len p0.funcs)))=true then
       (Sh.get p0.funcs p2.num).bind λc83=>
       some (decide (0<(Sh.len c83.Aq)))
      else
       some false
     else
      some false
    else
     some false
   ).bind λt73=>
   if t73=true then
    some (-1,false)
   else
    (Ak N p0 p2.op p2.num l8).bind λq78=>
    some (q78.1,q78.2)
def BZ (N:Nat)(p0:Ap)(p2:Block)(zV:Ap->(List Int)->Block->Option (Int)):Nat->Int->(List Int)->Option ((Int) ⊕ (List Int))
 | 0,_,_=>none
 | n+1,t6,l7=>
  if (decide (t6<(Sh.len p2.steps)))=true then
   Sh.cont (
    (Sh.get p2.steps t6).bind λc26=>
    (Bx N zV p0 l7 c26).bind λq28=>
    if (!q28.2)=true then
     some (Sum.inl (Sum.inl (-1)))
    else
     (Dh c26.op).bind λq36=>
     if (!q36)=true then
      (Sh.app l7 [q28.1] 8).bind λl39=>
      some (Sum.inr l39)
     else
      some (Sum.inr l7)
   ) (id) λl23=>
   BZ N p0 p2 zV n (Sh.w (t6+1)) l23
  else
   some (Sum.inr l7)
def Di (N:Nat)(zV:Ap->(List Int)->Block->Option (Int))(p0:Ap)(p1:(List Int))(p2:Block):Option (Int):=
 (Bu p1).bind λq3=>
 Sh.cont (BZ N p0 p2 zV N 0 q3) (id) λl8=>
 (
  if (decide (p2.result<0))=true then
   some true
  else
   some (decide ((Sh.len l8)<=p2.result))
 ).bind λt12=>
 if t12=true then
  some (-1)
 else
  (Sh.get l8 p2.result).bind λc17=>
  some c17
def Cq (N:Nat):Nat->Ap->(List Int)->Block->Option (Int)
 | 0,_,_,_=>none
 | n+1,p0,p1,p2=>Di N (Cq N n) p0 p1 p2
def Bn (N:Nat)(p0:Ap)(p1:(List Int))(p2:Block):Option (Int):=Cq N N p0 p1 p2
def FG (N:Nat)(p0:AL)(q3:Ap×Bool):Nat->Int->Option ((Bool) ⊕ (Unit))
 | 0,_=>none
 | n+1,t12=>
  if (decide (t12<(Sh.len p0.AF)))=true then
   (Sh.get p0.AF t12).bind λc20=>
   (
    Option.bind (IH N c20.body) λq26=>
    if (decide (q26<0))=true then
     some true
    else
     (Bn N q3.1 c20.params c20.body).bind λq28=>
     some (!decide (q28=c20.result))
   ).bind λt22=>
   if t22=true then
    some (Sum.inl false)
   else
    FG N p0 q3 n (Sh.w (t12+1))
  else
   some (Sum.inr ())
def JE (N:Nat)(p0:AL):Option (Bool):=
 (G9 N p0).bind λq3=>
 if (!q3.2)=true then
  some false
 else
  Sh.cont (FG N p0 q3 N 0) (id) λ()=>
  some true
def HZ (zR:Bool)(p0:Step):Option (Bool):=
 if zR=true then
  (Dh p0.op).bind λq3=>
  if (!q3)=true then
   some (decide (p0.BF=0))
  else
   some false
 else
  some false
def Dy (c13:Step)(zy:Bool->Block->Option (Bool)):Nat->Int->Bool->Option (Bool)
 | 0,_,_=>none
 | n+1,t17,f18=>
  if (decide (t17<(Sh.len c13.kids)))=true then
   (Sh.get c13.kids t17).bind λc26=>
   (zy f18 c26).bind λq27=>
   Dy c13 zy n (Sh.w (t17+1)) q27
  else
   some f18
def D3 (N:Nat)(p0:Block)(zy:Bool->Block->Option (Bool)):Nat->Int->Bool->Option (Bool)
 | 0,_,_=>none
 | n+1,t4,f5=>
  if (decide (t4<(Sh.len p0.steps)))=true then
   (Sh.get p0.steps t4).bind λc13=>
   (HZ f5 c13).bind λq15=>
   (Dy c13 zy N 0 q15).bind λf19=>
   D3 N p0 zy n (Sh.w (t4+1)) f19
  else
   some f5
def J7 (N:Nat)(zy:Bool->Block->Option (Bool))(zR:Bool)(p0:Block):Option (Bool):=
 (D3 N p0 zy N 0 zR).bind λf6=>
 some f6
def F9 (N:Nat):Nat->Bool->Block->Option (Bool)
 | 0,_,_=>none
 | n+1,zR,p0=>J7 N (F9 N n) zR p0
def Nc (N:Nat)(zR:Bool)(p0:Block):Option (Bool):=F9 N N zR p0
def Im (N:Nat)(p0:Block):Option (Bool):=
 (Nc N true p0).bind λq4=>
 some q4
def HN (N:Nat)(p0:AL):Nat->Int->Option ((Bool) ⊕ (Unit))
 | 0,_=>none
 | n+1,t11=>
  if (decide (t11<(Sh.len p0.AF)))=true then
   (Sh.get p0.AF t11).bind λc19=>
   (Im N c19.body).bind λq21=>
   if (!q21)=true then
    some (Sum.inl false)
   else
    HN N p0 n (Sh.w (t11+1))
  else
   some (Sum.inr ())
def Lx (N:Nat)(p0:AL):Option (Bool):=
 (JE N p0).bind λq4=>
 if (!q4)=true then
  some false
 else
  Sh.cont (HN N p0 N 0) (id) λ()=>
  some true
def KG (N:Nat)(p0 p1:Ad):Option (Bool):=
 (JG N p0.params p1.params).bind λq4=>
 if (!q4)=true then
  some false
 else
  (JG N p0.Aq p1.Aq).bind λq11=>
  if (!q11)=true then
   some false
  else
  if (!decide (p0.result=p1.result))=true then
   some false
  else
   (Nz N p0.body p1.body).bind λq24=>
   if (!q24)=true then
    some false
   else
    some true
def Ff (N:Nat)(p0:(List Ad))(p1:(List Ad)):Nat->Int->Option ((Bool) ⊕ (Unit))
 | 0,_=>none
 | n+1,i10=>
  if (decide (i10<(Sh.len p0)))=true then
   (Sh.get p0 i10).bind λc18=>
   (Sh.get p1 i10).bind λc19=>
   (KG N c18 c19).bind λq20=>
   if (!q20)=true then
    some (Sum.inl false)
   else
    Ff N p0 p1 n (Sh.w (i10+1))
  else
   some (Sum.inr ())
def Jt (N:Nat)(p0:(List Ad))(p1:(List Ad)):Option (Bool):=
 if (!decide ((Sh.len p0)=(Sh.len p1)))=true then
  some false
 else
  Sh.cont (Ff N p0 p1 N 0) (id) λ()=>
  some true
def Hf (N:Nat)(p0 p1:AL):Option (Bool):=
 (L5 N p0.decls p1.decls).bind λq4=>
 if (!q4)=true then
  some false
 else
  (Jt N p0.AF p1.AF).bind λq11=>
  if (!q11)=true then
   some false
  else
   some true
end RC
namespace RC
def Dd (p0:(List AP)):Option (List AP):=
 (Sh.app ([]:List AP) p0 40).bind λl6=>
 some l6
def DC (p0:(List Bw)):Option (List Bw):=
 (Sh.app ([]:List Bw) p0 24).bind λl6=>
 some l6
end RC
namespace RC
def Em (cs:List Bw):Nat->Int->List Bw->Option (List Bw)
 | 0,_,_=>none
 | n+1,i,q=>
  if decide (i<Sh.len cs)=true then
   (Sh.get cs i).bind λc=>
   (Bu c.fields).bind λf=>
   (Sh.get q i).bind λ_=>
   Em cs n (Sh.w (i+1)) (Sh.put q i (Bw.mk f))
  else some q
def En (N:Nat)(m:Int):Nat->Int->List AP->Option (List AP)
 | 0,_,_=>none
 | n+1,t,l=>
  if decide (t<m)=true then
   (Sh.get l t).bind λd=>
   (DC d.cons).bind λq21=>
   (Em d.cons N 0 q21).bind λq=>
   En N m n (Sh.w (t+1)) (Sh.put l t (AP.mk d.from_ d.to q))
  else some l
def Jm (N:Nat)(p0:List AP):Option (List AP):=
 (Dd p0).bind λq9=>
 (En N (Sh.len q9) N 0 q9).bind λl=>
 some l
end RC
namespace RC
def Gw:Nat->Int->Int->(List Int)->Option (Int×(List Int))
 | 0,_,_,_=>none
 | n+1,k4,i5,l6=>
  if (decide (i5<(Sh.len l6)))=true then
   (Sh.get l6 i5).bind λc16=>
   Gw  n (Sh.w (k4+1)) (Sh.w (i5+1)) (Sh.put l6 i5 k4)
  else
   some (k4,l6)
def He (N:Nat)(s0:(List Int))(p1:Int):Option (Int×(List Int)):=
 (Gw  N p1 0 s0).bind λ(k7,l8)=>
 some (k7,l8)
def Gr (N:Nat):Nat->Int->Int->(List Bw)->Option (Int×(List Bw))
 | 0,_,_,_=>none
 | n+1,k4,i5,l6=>
  if (decide (i5<(Sh.len l6)))=true then
   (Sh.get l6 i5).bind λc15=>
   (He N c15.fields k4).bind λq16=>
   Gr N n q16.1 (Sh.w (i5+1)) (Sh.put l6 i5 (Bw.mk q16.2))
  else
   some (k4,l6)
def LD (N:Nat)(s0:(List Bw))(p1:Int):Option (Int×(List Bw)):=
 (Gr N N p1 0 s0).bind λ(k7,l8)=>
 some (k7,l8)
def GJ (N:Nat):Nat->Int->Int->(List AP)->Option (Int×(List AP))
 | 0,_,_,_=>none
 | n+1,k4,i5,l6=>
  if (decide (i5<(Sh.len l6)))=true then
   (Sh.get l6 i5).bind λc16=>
   (Sh.get (Sh.put l6 i5 (AP.mk k4 c16.to c16.cons)) i5).bind λc19=>
   (Sh.get (Sh.put (Sh.put l6 i5 (AP.mk k4 c16.to c16.cons)) i5 (AP.mk c19.from_ (Sh.w (k4+1)) c19.cons)) i5).bind λc21=>
   (LD N c21.cons (Sh.w ((Sh.w (k4+1))+1))).bind λq22=>
   GJ N n q22.1 (Sh.w (i5+1)) (Sh.put (Sh.put (Sh.put l6 i5 (AP.mk k4 c16.to c16.cons)) i5 (AP.mk c19.from_ (Sh.w (k4+1)) c19.cons)) i5 (AP.mk c21.from_ c21.to q22.2))
  else
   some (k4,l6)
def KO (N:Nat)(s0:(List AP))(p1:Int):Option (Int×(List AP)):=
 (GJ N N p1 0 s0).bind λ(k7,l8)=>
 some (k7,l8)
def FY (zj:(List Step)->Int->Option (Int×(List Step))):Nat->Int->Int->(List Block)->Option (Int×(List Block))
 | 0,_,_,_=>none
 | n+1,k4,i5,l6=>
  if (decide (i5<(Sh.len l6)))=true then
   (Sh.get l6 i5).bind λc16=>
   (zj c16.steps k4).bind λq17=>
   (Sh.get (Sh.put l6 i5 (Block.mk q17.2 c16.result)) i5).bind λc20=>
   FY zj n (Sh.w (q17.1+1)) (Sh.w (i5+1)) (Sh.put (Sh.put l6 i5 (Block.mk q17.2 c16.result)) i5 (Block.mk c20.steps q17.1))
  else
   some (k4,l6)
def Jw (N:Nat)(zj:(List Step)->Int->Option (Int×(List Step)))(s0:(List Block))(p1:Int):Option (Int×(List Block)):=
 (FY zj N p1 0 s0).bind λ(k7,l8)=>
 some (k7,l8)
def FD (N:Nat)(zj:(List Step)->Int->Option (Int×(List Step))):Nat->Int->Int->(List Step)->Option (Int×(List Step))
 | 0,_,_,_=>none
 | n+1,k4,i5,l6=>
  if (decide (i5<(Sh.len l6)))=true then
   (Sh.get l6 i5).bind λc16=>
   (Sh.get (Sh.put l6 i5 (Step.mk k4 c16.num c16.BF c16.args c16.kids)) i5).bind λc19=>
   (Sh.get (Sh.put (Sh.put l6 i5 (Step.mk k4 c16.num c16.BF c16.args c16.kids)) i5 (Step.mk c19.op (Sh.w (k4+1)) c19.BF c19.args c19.kids)) i5).bind λc22=>
   (Sh.get (Sh.put (Sh.put (Sh.put l6 i5 (Step.mk k4 c16.num c16.BF c16.args c16.kids)) i5 (Step.mk c19.op (Sh.w (k4+1)) c19.BF c19.args c19.kids)) i5 (Step.mk c22.op c22.num (Sh.w ((Sh.w (k4+1))+1)) c22.args c22.kids)) i5).bind λc25=>
   (He N c25.args (Sh.w ((Sh.w ((Sh.w (k4+1))+1))+1))).bind λq26=>
   (Sh.get (Sh.put (Sh.put (Sh.put (Sh.put l6 i5 (Step.mk k4 c16.num c16.BF c16.args c16.kids)) i5 (Step.mk c19.op (Sh.w (k4+1)) c19.BF c19.args c19.kids)) i5 (Step.mk c22.op c22.num (Sh.w ((Sh.w (k4+1))+1)) c22.args c22.kids)) i5 (Step.mk c25.op c25.num c25.BF q26.2 c25.kids)) i5).bind λc28=>
   (Jw N zj c28.kids q26.1).bind λq29=>
   FD N zj n q29.1 (Sh.w (i5+1)) (Sh.put (Sh.put (Sh.put (Sh.put (Sh.put l6 i5 (Step.mk k4 c16.num c16.BF c16.args c16.kids)) i5 (Step.mk c19.op (Sh.w (k4+1)) c19.BF c19.args c19.kids)) i5 (Step.mk c22.op c22.num (Sh.w ((Sh.w (k4+1))+1)) c22.args c22.kids)) i5 (Step.mk c25.op c25.num c25.BF q26.2 c25.kids)) i5 (Step.mk c28.op c28.num c28.BF c28.args q29.2))
  else
   some (k4,l6)
def Ks (N:Nat)(zj:(List Step)->Int->Option (Int×(List Step)))(s0:(List Step))(p1:Int):Option (Int×(List Step)):=
 (FD N zj N p1 0 s0).bind λ(k7,l8)=>
 some (k7,l8)
def Ex (N:Nat):Nat->(List Step)->Int->Option (Int×(List Step))
 | 0,_,_=>none
 | n+1,s0,p1=>Ks N (Ex N n) s0 p1
def MR (N:Nat)(s0:(List Step))(p1:Int):Option (Int×(List Step)):=Ex N N s0 p1
def Es (N:Nat):Nat->Int->Int->(List Ad)->Option (Int×(List Ad))
 | 0,_,_,_=>none
 | n+1,k4,i5,l6=>
  if (decide (i5<(Sh.len l6)))=true then
   (Sh.get l6 i5).bind λc16=>
   (He N c16.params k4).bind λq17=>
   (Sh.get (Sh.put l6 i5 (Ad.mk q17.2 c16.Aq c16.result c16.body)) i5).bind λc20=>
   (He N c20.Aq q17.1).bind λq21=>
   (Sh.get (Sh.put (Sh.put l6 i5 (Ad.mk q17.2 c16.Aq c16.result c16.body)) i5 (Ad.mk c20.params q21.2 c20.result c20.body)) i5).bind λc24=>
   (Sh.get (Sh.put (Sh.put (Sh.put l6 i5 (Ad.mk q17.2 c16.Aq c16.result c16.body)) i5 (Ad.mk c20.params q21.2 c20.result c20.body)) i5 (Ad.mk c24.params c24.Aq q21.1 c24.body)) i5).bind λc27=>
   (MR N c27.body.steps (Sh.w (q21.1+1))).bind λq28=>
   (Sh.get (Sh.put (Sh.put (Sh.put (Sh.put l6 i5 (Ad.mk q17.2 c16.Aq c16.result c16.body)) i5 (Ad.mk c20.params q21.2 c20.result c20.body)) i5 (Ad.mk c24.params c24.Aq q21.1 c24.body)) i5 (Ad.mk c27.params c27.Aq c27.result (Block.mk q28.2 c27.body.result))) i5).bind λc31=>
   Es N n (Sh.w (q28.1+1)) (Sh.w (i5+1)) (Sh.put (Sh.put (Sh.put (Sh.put (Sh.put l6 i5 (Ad.mk q17.2 c16.Aq c16.result c16.body)) i5 (Ad.mk c20.params q21.2 c20.result c20.body)) i5 (Ad.mk c24.params c24.Aq q21.1 c24.body)) i5 (Ad.mk c27.params c27.Aq c27.result (Block.mk q28.2 c27.body.result))) i5 (Ad.mk c31.params c31.Aq c31.result (Block.mk c31.body.steps q28.1)))
  else
   some (k4,l6)
def Il (N:Nat)(s0:(List Ad))(p1:Int):Option (Int×(List Ad)):=
 (Es N N p1 0 s0).bind λ(k7,l8)=>
 some (k7,l8)
def IP (N:Nat)(s0:(List AP))(s1:(List Ad))(p1:Int):Option (Int×(List AP)×(List Ad)):=
 (KO N s0 p1).bind λq3=>
 (Il N s1 q3.1).bind λq6=>
 some (q6.1,q3.2,q6.2)
def Gk (p0:(List Int)):Nat->Int->Int->Option ((Int) ⊕ (Int))
 | 0,_,_=>none
 | n+1,k4,i5=>
  if (decide (i5<(Sh.len p0)))=true then
   (Sh.get p0 i5).bind λc15=>
   if (!decide (c15=k4))=true then
    some (Sum.inl (-1))
   else
    Gk p0 n (Sh.w (k4+1)) (Sh.w (i5+1))
  else
   some (Sum.inr k4)
def Hd (N:Nat)(p0:(List Int))(p1:Int):Option (Int):=
 Sh.cont (Gk p0 N p1 0) (id) λk6=>
 some k6
end RC
namespace RC
def FF (i5:Int)(p0:(List AP)):Nat->Int->(List Bw)->Option (List Bw)
 | 0,_,_=>none
 | n+1,k17,l18=>
  (Sh.get p0 i5).bind λc25=>
  if (decide (k17<(Sh.len c25.cons)))=true then
   (Sh.get c25.cons k17).bind λc28=>
   (DB c28.fields).bind λq29=>
   (Sh.app l18 [Bw.mk q29] 24).bind λl30=>
   FF i5 p0 n (Sh.w (k17+1)) l30
  else
   some l18
def GI (N:Nat)(p0:(List AP)):Nat->Int->(List AP)->Option (List AP)
 | 0,_,_=>none
 | n+1,i5,l6=>
  if (decide (i5<(Sh.len p0)))=true then
   (FF i5 p0 N 0 []).bind λl19=>
   (Sh.get p0 i5).bind λc21=>
   (Sh.app l6 [AP.mk c21.from_ c21.to l19] 40).bind λl22=>
   GI N p0 n (Sh.w (i5+1)) l22
  else
   some l6
def KX (N:Nat)(p0:(List AP)):Option (List AP):=
 (GI N p0 N 0 []).bind λl7=>
 some l7
def JZ (s0:(List Block))(p0:Step):Option (Step):=
 (Bu p0.args).bind λq3=>
 some (Step.mk p0.op p0.num p0.BF q3 s0)
def Gu (N:Nat)(p0:(List Bw)):Nat->Int->Int->Option ((Int) ⊕ (Int))
 | 0,_,_=>none
 | n+1,k4,i5=>
  if (decide (i5<(Sh.len p0)))=true then
   (Sh.get p0 i5).bind λc14=>
   (Hd N c14.fields k4).bind λq15=>
   if (decide (q15<0))=true then
    some (Sum.inl (-1))
   else
    Gu N p0 n q15 (Sh.w (i5+1))
  else
   some (Sum.inr k4)
def LA (N:Nat)(p0:(List Bw))(p1:Int):Option (Int):=
 Sh.cont (Gu N p0 N p1 0) (id) λk6=>
 some k6
def GB (N:Nat)(p0:(List AP)):Nat->Int->Int->Option ((Int) ⊕ (Int))
 | 0,_,_=>none
 | n+1,k4,i5=>
  if (decide (i5<(Sh.len p0)))=true then
   (Sh.get p0 i5).bind λc15=>
   if (!decide (c15.from_=k4))=true then
    some (Sum.inl (-1))
   else
   if (!decide (c15.to=(Sh.w (k4+1))))=true then
    some (Sum.inl (-1))
   else
    (LA N c15.cons (Sh.w ((Sh.w (k4+1))+1))).bind λq29=>
    if (decide (q29<0))=true then
     some (Sum.inl (-1))
    else
     GB N p0 n q29 (Sh.w (i5+1))
  else
   some (Sum.inr k4)
def KT (N:Nat)(p0:(List AP))(p1:Int):Option (Int):=
 Sh.cont (GB N p0 N p1 0) (id) λk6=>
 some k6
def Fa (p0:(List Block))(zk:(List Step)->Int->Option (Int)):Nat->Int->Int->Option ((Int) ⊕ (Int))
 | 0,_,_=>none
 | n+1,k4,i5=>
  if (decide (i5<(Sh.len p0)))=true then
   (Sh.get p0 i5).bind λc14=>
   (zk c14.steps k4).bind λq15=>
   if (decide (q15<0))=true then
    some (Sum.inl (-1))
   else
   if (!decide (c14.result=q15))=true then
    some (Sum.inl (-1))
   else
    Fa p0 zk n (Sh.w (q15+1)) (Sh.w (i5+1))
  else
   some (Sum.inr k4)
def Jq (N:Nat)(zk:(List Step)->Int->Option (Int))(p0:(List Block))(p1:Int):Option (Int):=
 Sh.cont (Fa p0 zk N p1 0) (id) λk6=>
 some k6
def FO (N:Nat)(p0:(List Step))(zk:(List Step)->Int->Option (Int)):Nat->Int->Int->Option ((Int) ⊕ (Int))
 | 0,_,_=>none
 | n+1,k4,i5=>
  if (decide (i5<(Sh.len p0)))=true then
   (Sh.get p0 i5).bind λc15=>
   if (!decide (c15.op=k4))=true then
    some (Sum.inl (-1))
   else
   if (!decide (c15.num=(Sh.w (k4+1))))=true then
    some (Sum.inl (-1))
   else
   if (!decide (c15.BF=(Sh.w ((Sh.w (k4+1))+1))))=true then
    some (Sum.inl (-1))
   else
    (Hd N c15.args (Sh.w ((Sh.w ((Sh.w (k4+1))+1))+1))).bind λq36=>
    if (decide (q36<0))=true then
     some (Sum.inl (-1))
    else
     (Jq N zk c15.kids q36).bind λq42=>
     if (decide (q42<0))=true then
      some (Sum.inl (-1))
     else
      FO N p0 zk n q42 (Sh.w (i5+1))
  else
   some (Sum.inr k4)
def Kh (N:Nat)(zk:(List Step)->Int->Option (Int))(p0:(List Step))(p1:Int):Option (Int):=
 Sh.cont (FO N p0 zk N p1 0) (id) λk6=>
 some k6
def E0 (N:Nat):Nat->(List Step)->Int->Option (Int)
 | 0,_,_=>none
 | n+1,p0,p1=>Kh N (E0 N n) p0 p1
def MB (N:Nat)(p0:(List Step))(p1:Int):Option (Int):=E0 N N p0 p1
def Ew (N:Nat)(p0:(List Ad)):Nat->Int->Int->Option ((Int) ⊕ (Int))
 | 0,_,_=>none
 | n+1,k4,i5=>
  if (decide (i5<(Sh.len p0)))=true then
   (Sh.get p0 i5).bind λc14=>
   (Hd N c14.params k4).bind λq15=>
   if (decide (q15<0))=true then
    some (Sum.inl (-1))
   else
    (Hd N c14.Aq q15).bind λq21=>
    if (decide (q21<0))=true then
     some (Sum.inl (-1))
    else
    if (!decide (c14.result=q21))=true then
     some (Sum.inl (-1))
    else
     (MB N c14.body.steps (Sh.w (q21+1))).bind λq34=>
     if (decide (q34<0))=true then
      some (Sum.inl (-1))
     else
     if (!decide (c14.body.result=q34))=true then
      some (Sum.inl (-1))
     else
      Ew N p0 n (Sh.w (q34+1)) (Sh.w (i5+1))
  else
   some (Sum.inr k4)
def Ig (N:Nat)(p0:(List Ad))(p1:Int):Option (Int):=
 Sh.cont (Ew N p0 N p1 0) (id) λk6=>
 some k6
def IN (N:Nat)(p0:AL)(p1:Int):Option (Int):=
 (KT N p0.decls p1).bind λq3=>
 if (decide (q3<0))=true then
  some (-1)
 else
  (Ig N p0.AF q3).bind λq9=>
  if (decide (q9<0))=true then
   some (-1)
  else
   some q9
end RC
namespace Sh
def shr (k:Go.IntKind)(a b:Int):Int:=a.fdiv (2 ^ (min b.toNat k.bits))
end Sh
namespace Go.Abs
open Go
section
variable {P : Program} {k : Nat} {ops : Array Oper} {Q : Exit -> St -> Prop} {ds : List (Option Tmp)} {r : List Oper} {n : Nat} {e : Nat -> AV} {st : List Row} {T T' ty : TypeId} {ps : String} {ed : Array Edge} {t : Tmp} {x y : Operand} {gd : Option (Nat × Bool)} {kk kk' : IntKind} {a b : Int}
theorem qG {C:List Row->AV->Prop}{op:Op}{d:Option Tmp}{gd:Option (Nat×Bool)}(hg:GO ds gd e)(h :∀F os a w,Rel F os ⟨n,e,st⟩ a w->∃st' v,C st' v/\∃z w' F' os',(execOp a.eval ⟨d,op,ty,ps,ed,gd⟩).run P w=.ok (.value z) w'/\Rel F' os' ⟨n,e,st'⟩ a w'/\Ae F' w' os' v z/\Ext F os w F' os' w' k)
  (hk :∀st' v,C st' v->AO P k ops Q (ds++[d]) r (St.put ⟨n,e,st'⟩ d v)):AO P k ops Q ds (⟨d,op,ty,ps,ed,gd⟩::r) ⟨n,e,st⟩:=by
 intro hl hds hdst F os a w hr Q' hQ;have ho:ops[ds.length]?=some ⟨d,op,ty,ps,ed,gd⟩:=by have:=hl 0;simpa using this.symm
 have hod:DK n d=true:=hdst _ (by have:=uL (l:=ops.toList) (i:=ds.length) (by simpa using ho);exact this);have hdn:∀d∈ds,DK n d=true:=λd hd=>by
  obtain⟨j,hj⟩:=vF.1 hd;have h1:=hds j d hj;cases hoj:ops[j]? with
  | none=>rw[hoj]at h1;cases h1
  | some oj=>
   rw[hoj]at h1;simp only[vY,uO]at h1;subst h1;exact hdst oj (by have:=uL (l:=ops.toList) (i:=j) (by simpa using hoj);exact this)
 have hl' :∀(j:Nat),r[j]?=ops[(ds++[d]).length+j]?:=λj=>by
  have:=hl (j+1);simp only[vW]at this;rw[this];congr 1;simp;omega
 have hds' :∀(j:Nat) d',(ds++[d])[j]?=some d'->(ops[j]?).map (·.dst)=some d':=λj d' hj=>by
  rcases wD j ds.length with h1|h1|h1
  ·rw[uU h1]at hj;exact hds j d' hj
  ·subst h1;rw[LJ,uO]at hj;rw[ho];simp[hj]
  ·rw[vf (by simp;omega)]at hj;cases hj
 unfold wpList;rcases aw hr hds hdn (GO.guard (A:=True) (B:=False) hg uM) with ⟨hw,_⟩|⟨_,h1⟩
 ·rw[uX hw];obtain⟨st',v,hC,z,w',F',os',h1,h2,h3,h4⟩:=h F os a w hr;refine .inl ?_;unfold Oper.wp;rw[h1];simp only[Oper.upon];refine hk st' v hC hl' hds' (by cases d<;>exact hdst) F' os' _ w' (h2.put hod h3) Q' λ_ _ _ hp=>hQ _ _ _ (hp.trans h4)
 ·exact h1.elim
theorem rH (hg:GO ds gd e)(hx:St.ev ⟨n,e,st⟩ x=.int kk a)(hy:St.ev ⟨n,e,st⟩ y=.int kk' b)(hb:0<=b)(hk:AO P k ops Q (ds++[some t]) r ⟨n,EW e t (.int kk (Sh.shr kk a b)),st⟩):
  AO P k ops Q ds (⟨some t,.binOp .shr T x y T',ty,ps,ed,gd⟩::r) ⟨n,e,st⟩:=by
 refine qG (C:=λst' v=>st'=st/\v=.int kk (Sh.shr kk a b)) hg (λF os ac w hrel=>?_) (λst' v ⟨h1,h2⟩=>by subst h1;subst h2;exact hk);have e1:=hrel.ev x;rw[hx]at e1;simp only[Ae]at e1;have e2:=hrel.ev y;rw[hy]at e2;simp only[Ae]at e2;refine⟨st,_,⟨rfl,rfl⟩,.int kk (Sh.shr kk a b),w,F,os,?_,hrel,by simp[Ae],Ext.refl _ _ _ _⟩;have h0:¬ b<0:=by omega
 simp only[execOp,vU,e1,e2];simp[eqGuard,binOp,Op.shift,h0,Result.andThen,Sh.shr]
end
end Go.Abs
namespace RC
open Go Go.Abs
def FV (s v:List Int)(i:Int):Option (List Int):=
 match v with
 | [x]=>if 0<=i/\i<=s.length/\(s.length+1)*8<=140737488355328 then some (s.take i.toNat++x::s.drop i.toNat) else none
 | _=>none
end RC
namespace RC
def D6 (p0:(List Int))(p1:Int):Nat->Bool->Int->(List Int)->Option (Bool×(List Int))
 | 0,_,_,_=>none
 | n+1,done6,i7,l8=>
  if (decide (i7<(Sh.len p0)))=true then
   (
    Option.bind (
     if (!done6)=true then
      (Sh.get p0 i7).bind λc43=>
      some (decide (p1<=c43))
     else
      some false
    ) λt32=>
    if t32=true then
     (
      Option.bind (Sh.get p0 i7) λc39=>
      if (decide (p1<c39))=true then
       (Sh.app l8 [p1] 8).bind λl41=>
       some l41
      else
       some l8
     ).bind λl36=>
     some (true,l36)
    else
     some (done6,l8)
   ).bind λ(done26,l27)=>
   (Sh.get p0 i7).bind λc29=>
   (Sh.app l27 [c29] 8).bind λl30=>
   D6 p0 p1 n done26 (Sh.w (i7+1)) l30
  else
   some (done6,l8)
def JH (N:Nat)(p0:(List Int))(p1:Int):Option (List Int):=
 (D6 p0 p1 N false 0 []).bind λ(done9,l10)=>
 (
  if (!done9)=true then
   (Sh.app l10 [p1] 8).bind λl19=>
   some l19
  else
   some l10
 ).bind λl13=>
 some l13
def EK (p0:Step)(p1:Int)(zo:Block->Int->Int->(List Int)->Option (List Int)):Nat->(List Int)->Int->Option (List Int)
 | 0,_,_=>none
 | n+1,list15,i16=>
  if (decide (i16<(Sh.len p0.kids)))=true then
   (Sh.get p0.kids i16).bind λc24=>
   (zo c24 p1 0 list15).bind λq25=>
   EK p0 p1 zo n q25 (Sh.w (i16+1))
  else
   some list15
def EN (N:Nat)(p0:Step)(p1:Int):Nat->(List Int)->Int->Option (List Int)
 | 0,_,_=>none
 | n+1,list9,i10=>
  if (decide (i10<(Sh.len p0.args)))=true then
   (
    Option.bind (
     (Sh.get p0.args i10).bind λc38=>
     if (decide (0<=c38))=true then
      some (decide (c38<p1))
     else
      some false
    ) λt33=>
    if t33=true then
     (Sh.get p0.args i10).bind λc36=>
     (JH N list9 c36).bind λq37=>
     some q37
    else
     some list9
   ).bind λlist30=>
   EN N p0 p1 n list30 (Sh.w (i10+1))
  else
   some list9
def I2 (N:Nat)(zo:Block->Int->Int->(List Int)->Option (List Int))(p0:Step)(p1:Int)(p2:(List Int)):Option (List Int):=
 (IM p0.op).bind λq4=>
 if q4=true then
  some p2
 else
  (EN N p0 p1 N p2 0).bind λlist11=>
  (EK p0 p1 zo N list11 0).bind λlist17=>
  some list17
def FA (N:Nat)(p0:Block)(p1:Int)(zo:Block->Int->Int->(List Int)->Option (List Int)):Nat->(List Int)->Int->Option (List Int)
 | 0,_,_=>none
 | n+1,list4,i5=>
  if (decide (i5<(Sh.len p0.steps)))=true then
   (Sh.get p0.steps i5).bind λc22=>
   (I2 N zo c22 p1 list4).bind λq23=>
   FA N p0 p1 zo n q23 (Sh.w (i5+1))
  else
   some list4
def MT (N:Nat)(zo:Block->Int->Int->(List Int)->Option (List Int))(p0:Block)(p1 p2:Int)(p3:(List Int)):Option (List Int):=
 (FA N p0 p1 zo N p3 p2).bind λlist6=>
 (
  Option.bind (
   if (decide (0<=p0.result))=true then
    some (decide (p0.result<p1))
   else
    some false
  ) λt13=>
  if t13=true then
   (JH N list6 p0.result).bind λq16=>
   some q16
  else
   some list6
 ).bind λlist9=>
 some list9
def Iw (N:Nat):Nat->Block->Int->Int->(List Int)->Option (List Int)
 | 0,_,_,_,_=>none
 | n+1,p0,p1,p2,p3=>MT N (Iw N n) p0 p1 p2 p3
def JV (N:Nat)(p0:Block)(p1 p2:Int)(p3:(List Int)):Option (List Int):=Iw N N p0 p1 p2 p3
def KZ (s1:(List Int))(p0:Int):Option (List Int):=
 (Sh.app s1 [p0] 8).bind λl1=>
 some l1
def EP (p0:Step)(zi:(List Int)->Block->Int->Option (List Int)):Nat->Int->(List Int)->Option (List Int)
 | 0,_,_=>none
 | n+1,t14,l15=>
  if (decide (t14<(Sh.len p0.kids)))=true then
   (Sh.get p0.kids t14).bind λc23=>
   (zi l15 c23 0).bind λq24=>
   EP p0 zi n (Sh.w (t14+1)) q24
  else
   some l15
def EM (p0:Step):Nat->Int->(List Int)->Option (List Int)
 | 0,_,_=>none
 | n+1,t8,l9=>
  if (decide (t8<(Sh.len p0.args)))=true then
   (Sh.get p0.args t8).bind λc30=>
   (KZ l9 c30).bind λq31=>
   EM p0 n (Sh.w (t8+1)) q31
  else
   some l9
def JF (N:Nat)(zi:(List Int)->Block->Int->Option (List Int))(s1:(List Int))(p0:Step):Option (List Int):=
 (Dh p0.op).bind λq4=>
 if q4=true then
  some s1
 else
  (EM p0 N 0 s1).bind λl10=>
  (EP p0 zi N 0 l10).bind λl16=>
  some l16
def Dl (N:Nat)(l4:(List Step))(zi:(List Int)->Block->Int->Option (List Int)):Nat->Int->(List Int)->Option (List Int)
 | 0,_,_=>none
 | n+1,t5,l6=>
  if (decide (t5<(Sh.len l4)))=true then
   (Sh.get l4 t5).bind λc15=>
   (JF N zi l6 c15).bind λq16=>
   Dl N l4 zi n (Sh.w (t5+1)) q16
  else
   some l6
def Jb (N:Nat)(zi:(List Int)->Block->Int->Option (List Int))(s1:(List Int))(p0:Block)(p1:Int):Option (List Int):=
 (Sh.sl p0.steps p1 (Sh.len p0.steps)).bind λl4=>
 (Dl N l4 zi N 0 s1).bind λl7=>
 (KZ l7 p0.result).bind λq9=>
 some q9
def Fb (N:Nat):Nat->(List Int)->Block->Int->Option (List Int)
 | 0,_,_,_=>none
 | n+1,s1,p0,p1=>Jb N (Fb N n) s1 p0 p1
def Ms (N:Nat)(s1:(List Int))(p0:Block)(p1:Int):Option (List Int):=Fb N N s1 p0 p1
def II (N:Nat)(p0:Block)(p1:Int):Option (List Int):=
 (Ms N ([]:List Int) p0 p1).bind λq4=>
 (I8 q4).bind λq6=>
 (Mc q6).bind λq9=>
 some q9
end RC
namespace RC
def LV (N:Nat)(p0:Block)(p1:Int):Option (List Int):=
 (JV N p0 p1 0 ([]:List Int)).bind λq3=>
 some q3
end RC
namespace RC
def IK (p0:(List Int))(p1:Int):Nat->Int->Option ((Bool) ⊕ (Unit))
 | 0,_=>none
 | n+1,i4=>
  if (decide (i4<(Sh.len p0)))=true then
   (Sh.get p0 i4).bind λc12=>
   if (decide (c12=p1))=true then
    some (Sum.inl true)
   else
    IK p0 p1 n (Sh.w (i4+1))
  else
   some (Sum.inr ())
def Et (N:Nat)(p0:(List Int))(p1:Int):Option (Bool):=
 Sh.cont (IK p0 p1 N 0) (id) λ()=>
 some false
def UB (N:Nat)(many6:Int)(p0:AL)(p1:(List Int))(p2:Step)(q3:(List Int)):Nat->Int->Int->Option ((Int) ⊕ (Int))
 | 0,_,_=>none
 | n+1,t17,i18=>
  if (decide (i18<many6))=true then
   (
    if (decide (p2.op=8))=true then
     (Sh.get q3 i18).bind λc43=>
     (CK N p0.decls c43).bind λq44=>
     (IC p1 q44).bind λq45=>
     some q45
    else
     some p1
   ).bind λinner28=>
   (Sh.get p2.kids i18).bind λc31=>
   (Br N p0 inner28 c31).bind λq32=>
   (
    if (decide (q32<0))=true then
     some true
    else
    if (decide (0<i18))=true then
     some (!decide (q32=t17))
    else
     some false
   ).bind λt35=>
   if t35=true then
    some (Sum.inl (-1))
   else
    UB N many6 p0 p1 p2 q3 n q32 (Sh.w (i18+1))
  else
   some (Sum.inr t17)
def LH (p0:Int):Option (Bool):=
 (
  if (decide (p0=6))=true then
   some true
  else
  if (decide (p0=9))=true then
   some true
  else
  if (decide (p0=10))=true then
   some true
  else
   some (decide (p0=11))
 ).bind λt3=>
 some t3
def KD (N:Nat)(p0:AL)(p1:Step)(p2:Int):Option (Bool):=
 (
  if (decide (p1.op=9))=true then
   (Sh.get p0.AF p1.num).bind λc6=>
   (Et N c6.Aq p2).bind λq7=>
   some q7
  else
   some false
 ).bind λt3=>
 some t3
def IU (N:Nat)(p0:AL)(p1:(List Int))(p2:Step)(p3:Int):Option (Bool):=
 (
  Option.bind (LH p2.op) λq5=>
  if q5=true then
   (Sh.get p2.args p3).bind λc7=>
   (Sh.get p1 c7).bind λc8=>
   if (!decide (c8=0))=true then
    (KD N p0 p2 p3).bind λq10=>
    some (!q10)
   else
    some false
  else
   some false
 ).bind λt3=>
 some t3
def Gf (p0 p1:Int):Option (Step):=
 some (Step.mk p0 0 0 [p1] [])
def GD (p0:Int)(p1:(List Int)):Nat->Int->(List Step)->Option (List Step)
 | 0,_,_=>none
 | n+1,i5,l6=>
  if (decide (i5<(Sh.len p1)))=true then
   (Sh.get p1 i5).bind λc14=>
   (Gf p0 c14).bind λq15=>
   (Sh.app l6 [q15] 72).bind λl16=>
   GD p0 p1 n (Sh.w (i5+1)) l16
  else
   some l6
def G4 (N:Nat)(p0:Int)(p1:(List Int)):Option (List Step):=
 (GD p0 p1 N 0 []).bind λl7=>
 some l7
def NL (p0:Ad)(p1:Block):Option (Ad):=
 (DB p0.params).bind λq3=>
 (DB p0.Aq).bind λq4=>
 some (Ad.mk q3 q4 p0.result p1)
def IL (N:Nat)(p0:AL):Nat->Int->Option ((AL×Bool) ⊕ (Unit))
 | 0,_=>none
 | n+1,i4=>
  if (decide (i4<(Sh.len p0.AF)))=true then
   (Sh.get p0.AF i4).bind λc12=>
   (IG N c12.body).bind λq13=>
   if (decide (q13<0))=true then
    some (Sum.inl (AL.mk [] [],false))
   else
    IL N p0 n (Sh.w (i4+1))
  else
   some (Sum.inr ())
def PW (N:Nat)(p0:AL):Option (AL×Bool):=
 Sh.cont (IL N p0 N 0) (id) λ()=>
 some (p0,true)
def CJ (p0:(List Int))(p1:Int):Nat->Int->Option ((Int) ⊕ (Unit))
 | 0,_=>none
 | n+1,t4=>
  if (decide (t4<(Sh.len p0)))=true then
   (Sh.get p0 t4).bind λc13=>
   if (decide (p1=c13))=true then
    some (Sum.inl t4)
   else
    CJ p0 p1 n (Sh.w (t4+1))
  else
   some (Sum.inr ())
def Iq (N:Nat)(p0:(List Int))(p1:Int):Option (Int):=
 Sh.cont (CJ p0 p1 N 0) (id) λ()=>
 some (-1)
def DE (N:Nat)(p0:(List Int))(p1:Int):Option (Bool):=
 (Iq N p0 p1).bind λq3=>
 some (decide (0<=q3))
def cmp_isNaN_int (p0:Int):Option (Bool):=
 some (!decide (p0=p0))
def cmp_Less_int (p0 p1:Int):Option (Bool):=
 (
  Option.bind (cmp_isNaN_int p0) λq5=>
  if q5=true then
   (cmp_isNaN_int p1).bind λq7=>
   if (!q7)=true then
    some true
   else
    some (decide (p0<p1))
  else
   some (decide (p0<p1))
 ).bind λt3=>
 some t3
def Hn (p0:Int):Option (Bool):=
 some (!decide (p0=p0))
def BN (p0:(List Int))(p1:Int):Nat->Int->Int->Option (Int)
 | 0,_,_=>none
 | n+1,i5,j6=>
  if (decide (i5<j6))=true then
   (Sh.get p0 (Sh.wk .i64 (Sh.shr .u64 (Sh.wk .u64 (Sh.w (i5+j6))) 1))).bind λc23=>
   (cmp_Less_int c23 p1).bind λq24=>
   if q24=true then
    BN p0 p1 n (Sh.w ((Sh.wk .i64 (Sh.shr .u64 (Sh.wk .u64 (Sh.w (i5+j6))) 1))+1)) j6
   else
    BN p0 p1 n i5 (Sh.wk .i64 (Sh.shr .u64 (Sh.wk .u64 (Sh.w (i5+j6))) 1))
  else
   some i5
def Bz (N:Nat)(p0:(List Int))(p1:Int):Option (Int×Bool):=
 (BN p0 p1 N 0 (Sh.len p0)).bind λi7=>
 (
  if (decide (i7<(Sh.len p0)))=true then
   (Sh.get p0 i7).bind λc13=>
   if (decide (c13=p1))=true then
    some true
   else
    (Hn c13).bind λq15=>
    if q15=true then
     (Hn p1).bind λq17=>
     some q17
    else
     some false
  else
   some false
 ).bind λt10=>
 some (i7,t10)
def Cd (p0:(List Int)):Option (List Int):=
 (Sh.app ([]:List Int) p0 8).bind λl6=>
 some l6
def Dj (N:Nat)(p0:(List Int))(p1:Int):Option (List Int):=
 (Bz N p0 p1).bind λq3=>
 if q3.2=true then
  some p0
 else
  (Cd p0).bind λq9=>
  (FV q9 [p1] q3.1).bind λq10=>
  some q10
def Iz (p0:Int):Option (Bool):=
 (
  if (decide (p0=6))=true then
   some true
  else
  if (decide (p0=9))=true then
   some true
  else
  if (decide (p0=10))=true then
   some true
  else
   some (decide (p0=11))
 ).bind λt3=>
 some t3
def Cy (N:Nat)(s0:(List Int))(p0:Ap)(p2:Step):Nat->(List Int)->Int->(List Int)->Option ((List Int)×(List Int))
 | 0,_,_,_=>none
 | n+1,lent11,t12,l13=>
  if (decide (t12<(Sh.len p2.args)))=true then
   (
    Option.bind (Sh.get p2.args t12) λc26=>
    (Sh.get s0 c26).bind λc28=>
    if (decide (c28=0))=true then
     some (lent11,l13)
    else
     (
      if (decide (p2.op=9))=true then
       (Sh.get p0.funcs p2.num).bind λc37=>
       (DE N c37.Aq t12).bind λq38=>
       some q38
      else
       some false
     ).bind λt31=>
     if t31=true then
      (Dj N lent11 c26).bind λq34=>
      some (q34,l13)
     else
      (Sh.app l13 [t12] 8).bind λl35=>
      some (lent11,l35)
   ).bind λ(lent22,l23)=>
   Cy N s0 p0 p2 n lent22 (Sh.w (t12+1)) l23
  else
   some (lent11,l13)
def Gn (N:Nat)(s0:(List Int))(p0:Ap)(p2:Step):Option ((List Int)×(List Int)):=
 (Iz p2.op).bind λq4=>
 if (!q4)=true then
  some ([],[])
 else
  (Cy N s0 p0 p2 N [] 0 []).bind λ(lent14,l15)=>
  some (l15,lent14)
def Fx (p0 p1:Int):Option (Step):=
 some (Step.mk p0 0 0 [p1] [])
def FH (N:Nat)(p0:AL):Nat->Int->Option ((Bool) ⊕ (Unit))
 | 0,_=>none
 | n+1,t4=>
  if (decide (t4<(Sh.len p0.AF)))=true then
   (Sh.get p0.AF t4).bind λc12=>
   (IH N c12.body).bind λq14=>
   if (decide (q14<0))=true then
    some (Sum.inl false)
   else
    FH N p0 n (Sh.w (t4+1))
  else
   some (Sum.inr ())
def JC (N:Nat)(p0:AL):Option (Bool):=
 Sh.cont (FH N p0 N 0) (id) λ()=>
 some true
end RC
namespace RC
def Hh (N:Nat)(p1:(List Int)):Nat->Int->(List Int)->Option (List Int)
 | 0,_,_=>none
 | n+1,i6,l7=>
  if (decide (i6<(Sh.len p1)))=true then
   (Sh.get p1 i6).bind λc15=>
   (JH N l7 c15).bind λq16=>
   Hh N p1 n (Sh.w (i6+1)) q16
  else
   some l7
def Kx (N:Nat)(p0:(List Int))(p1:(List Int)):Option (List Int):=
 (DB p0).bind λq3=>
 (Hh N p1 N 0 q3).bind λl8=>
 some l8
def D2 (N:Nat)(p0:AL)(p1:Step)(p2:Int):Nat->Int->Option ((Bool) ⊕ (Unit))
 | 0,_=>none
 | n+1,k4=>
  if (decide (k4<(Sh.len p1.args)))=true then
   (
    if (!decide (k4=p2))=true then
     (Sh.get p1.args k4).bind λc17=>
     (Sh.get p1.args p2).bind λc18=>
     if (decide (c17=c18))=true then
      if (decide (p2<k4))=true then
       some true
      else
       (KD N p0 p1 k4).bind λq21=>
       some q21
     else
      some false
    else
     some false
   ).bind λt12=>
   if t12=true then
    some (Sum.inl true)
   else
    D2 N p0 p1 p2 n (Sh.w (k4+1))
  else
   some (Sum.inr ())
def IY (N:Nat)(p0:AL)(p1:Step)(p2:Int):Option (Bool):=
 Sh.cont (D2 N p0 p1 p2 N 0) (id) λ()=>
 some false
def Kb (N:Nat)(p0:AL)(p1:Step)(p2:Int)(p3:(List Int))(p4:(List Int)):Option (Bool):=
 (
  Option.bind (Sh.get p1.args p2) λc5=>
  (Et N p4 c5).bind λq6=>
  if q6=true then
   some true
  else
   (Et N p3 c5).bind λq8=>
   if (!q8)=true then
    some true
   else
    (IY N p0 p1 p2).bind λq10=>
    some q10
 ).bind λt3=>
 some t3
def Ek (N:Nat)(p0:AL)(p1:(List Int))(p2:Step)(p3:(List Int))(p4:(List Int)):Nat->Int->(List Int)->Option (List Int)
 | 0,_,_=>none
 | n+1,i5,l6=>
  if (decide (i5<(Sh.len p2.args)))=true then
   (
    Option.bind (
     (IU N p0 p1 p2 i5).bind λq22=>
     if q22=true then
      (Kb N p0 p2 i5 p3 p4).bind λq24=>
      some q24
     else
      some false
    ) λt17=>
    if t17=true then
     (Sh.get p2.args i5).bind λc20=>
     (Sh.app l6 [c20] 8).bind λl21=>
     some l21
    else
     some l6
   ).bind λl14=>
   Ek N p0 p1 p2 p3 p4 n (Sh.w (i5+1)) l14
  else
   some l6
def HO (N:Nat)(p0:AL)(p1:(List Int))(p2:Step)(p3:(List Int))(p4:(List Int)):Option (List Int):=
 (Ek N p0 p1 p2 p3 p4 N 0 []).bind λl7=>
 some l7
def FB (s0:(List Int))(p0:Int):Nat->Int->(List Step)->Option (List Step)
 | 0,_,_=>none
 | n+1,i5,l6=>
  if (decide (i5<(Sh.len s0)))=true then
   (Sh.get s0 i5).bind λc14=>
   (Gf p0 c14).bind λq15=>
   (Sh.app l6 [q15] 72).bind λl16=>
   FB s0 p0 n (Sh.w (i5+1)) l16
  else
   some l6
def JK (N:Nat)(s0:(List Int))(p0:Int):Option (List Step):=
 (FB s0 p0 N 0 []).bind λl7=>
 some l7
def Ii (p0:(List Int))(p1:Int):Nat->Int->(List Int)->Option (List Int)
 | 0,_,_=>none
 | n+1,i5,l6=>
  if (decide (i5<(Sh.len p0)))=true then
   (
    Option.bind (Sh.get p0 i5) λc17=>
    if (decide (c17<p1))=true then
     (Sh.app l6 [c17] 8).bind λl19=>
     some l19
    else
     some l6
   ).bind λl14=>
   Ii p0 p1 n (Sh.w (i5+1)) l14
  else
   some l6
def OK (N:Nat)(p0:(List Int))(p1:Int):Option (List Int):=
 (Ii p0 p1 N 0 []).bind λl7=>
 some l7
def Ey (N:Nat)(s0:(List Int))(p2:(List Int))(q6:(List Int)):Nat->Int->(List Int)->Option (List Int)
 | 0,_,_=>none
 | n+1,i20,l21=>
  if (decide (i20<(Sh.len p2)))=true then
   (
    Option.bind (
     (Sh.get p2 i20).bind λc44=>
     if (!decide (c44=0))=true then
      (Et N q6 (Sh.w ((Sh.len s0)+i20))).bind λq46=>
      some q46
     else
      some false
    ) λt40=>
    if t40=true then
     (Sh.app l21 [Sh.w ((Sh.len s0)+i20)] 8).bind λl43=>
     some l43
    else
     some l21
   ).bind λl37=>
   Ey N s0 p2 q6 n (Sh.w (i20+1)) l37
  else
   some l21
def E2 (N:Nat)(s1:(List Int))(p5:(List Int))(q6:(List Int)):Nat->Int->(List Int)->(List Int)->Option ((List Int)×(List Int))
 | 0,_,_,_=>none
 | n+1,i11,l12,l13=>
  if (decide (i11<(Sh.len s1)))=true then
   (
    Option.bind (
     (Sh.get s1 i11).bind λc62=>
     (Et N q6 c62).bind λq63=>
     if q63=true then
      some true
     else
      (Et N p5 c62).bind λq65=>
      some q65
    ) λt55=>
    if t55=true then
     (Sh.get s1 i11).bind λc58=>
     (Sh.app l12 [c58] 8).bind λl59=>
     some (l59,l13)
    else
     (Sh.get s1 i11).bind λc60=>
     (Sh.app l13 [c60] 8).bind λl61=>
     some (l12,l61)
   ).bind λ(l51,l52)=>
   E2 N s1 p5 q6 n (Sh.w (i11+1)) l51 l52
  else
   some (l12,l13)
def LB (N:Nat)(zb:AL->(List Int)->Block->(List Int)->(List Int)->Option (Block))(s0:(List Int))(s1:(List Int))(p0:AL)(p2:(List Int))(p3:Block)(p5:(List Int)):Option (Block):=
 (IC s0 p2).bind λq4=>
 (LV N p3 (Sh.len q4)).bind λq6=>
 (E2 N s1 p5 q6 N 0 [] []).bind λ(l14,l15)=>
 (Ey N s0 p2 q6 N 0 []).bind λl22=>
 (JK N l22 14).bind λq25=>
 (G4 N 15 l15).bind λq26=>
 (Sh.app q25 q26 72).bind λl27=>
 (Sh.app l14 l22 8).bind λl29=>
 (OK N p5 (Sh.len s0)).bind λq30=>
 (zb p0 q4 p3 l29 q30).bind λq31=>
 (Sh.app l27 q31.steps 72).bind λl34=>
 some (Block.mk l34 q31.result)
def EV (N:Nat)(s0:(List Int))(s1:(List Int))(p0:AL)(p2:Step)(p4:(List Int))(q4:(List Int))(zb:AL->(List Int)->Block->(List Int)->(List Int)->Option (Block)):Nat->Int->(List Block)->Option (List Block)
 | 0,_,_=>none
 | n+1,i7,l8=>
  if (decide (i7<(Sh.len p2.kids)))=true then
   (
    if (decide (p2.op=8))=true then
     (Sh.get q4 i7).bind λc28=>
     (CK N p0.decls c28).bind λq29=>
     some q29
    else
     some []
   ).bind λfields20=>
   (Sh.get p2.kids i7).bind λc22=>
   (LB N zb s0 s1 p0 fields20 c22 p4).bind λq23=>
   (Sh.app l8 [q23] 32).bind λl24=>
   EV N s0 s1 p0 p2 p4 q4 zb n (Sh.w (i7+1)) l24
  else
   some l8
def Iu (N:Nat)(zb:AL->(List Int)->Block->(List Int)->(List Int)->Option (Block))(s0:(List Int))(s1:(List Int))(p0:AL)(p2:Step)(p4:(List Int)):Option (Step):=
 (LY N p0.decls p2.num).bind λq4=>
 (EV N s0 s1 p0 p2 p4 q4 zb N 0 []).bind λl9=>
 (DB p2.args).bind λq12=>
 some (Step.mk p2.op p2.num 0 q12 l9)
def Ht (N:Nat)(p0:(List Int))(p1:(List Int)):Nat->Int->(List Int)->Option (List Int)
 | 0,_,_=>none
 | n+1,i5,l6=>
  if (decide (i5<(Sh.len p0)))=true then
   (
    Option.bind (Sh.get p0 i5) λc17=>
    (Et N p1 c17).bind λq18=>
    if q18=true then
     (Sh.app l6 [c17] 8).bind λl20=>
     some l20
    else
     some l6
   ).bind λl14=>
   Ht N p0 p1 n (Sh.w (i5+1)) l14
  else
   some l6
def NN (N:Nat)(p0:(List Int))(p1:(List Int)):Option (List Int):=
 (Ht N p0 p1 N 0 []).bind λl7=>
 some l7
def HJ (p0:(List Int))(p1:Int):Nat->Int->(List Int)->Option (List Int)
 | 0,_,_=>none
 | n+1,i5,l6=>
  if (decide (i5<(Sh.len p0)))=true then
   (
    Option.bind (Sh.get p0 i5) λc17=>
    if (!decide (c17=p1))=true then
     (Sh.app l6 [c17] 8).bind λl20=>
     some l20
    else
     some l6
   ).bind λl14=>
   HJ p0 p1 n (Sh.w (i5+1)) l14
  else
   some l6
def Ka (N:Nat)(p0:(List Int))(p1:Int):Option (List Int):=
 (HJ p0 p1 N 0 []).bind λl7=>
 some l7
def FC (N:Nat)(p0:AL)(p1:(List Int))(p2:Step)(p3:(List Int))(p4:(List Int)):Nat->Int->(List Int)->Option (List Int)
 | 0,_,_=>none
 | n+1,i13,l14=>
  if (decide (i13<(Sh.len p2.args)))=true then
   (
    Option.bind (
     (IU N p0 p1 p2 i13).bind λq30=>
     if q30=true then
      (Kb N p0 p2 i13 p3 p4).bind λq32=>
      some (!q32)
     else
      some false
    ) λt25=>
    if t25=true then
     (Sh.get p2.args i13).bind λc28=>
     (Ka N l14 c28).bind λq29=>
     some q29
    else
     some l14
   ).bind λl22=>
   FC N p0 p1 p2 p3 p4 n (Sh.w (i13+1)) l22
  else
   some l14
def G0 (N:Nat)(p0:AL)(p1:(List Int))(p2:Step)(p3:(List Int))(p4:(List Int)):Option (List Int):=
 (
  if (decide (p2.op=7))=true then
   some true
  else
   some (decide (p2.op=8))
 ).bind λt4=>
 if t4=true then
  (NN N p3 p4).bind λq8=>
  some q8
 else
  (DB p3).bind λq10=>
  (FC N p0 p1 p2 p3 p4 N 0 q10).bind λl15=>
  some l15
def E9 (N:Nat)(p0:AL)(p1:Step)(p2:(List Int))(p3:(List Int)):Nat->Int->(List Int)->Option (List Int)
 | 0,_,_=>none
 | n+1,i5,l6=>
  if (decide (i5<(Sh.len p1.args)))=true then
   (
    Option.bind (
     (KD N p0 p1 i5).bind λq22=>
     if q22=true then
      (Sh.get p1.args i5).bind λc24=>
      (Et N p2 c24).bind λq25=>
      if q25=true then
       (Et N p3 c24).bind λq27=>
       some (!q27)
      else
       some false
     else
      some false
    ) λt17=>
    if t17=true then
     (Sh.get p1.args i5).bind λc20=>
     (JH N l6 c20).bind λq21=>
     some q21
    else
     some l6
   ).bind λl14=>
   E9 N p0 p1 p2 p3 n (Sh.w (i5+1)) l14
  else
   some l6
def Hv (N:Nat)(p0:AL)(p1:Step)(p2:(List Int))(p3:(List Int)):Option (List Int):=
 (E9 N p0 p1 p2 p3 N 0 []).bind λl7=>
 some l7
def CS (N:Nat)(q58:(List Int)):Nat->Int->(List Int)->Option (List Int)
 | 0,_,_=>none
 | n+1,i65,l66=>
  if (decide (i65<(Sh.len q58)))=true then
   (Sh.get q58 i65).bind λc88=>
   (Ka N l66 c88).bind λq89=>
   CS N q58 n (Sh.w (i65+1)) q89
  else
   some l66
def DS (N:Nat)(p0:AL)(p2:Block)(p4:(List Int))(zb:AL->(List Int)->Block->(List Int)->(List Int)->Option (Block)):Nat->Int->(List Step)->(List Int)->(List Int)->Option ((List Step)×(List Int)×(List Int))
 | 0,_,_,_,_=>none
 | n+1,k9,l10,l11,l12=>
  if (decide (k9<(Sh.len p2.steps)))=true then
   (
    Option.bind (Sh.get p2.steps k9) λc41=>
    (FP N (Br N) p0 l11 c41).bind λq44=>
    (JV N p2 (Sh.w ((Sh.len l11)+1)) (Sh.w (k9+1)) ([]:List Int)).bind λq46=>
    (Kx N q46 p4).bind λq47=>
    (HO N p0 l11 c41 l12 q47).bind λq49=>
    (G4 N 14 q49).bind λq50=>
    (Sh.app l10 q50 72).bind λl51=>
    (Iu N zb l11 l12 p0 c41 q47).bind λq53=>
    (Sh.app l51 [q53] 72).bind λl54=>
    (G0 N p0 l11 c41 l12 q47).bind λq56=>
    (Hv N p0 c41 q56 q47).bind λq58=>
    (G4 N 15 q58).bind λq60=>
    (Sh.app l54 q60 72).bind λl61=>
    (CS N q58 N 0 q56).bind λl67=>
    (Sh.app l11 [q44] 8).bind λl70=>
    (
     if (!decide (q44=0))=true then
      (Et N q47 (Sh.len l11)).bind λq83=>
      some q83
     else
      some false
    ).bind λt72=>
    if t72=true then
     (Sh.app l67 [Sh.len l11] 8).bind λl75=>
     some (l61,l70,l75)
    else
    if (!decide (q44=0))=true then
     (Gf 15 (Sh.len l11)).bind λq79=>
     (Sh.app l61 [q79] 72).bind λl80=>
     some (l80,l70,l67)
    else
     some (l61,l70,l67)
   ).bind λ(l36,l37,l38)=>
   DS N p0 p2 p4 zb n (Sh.w (k9+1)) l36 l37 l38
  else
   some (l10,l11,l12)
def HE (N:Nat)(zb:AL->(List Int)->Block->(List Int)->(List Int)->Option (Block))(p0:AL)(p1:(List Int))(p2:Block)(p3:(List Int))(p4:(List Int)):Option (Block):=
 (DB p1).bind λq4=>
 (DB p3).bind λq6=>
 (DS N p0 p2 p4 zb N 0 [] q4 q6).bind λ(l13,l14,l15)=>
 (
  Option.bind (
   (Sh.get l14 p2.result).bind λc27=>
   if (!decide (c27=0))=true then
    (Et N p4 p2.result).bind λq29=>
    if q29=true then
     some true
    else
     (Et N l15 p2.result).bind λq31=>
     some (!q31)
   else
    some false
  ) λt22=>
  if t22=true then
   (Gf 14 p2.result).bind λq25=>
   (Sh.app l13 [q25] 72).bind λl26=>
   some l26
  else
   some l13
 ).bind λl18=>
 some (Block.mk l18 p2.result)
def HA (N:Nat):Nat->AL->(List Int)->Block->(List Int)->(List Int)->Option (Block)
 | 0,_,_,_,_,_=>none
 | n+1,p0,p1,p2,p3,p4=>HE N (HA N n) p0 p1 p2 p3 p4
def Nn (N:Nat)(p0:AL)(p1:(List Int))(p2:Block)(p3:(List Int))(p4:(List Int)):Option (Block):=HA N N p0 p1 p2 p3 p4
def ET (N:Nat)(p1:Ad)(q3:(List Int)):Nat->Int->(List Int)->(List Int)->Option ((List Int)×(List Int))
 | 0,_,_,_=>none
 | n+1,i9,l10,l11=>
  if (decide (i9<(Sh.len p1.params)))=true then
   (
    Option.bind (
     (Sh.get p1.params i9).bind λc37=>
     if (!decide (c37=0))=true then
      (Et N p1.Aq i9).bind λq39=>
      some (!q39)
     else
      some false
    ) λt29=>
    if t29=true then
     (Et N q3 i9).bind λq33=>
     if q33=true then
      (Sh.app l10 [i9] 8).bind λl35=>
      some (l35,l11)
     else
      (Sh.app l11 [i9] 8).bind λl36=>
      some (l10,l36)
    else
     some (l10,l11)
   ).bind λ(l25,l26)=>
   ET N p1 q3 n (Sh.w (i9+1)) l25 l26
  else
   some (l10,l11)
def KQ (N:Nat)(p0:AL)(p1:Ad):Option (Block):=
 (LV N p1.body (Sh.len p1.params)).bind λq3=>
 (ET N p1 q3 N 0 [] []).bind λ(l12,l13)=>
 (Nn N p0 p1.params p1.body l12 ([]:List Int)).bind λq16=>
 (G4 N 15 l13).bind λq18=>
 (Sh.app q18 q16.steps 72).bind λl19=>
 some (Block.mk l19 q16.result)
def GP (N:Nat)(p0:AL):Nat->Int->(List Ad)->Option (List Ad)
 | 0,_,_=>none
 | n+1,i6,l7=>
  if (decide (i6<(Sh.len p0.AF)))=true then
   (Sh.get p0.AF i6).bind λc15=>
   (KQ N p0 c15).bind λq16=>
   (NL c15 q16).bind λq17=>
   (Sh.app l7 [q17] 88).bind λl18=>
   GP N p0 n (Sh.w (i6+1)) l18
  else
   some l7
def L3 (N:Nat)(p0:AL):Option (AL):=
 (KX N p0.decls).bind λq3=>
 (GP N p0 N 0 []).bind λl8=>
 some (AL.mk q3 l8)
def Oa (N:Nat)(p0:AL):Option (AL×Bool):=
 (JX N p0).bind λq4=>
 if (!q4)=true then
  some (AL.mk [] [],false)
 else
  (L3 N p0).bind λq10=>
  (PW N q10).bind λq11=>
  some (q11.1,q11.2)
def CU (N:Nat)(p0:(List Int))(p1:Int):Option (Bool):=
 (Bz N p0 p1).bind λq3=>
 some q3.2
def Co (N:Nat)(s1:(List Int))(s3_0:(List AP))(s3_1:(List Aw))(s3_3:(List Int))(s3_4:(List Int))(s4:(List Int))(s5:(List Step))(p0:Int):Option (Bool):=
 (
  Option.bind (CU N s1 p0) λq5=>
  if q5=true then
   some true
  else
   (CU N s3_4 p0).bind λq7=>
   some q7
 ).bind λt3=>
 some t3
def IA (N:Nat)(s1:(List Int))(s4:(List Int))(s6_0:(List AP))(s6_1:(List Aw))(s6_3:(List Int))(s6_4:(List Int))(s7:(List Int))(s8:(List Step))(p0:Int):Option (Bool):=
 (
  Option.bind (CU N s1 p0) λq5=>
  if q5=true then
   some true
  else
   (Co N s4 s6_0 s6_1 s6_3 s6_4 s7 s8 p0).bind λq7=>
   some q7
 ).bind λt3=>
 some t3
def EE (N:Nat)(s1:(List Int))(s4:(List Int))(s6_0:(List AP))(s6_1:(List Aw))(s6_3:(List Int))(s6_4:(List Int))(s7:(List Int))(s8:(List Step))(p0:(List Int)):Nat->Int->(List Int)->Option (List Int)
 | 0,_,_=>none
 | n+1,t5,l6=>
  if (decide (t5<(Sh.len p0)))=true then
   (
    Option.bind (Sh.get p0 t5) λc17=>
    (IA N s1 s4 s6_0 s6_1 s6_3 s6_4 s7 s8 c17).bind λq19=>
    if q19=true then
     (Sh.app l6 [c17] 8).bind λl21=>
     some l21
    else
     some l6
   ).bind λl14=>
   EE N s1 s4 s6_0 s6_1 s6_3 s6_4 s7 s8 p0 n (Sh.w (t5+1)) l14
  else
   some l6
def GS (N:Nat)(s1:(List Int))(s4:(List Int))(s6_0:(List AP))(s6_1:(List Aw))(s6_3:(List Int))(s6_4:(List Int))(s7:(List Int))(s8:(List Step))(p0:(List Int)):Option (List Int):=
 (EE N s1 s4 s6_0 s6_1 s6_3 s6_4 s7 s8 p0 N 0 []).bind λl7=>
 some l7
def EA (N:Nat)(s1:(List Int))(s3_0:(List AP))(s3_1:(List Aw))(s3_3:(List Int))(s3_4:(List Int))(s4:(List Int))(s5:(List Step))(p0:(List Int)):Nat->Int->(List Int)->Option (List Int)
 | 0,_,_=>none
 | n+1,t5,l6=>
  if (decide (t5<(Sh.len p0)))=true then
   (
    Option.bind (Sh.get p0 t5) λc17=>
    (Co N s1 s3_0 s3_1 s3_3 s3_4 s4 s5 c17).bind λq19=>
    if q19=true then
     (Sh.app l6 [c17] 8).bind λl21=>
     some l21
    else
     some l6
   ).bind λl14=>
   EA N s1 s3_0 s3_1 s3_3 s3_4 s4 s5 p0 n (Sh.w (t5+1)) l14
  else
   some l6
def Hk (N:Nat)(s1:(List Int))(s3_0:(List AP))(s3_1:(List Aw))(s3_3:(List Int))(s3_4:(List Int))(s4:(List Int))(s5:(List Step))(p0:(List Int)):Option (List Int):=
 (EA N s1 s3_0 s3_1 s3_3 s3_4 s4 s5 p0 N 0 []).bind λl7=>
 some l7
def CO (N:Nat)(f48:(List Int))(zW:(List Int)):Nat->Int->(List Step)->Option (List Step)
 | 0,_,_=>none
 | n+1,t53,l54=>
  if (decide (t53<(Sh.len zW)))=true then
   (
    Option.bind (Sh.get zW t53) λc67=>
    (CU N f48 c67).bind λq69=>
    if (!q69)=true then
     (Fx 15 c67).bind λq72=>
     (Sh.app l54 [q72] 72).bind λl73=>
     some l73
    else
     some l54
   ).bind λl64=>
   CO N f48 zW n (Sh.w (t53+1)) l64
  else
   some l54
def CM (N:Nat)(c38:(List Int))(s1:(List Int))(q36:(List Int)):Nat->Int->(List Int)->(List Step)->Option ((List Int)×(List Step))
 | 0,_,_,_=>none
 | n+1,t45,f46,l47=>
  if (decide (t45<(Sh.len c38)))=true then
   (
    Option.bind (Sh.get c38 t45) λc86=>
    (
     if (!decide (c86=0))=true then
      (CU N q36 (Sh.w ((Sh.len s1)+t45))).bind λq100=>
      some q100
     else
      some false
    ).bind λt89=>
    if t89=true then
     (Fx 14 (Sh.w ((Sh.len s1)+t45))).bind λq93=>
     (Sh.app l47 [q93] 72).bind λl94=>
     (Dj N f46 (Sh.w ((Sh.len s1)+t45))).bind λq97=>
     some (q97,l94)
    else
     some (f46,l47)
   ).bind λ(f82,l83)=>
   CM N c38 s1 q36 n (Sh.w (t45+1)) f82 l83
  else
   some (f46,l47)
def CN (N:Nat)(l12:(List (List Int)))(l7:(List Int))(zR:(List AP))(zS:(List Aw))(zW:(List Int))(zT:(List Int))(s1:(List Int))(s2:(List Step))(s4:(List Int))(p1:Step)(ze:(List AP)->(List Aw)->(List Int)->(List Int)->(List Int)->(List Step)->Block->Option (Block×(List Int)×(List Int)×(List Step))):Nat->Int->(List Block)->Option (List Block)
 | 0,_,_=>none
 | n+1,t17,l18=>
  if (decide (t17<(Sh.len p1.kids)))=true then
   (Sh.get p1.kids t17).bind λc34=>
   (II N c34 0).bind λq36=>
   (Sh.get l12 t17).bind λc38=>
   (Dk N [s1,c38]).bind λq39=>
   (GS N q36 s4 zR zS zW zT s1 s2 zW).bind λq42=>
   (CM N c38 s1 q36 N 0 q42 []).bind λ(f48,l49)=>
   (CO N f48 zW N 0 l49).bind λl55=>
   (ze zR zS f48 l7 q39 l55 c34).bind λq57=>
   (Sh.app l18 [Block.mk q57.2.2.2 q57.1.result] 32).bind λl58=>
   CN N l12 l7 zR zS zW zT s1 s2 s4 p1 ze n (Sh.w (t17+1)) l58
  else
   some l18
def DV (N:Nat)(zR:(List AP))(zS:(List Aw))(zW:(List Int))(zT:(List Int))(s1:(List Int))(s2:(List Step))(s4:(List Int)):Nat->Int->(List Int)->Option (List Int)
 | 0,_,_=>none
 | n+1,t5,l6=>
  if (decide (t5<(Sh.len s1)))=true then
   (
    Option.bind (Co N s4 zR zS zW zT s1 s2 t5) λq53=>
    if q53=true then
     (Sh.app l6 [t5] 8).bind λl55=>
     some l55
    else
     some l6
   ).bind λl49=>
   DV N zR zS zW zT s1 s2 s4 n (Sh.w (t5+1)) l49
  else
   some l6
def HY (N:Nat)(ze:(List AP)->(List Aw)->(List Int)->(List Int)->(List Int)->(List Step)->Block->Option (Block×(List Int)×(List Int)×(List Step)))(zR:(List AP))(zS:(List Aw))(zW:(List Int))(zT:(List Int))(s1:(List Int))(s2:(List Step))(s4:(List Int))(p1:Step):Option ((List Int)×(List Int)×(List Step)×(List Int)):=
 (DV N zR zS zW zT s1 s2 s4 N 0 []).bind λl7=>
 (Sh.mk [] (Sh.len p1.kids) 24).bind λl10=>
 (
  if (decide (p1.op=8))=true then
   (Cc N (Ap.mk zR zS) p1.num).bind λq43=>
   some q43
  else
   some l10
 ).bind λl12=>
 (CN N l12 l7 zR zS zW zT s1 s2 s4 p1 ze N 0 []).bind λl19=>
 (JZ l19 p1).bind λq22=>
 (Sh.app s2 [Step.mk q22.op q22.num q22.BF q22.args l19] 72).bind λl23=>
 (Hk N s4 zR zS zW zT s1 l23 zW).bind λq26=>
 some (s1,q26,l23,s4)
def IB (zR p0:Int):Option (Bool):=
 some (!decide (p0=zR))
def ED (zR:Int)(p0:(List Int)):Nat->Int->(List Int)->Option (List Int)
 | 0,_,_=>none
 | n+1,t5,l6=>
  if (decide (t5<(Sh.len p0)))=true then
   (
    Option.bind (Sh.get p0 t5) λc17=>
    (IB zR c17).bind λq19=>
    if q19=true then
     (Sh.app l6 [c17] 8).bind λl21=>
     some l21
    else
     some l6
   ).bind λl14=>
   ED zR p0 n (Sh.w (t5+1)) l14
  else
   some l6
def I3 (N:Nat)(zR:Int)(p0:(List Int)):Option (List Int):=
 (ED zR p0 N 0 []).bind λl7=>
 some l7
def GN (N:Nat)(p0:(List Int))(p1:Int):Option (List Int):=
 (I3 N p1 p0).bind λq3=>
 some q3
def Io (p0:Step):Option (Step):=
 (Bu p0.args).bind λq3=>
 some (Step.mk p0.op p0.num p0.BF q3 [])
def Dq (N:Nat)(zR:(List AP))(zS:(List Aw))(zT:(List Int))(s1:(List Int))(s4:(List Int))(q3:(List Int)×(List Int)):Nat->Int->(List Int)->(List Step)->Option ((List Int)×(List Step))
 | 0,_,_,_=>none
 | n+1,t20,f21,l22=>
  if (decide (t20<(Sh.len q3.2)))=true then
   (
    Option.bind (Sh.get q3.2 t20) λc34=>
    (
     Option.bind (CU N f21 c34) λq46=>
     if q46=true then
      (Co N s4 zR zS f21 zT s1 l22 c34).bind λq48=>
      some (!q48)
     else
      some false
    ).bind λt36=>
    if t36=true then
     (Fx 15 c34).bind λq40=>
     (Sh.app l22 [q40] 72).bind λl41=>
     (GN N f21 c34).bind λq44=>
     some (q44,l41)
    else
     some (f21,l22)
   ).bind λ(f30,l31)=>
   Dq N zR zS zT s1 s4 q3 n (Sh.w (t20+1)) f30 l31
  else
   some (f21,l22)
def Dv (N:Nat)(zR:(List AP))(zS:(List Aw))(zT:(List Int))(s1:(List Int))(s4:(List Int))(p1:Step)(q3:(List Int)×(List Int)):Nat->Int->(List Int)->(List Step)->Option ((List Int)×(List Step))
 | 0,_,_,_=>none
 | n+1,t7,f8,l9=>
  if (decide (t7<(Sh.len q3.1)))=true then
   (
    Option.bind (Sh.get q3.1 t7) λc58=>
    (Sh.get p1.args c58).bind λc60=>
    (
     Option.bind (Co N s4 zR zS f8 zT s1 l9 c60) λq71=>
     if q71=true then
      some true
     else
      (CU N f8 c60).bind λq73=>
      if (!q73)=true then
       some true
      else
       (Sh.sl p1.args (Sh.w (c58+1)) (Sh.len p1.args)).bind λl75=>
       (DE N l75 c60).bind λq76=>
       if q76=true then
        some true
       else
        (CU N q3.2 c60).bind λq78=>
        some q78
    ).bind λt62=>
    if t62=true then
     (Fx 14 c60).bind λq65=>
     (Sh.app l9 [q65] 72).bind λl66=>
     some (f8,l66)
    else
     (GN N f8 c60).bind λq70=>
     some (q70,l9)
   ).bind λ(f54,l55)=>
   Dv N zR zS zT s1 s4 p1 q3 n (Sh.w (t7+1)) f54 l55
  else
   some (f8,l9)
def Fu (N:Nat)(zR:(List AP))(zS:(List Aw))(zW:(List Int))(zT:(List Int))(s1:(List Int))(s2:(List Step))(s4:(List Int))(p1:Step):Option ((List Int)×(List Int)×(List Step)×(List Int)):=
 (Gn N s1 (Ap.mk zR zS) p1).bind λq3=>
 (Dv N zR zS zT s1 s4 p1 q3 N 0 zW s2).bind λ(f10,l11)=>
 (Io p1).bind λq14=>
 (Sh.app l11 [q14] 72).bind λl15=>
 (Dq N zR zS zT s1 s4 q3 N 0 f10 l15).bind λ(f23,l24)=>
 some (s1,f23,l24,s4)
def CZ (N:Nat)(zR:(List AP))(zS:(List Aw))(zT:(List Int))(p1:Block)(ze:(List AP)->(List Aw)->(List Int)->(List Int)->(List Int)->(List Step)->Block->Option (Block×(List Int)×(List Int)×(List Step))):Nat->Int->(List Int)->(List Int)->(List Step)->Option ((List Int)×(List Int)×(List Step))
 | 0,_,_,_,_=>none
 | n+1,t4,f5,l6,l7=>
  if (decide (t4<(Sh.len p1.steps)))=true then
   (
    Option.bind (Sh.get p1.steps t4) λc42=>
    (II N p1 (Sh.w (t4+1))).bind λq44=>
    (Bx N (Bn N) (Ap.mk zR zS) l6 c42).bind λq47=>
    (
     Option.bind (
      if (decide (c42.op=7))=true then
       some true
      else
       some (decide (c42.op=8))
     ) λt60=>
     if t60=true then
      (HY N ze zR zS f5 zT l6 l7 q44 c42).bind λq63=>
      some (q63.2.1,q63.1,q63.2.2.1,q63.2.2.2)
     else
      (Fu N zR zS f5 zT l6 l7 q44 c42).bind λq64=>
      some (q64.2.1,q64.1,q64.2.2.1,q64.2.2.2)
    ).bind λ(f51,l52,l53,l54)=>
    (Sh.app l52 [q47.1] 8).bind λl57=>
    if (decide (q47.1=0))=true then
     some (f51,l57,l53)
    else
     (Co N l54 zR zS f51 zT l57 l53 (Sh.len l6)).bind λq62=>
     if q62=true then
      (Dj N f51 (Sh.len l6)).bind λq64=>
      some (q64,l57,l53)
     else
      (Fx 15 (Sh.len l6)).bind λq66=>
      (Sh.app l53 [q66] 72).bind λl67=>
      some (f51,l57,l67)
   ).bind λ(f37,l38,l39)=>
   CZ N zR zS zT p1 ze n (Sh.w (t4+1)) f37 l38 l39
  else
   some (f5,l6,l7)
def Fv (N:Nat)(ze:(List AP)->(List Aw)->(List Int)->(List Int)->(List Int)->(List Step)->Block->Option (Block×(List Int)×(List Int)×(List Step)))(zR:(List AP))(zS:(List Aw))(zW:(List Int))(zT:(List Int))(s1:(List Int))(s2:(List Step))(p1:Block):Option (Block×(List Int)×(List Int)×(List Step)):=
 (CZ N zR zS zT p1 ze N 0 zW s1 s2).bind λ(f8,l9,l10)=>
 (
  Option.bind (
   (Sh.get l9 p1.result).bind λc28=>
   if (!decide (c28=0))=true then
    (CU N zT p1.result).bind λq30=>
    if q30=true then
     some true
    else
     (CU N f8 p1.result).bind λq32=>
     some (!q32)
   else
    some false
  ) λt19=>
  if t19=true then
   (Fx 14 p1.result).bind λq22=>
   (Sh.app l10 [q22] 72).bind λl23=>
   some l23
  else
   some l10
 ).bind λl13=>
 some (Block.mk l13 p1.result,l9,f8,l13)
def Ev (N:Nat):Nat->(List AP)->(List Aw)->(List Int)->(List Int)->(List Int)->(List Step)->Block->Option (Block×(List Int)×(List Int)×(List Step))
 | 0,_,_,_,_,_,_,_=>none
 | n+1,zR,zS,zW,zT,s1,s2,p1=>Fv N (Ev N n) zR zS zW zT s1 s2 p1
def Ll (N:Nat)(zR:(List AP))(zS:(List Aw))(zW:(List Int))(zT:(List Int))(s1:(List Int))(s2:(List Step))(p1:Block):Option (Block×(List Int)×(List Int)×(List Step)):=Ev N N zR zS zW zT s1 s2 p1
def CC (N:Nat)(p1:Ad)(q3:(List Int)):Nat->(List Int)->Int->(List Step)->Option ((List Int)×(List Step))
 | 0,_,_,_=>none
 | n+1,owned8,t9,l10=>
  if (decide (t9<(Sh.len p1.params)))=true then
   (
    Option.bind (Sh.get p1.params t9) λc25=>
    (
     if (decide (c25=0))=true then
      some true
     else
      (DE N p1.Aq t9).bind λq38=>
      some q38
    ).bind λt27=>
    if t27=true then
     some (owned8,l10)
    else
     (CU N q3 t9).bind λq31=>
     if q31=true then
      (Dj N owned8 t9).bind λq33=>
      some (q33,l10)
     else
      (Fx 15 t9).bind λq34=>
      (Sh.app l10 [q34] 72).bind λl35=>
      some (owned8,l35)
   ).bind λ(owned21,l22)=>
   CC N p1 q3 n owned21 (Sh.w (t9+1)) l22
  else
   some (owned8,l10)
def E8 (N:Nat)(p0:Ap)(p1:Ad)(p2:Block):Option (Block):=
 (II N p2 0).bind λq3=>
 (CC N p1 q3 N [] 0 []).bind λ(owned11,l12)=>
 (Bu p1.params).bind λq15=>
 (Ll N p0.decls p0.funcs owned11 ([]:List Int) q15 l12 p2).bind λq18=>
 some (Block.mk q18.2.2.2 q18.1.result)
def CT (N:Nat)(p0:AL)(p1_0:Ap):Nat->Int->(List Ad)->Option (List Ad)
 | 0,_,_=>none
 | n+1,t6,l7=>
  if (decide (t6<(Sh.len p0.AF)))=true then
   (Sh.get p0.AF t6).bind λc16=>
   (Bu c16.params).bind λq17=>
   (Bu c16.Aq).bind λq18=>
   (E8 N p1_0 c16 c16.body).bind λq19=>
   (Sh.app l7 [Ad.mk q17 q18 c16.result q19] 88).bind λl20=>
   CT N p0 p1_0 n (Sh.w (t6+1)) l20
  else
   some l7
def F4 (N:Nat)(p0:AL)(p1_0:Ap):Option (AL):=
 (Jm N p0.decls).bind λq3=>
 (CT N p0 p1_0 N 0 []).bind λl8=>
 some (AL.mk q3 l8)
def Mj (N:Nat)(p0:AL):Option (AL×Bool):=
 (Lx N p0).bind λq4=>
 if (!q4)=true then
  some (AL.mk [] [],false)
 else
  (G9 N p0).bind λq10=>
  (F4 N p0 q10.1).bind λq12=>
  (JC N q12).bind λq15=>
  if (!q15)=true then
   some (AL.mk [] [],false)
  else
   some (q12,true)
def KB (N:Nat)(p0:AL):Option (Bool):=
 (LL N p0 1048576).bind λq4=>
 if (decide (q4<0))=true then
  some true
 else
  (HW N p0).bind λq10=>
  (Oa N q10).bind λq11=>
  (HW N p0).bind λq13=>
  (Mj N q13).bind λq15=>
  (
   Option.bind (Hf N q15.1 q11.1) λq87=>
   if (!q87)=true then
    some true
   else
    some (q15.2 != q11.2)
  ).bind λt18=>
  if t18=true then
   some false
  else
   (HW N p0).bind λq24=>
   (Hf N q13 q24).bind λq25=>
   if (!q25)=true then
    some false
   else
    (IP N q13.decls q13.AF 1).bind λq32=>
    (
     if (decide (q32.1<0))=true then
      some true
     else
      (Hf N q15.1 q11.1).bind λq85=>
      if (!q85)=true then
       some true
      else
       some (q15.2 != q11.2)
    ).bind λt37=>
    if t37=true then
     some false
    else
     (IP N q15.1.decls q15.1.AF 1).bind λq43=>
     (IN N (AL.mk q43.2.1 q43.2.2) 1).bind λq48=>
     if (decide (q48<0))=true then
      some false
     else
     if (!decide (q48=q43.1))=true then
      some false
     else
      (HW N p0).bind λq60=>
      (Mj N q60).bind λq61=>
      (
       Option.bind (Hf N q61.1 q11.1) λq82=>
       if (!q82)=true then
        some true
       else
        some (q61.2 != q11.2)
      ).bind λt64=>
      if t64=true then
       some false
      else
       (IN N (AL.mk q43.2.1 q43.2.2) 1).bind λq70=>
       if (decide (q70<0))=true then
        some false
       else
       if (!decide (q70=q43.1))=true then
        some false
       else
        some true
end RC
