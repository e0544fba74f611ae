import Derived.Test.YtihdgoiebmfapaaGreatGAbsZPToSSDefs
import Derived.Test.YtihdgoiebmfapaaGreatSufC
import Derived.Test.YtihdgoiebmfapaaGreatSufD
import Derived.Test.YtihdgoiebmfapaaGreatSufF
namespace RC
def XP (p0:(List Int))(p1:Int):Option (Int):=
 if (decide ((Sh.w (p1-(Sh.len p0)))<0))=true then
  some (-1)
 else
  some (Sh.w (p1-(Sh.len p0)))
def DX (p0 p1 p2:Int):Option (Bool):=
 (
  if (decide (p1<=p0))=true then
   some (decide (p0<=p2))
  else
   some false
 ).bind λt3=>
 some t3
def CP (p0:(List Int)):Option (List Int):=
 (Sh.app ([]:List Int) p0 8).bind λl6=>
 some l6
end RC
namespace RC
def ZD (p0:Db)(p1:Int):Option (Int):=
 (XP p0.fields p1).bind λq3=>
 if (decide (q3<0))=true then
  some (-1)
 else
  some q3
def UF (p0:(List Db)):Nat->Int->Int->Option ((Int) ⊕ (Int))
 | 0,_,_=>none
 | n+1,left9,i10=>
  if (decide (i10<(Sh.len p0)))=true then
   (Sh.get p0 i10).bind λc19=>
   (ZD c19 left9).bind λq20=>
   if (decide (q20<0))=true then
    some (Sum.inl (-1))
   else
    UF p0 n q20 (Sh.w (i10+1))
  else
   some (Sum.inr left9)
def E8 (p0:(List AM))(p1:(List Int)):Nat->Int->Option ((Bool) ⊕ (Unit))
 | 0,_=>none
 | n+1,i4=>
  if (decide (i4<(Sh.len p1)))=true then
   (Sh.get p1 i4).bind λc12=>
   (DX c12 0 (Sh.len p0)).bind λq13=>
   if (!q13)=true then
    some (Sum.inl false)
   else
    E8 p0 p1 n (Sh.w (i4+1))
  else
   some (Sum.inr ())
def Hw (N:Nat)(p0:(List AM))(p1:(List Int)):Option (Bool):=
 Sh.cont (E8 p0 p1 N 0) (id) λ()=>
 some true
def En (N:Nat)(c3:AM)(p0:(List AM)):Nat->Int->Option ((Bool) ⊕ (Unit))
 | 0,_=>none
 | n+1,i15=>
  if (decide (i15<(Sh.len c3.cons)))=true then
   (
    Option.bind (Sh.get c3.cons i15) λc27=>
    if (decide (3<(Sh.len c27.fields)))=true then
     some true
    else
     (Hw N p0 c27.fields).bind λq29=>
     some (!q29)
   ).bind λt23=>
   if t23=true then
    some (Sum.inl false)
   else
    En N c3 p0 n (Sh.w (i15+1))
  else
   some (Sum.inr ())
def Ep (c3:AM)(p0:(List AM))(p1:Int):Nat->Int->Option ((Bool) ⊕ (Unit))
 | 0,_=>none
 | n+1,i34=>
  if (decide (i34<p1))=true then
   (
    Option.bind (Sh.get p0 i34) λc51=>
    if (decide ((Sh.len c51.cons)=0))=true then
     if (decide (c51.from_=c3.from_))=true then
      some (decide (c51.to=c3.to))
     else
      some false
    else
     some false
   ).bind λt47=>
   if t47=true then
    some (Sum.inl false)
   else
    Ep c3 p0 p1 n (Sh.w (i34+1))
  else
   some (Sum.inr ())
def IV (N:Nat)(p0:(List AM))(p1:Int):Option (Bool):=
 (Sh.get p0 p1).bind λc3=>
 if (decide (0<(Sh.len c3.cons)))=true then
  (
   if (decide (3<(Sh.len c3.cons)))=true then
    some true
   else
   if (!decide (c3.from_=0))=true then
    some true
   else
    some (!decide (c3.to=0))
  ).bind λt9=>
  if t9=true then
   some false
  else
   Sh.cont (En N c3 p0 N 0) (id) λ()=>
   some true
 else
  Sh.cont (Ep c3 p0 p1 N 0) (id) λ()=>
  (
   Option.bind (DX c3.from_ 0 (Sh.len p0)) λq39=>
   if q39=true then
    (DX c3.to 0 (Sh.len p0)).bind λq41=>
    some q41
   else
    some false
  ).bind λt37=>
  some t37
def ES (N:Nat)(p0:(List AM)):Nat->Int->Option ((Bool) ⊕ (Unit))
 | 0,_=>none
 | n+1,i8=>
  if (decide (i8<(Sh.len p0)))=true then
   (IV N p0 i8).bind λq16=>
   if (!q16)=true then
    some (Sum.inl false)
   else
    ES N p0 n (Sh.w (i8+1))
  else
   some (Sum.inr ())
def H4 (N:Nat)(p0:(List AM)):Option (Bool):=
 if (decide (4<(Sh.len p0)))=true then
  some false
 else
  Sh.cont (ES N p0 N 0) (id) λ()=>
  some true
def EG (N:Nat)(p0:AP):Nat->Int->Option ((Bool) ⊕ (Unit))
 | 0,_=>none
 | n+1,i10=>
  if (decide (i10<(Sh.len p0.funcs)))=true then
   (Sh.get p0.funcs i10).bind λc22=>
   (
    if (decide (3<(Sh.len c22.params)))=true then
     some true
    else
     (Hw N p0.decls c22.params).bind λq29=>
     if (!q29)=true then
      some true
     else
      (DX c22.result 0 (Sh.len p0.decls)).bind λq31=>
      some (!q31)
   ).bind λt24=>
   if t24=true then
    some (Sum.inl false)
   else
    EG N p0 n (Sh.w (i10+1))
  else
   some (Sum.inr ())
def HC (N:Nat)(p0:AP):Option (Bool):=
 (
  Option.bind (H4 N p0.decls) λq32=>
  if (!q32)=true then
   some true
  else
   (DX (Sh.len p0.funcs) 1 4).bind λq34=>
   some (!q34)
 ).bind λt4=>
 if t4=true then
  some false
 else
  Sh.cont (EG N p0 N 0) (id) λ()=>
  (
   Option.bind (Sh.get p0.funcs 0) λc15=>
   if (decide ((Sh.len c15.params)=0))=true then
    some (decide (c15.result=0))
   else
    some false
  ).bind λt13=>
  some t13
def Eg (p0:(List AM))(p1:Int):Nat->Int->Int->Option (Int)
 | 0,_,_=>none
 | n+1,n5,i6=>
  if (decide (i6<p1))=true then
   (Sh.get p0 i6).bind λc14=>
   Eg p0 p1 n (Sh.w (n5+(Sh.len c14.cons))) (Sh.w (i6+1))
  else
   some n5
def GM (N:Nat)(p0:(List AM))(p1:Int):Option (Int):=
 (Eg p0 p1 N 0 0).bind λn7=>
 some n7
def D1 (N:Nat)(p0:(List AM))(p1:Int):Nat->Int->Option ((Int) ⊕ (Unit))
 | 0,_=>none
 | n+1,i4=>
  if (decide (i4<(Sh.len p0)))=true then
   (GM N p0 i4).bind λq12=>
   (Sh.get p0 i4).bind λc14=>
   (DX p1 q12 (Sh.w ((Sh.w (q12+(Sh.len c14.cons)))-1))).bind λq15=>
   if q15=true then
    some (Sum.inl (Sh.w (i4+1)))
   else
    D1 N p0 p1 n (Sh.w (i4+1))
  else
   some (Sum.inr ())
def GF (N:Nat)(p0:(List AM))(p1:Int):Option (Int):=
 Sh.cont (D1 N p0 p1 N 0) (id) λ()=>
 some (-1)
def Bv (N:Nat)(p0:(List AM))(p1:Int):Option (List Int):=
 (GF N p0 p1).bind λq3=>
 if (decide (q3<1))=true then
  some []
 else
  (Sh.get p0 (Sh.w (q3-1))).bind λc9=>
  (GM N p0 (Sh.w (q3-1))).bind λq10=>
  (Sh.get c9.cons (Sh.w (p1-q10))).bind λc11=>
  some c11.fields
def FR (N:Nat)(p0:(List AM))(p1:Int):Nat->Int->(List Int)->Option (List Int)
 | 0,_,_=>none
 | n+1,i12,l13=>
  (Sh.get p0 (Sh.w (p1-1))).bind λc19=>
  if (decide (i12<(Sh.len c19.cons)))=true then
   (GM N p0 (Sh.w (p1-1))).bind λq22=>
   (Sh.app l13 [Sh.w (q22+i12)] 8).bind λl23=>
   FR N p0 p1 n (Sh.w (i12+1)) l23
  else
   some l13
def GI (N:Nat)(p0:(List AM))(p1:Int):Option (List Int):=
 (DX p1 1 (Sh.len p0)).bind λq5=>
 if (!q5)=true then
  some []
 else
  (FR N p0 p1 N 0 []).bind λl14=>
  some l14
def HM (p0:(List AM))(p1:Int):Option (Bool):=
 (
  if (decide (0<=p1))=true then
   some (decide (p1<=(Sh.len p0)))
  else
   some false
 ).bind λt3=>
 some t3
def E6 (p0:(List AM))(p1:(List Int)):Nat->Int->Option ((Bool) ⊕ (Unit))
 | 0,_=>none
 | n+1,t4=>
  if (decide (t4<(Sh.len p1)))=true then
   (Sh.get p1 t4).bind λc12=>
   (HM p0 c12).bind λq14=>
   if (!q14)=true then
    some (Sum.inl false)
   else
    E6 p0 p1 n (Sh.w (t4+1))
  else
   some (Sum.inr ())
def G0 (N:Nat)(p0:(List AM))(p1:(List Int)):Option (Bool):=
 Sh.cont (E6 p0 p1 N 0) (id) λ()=>
 some true
def Dv (c16:AM)(l28:(List AM)):Nat->Int->Option ((Bool) ⊕ (Unit))
 | 0,_=>none
 | n+1,t29=>
  if (decide (t29<(Sh.len l28)))=true then
   (Sh.get l28 t29).bind λc36=>
   (
    if (decide ((Sh.len c16.cons)=0))=true then
     if (decide ((Sh.len c36.cons)=0))=true then
      if (decide (c36.from_=c16.from_))=true then
       some (decide (c36.to=c16.to))
      else
       some false
     else
      some false
    else
     some false
   ).bind λt38=>
   if t38=true then
    some (Sum.inl false)
   else
    Dv c16 l28 n (Sh.w (t29+1))
  else
   some (Sum.inr ())
def Ds (N:Nat)(c16:AM)(p0:(List AM)):Nat->Int->Option ((Bool) ⊕ (Unit))
 | 0,_=>none
 | n+1,t25=>
  if (decide (t25<(Sh.len c16.cons)))=true then
   (Sh.get c16.cons t25).bind λc50=>
   (
    if (decide (3<(Sh.len c50.fields)))=true then
     some true
    else
     (G0 N p0 c50.fields).bind λq57=>
     some (!q57)
   ).bind λt52=>
   if t52=true then
    some (Sum.inl false)
   else
    Ds N c16 p0 n (Sh.w (t25+1))
  else
   some (Sum.inr ())
def ET (N:Nat)(p0:(List AM)):Nat->Int->Option ((Bool) ⊕ (Unit))
 | 0,_=>none
 | n+1,t8=>
  if (decide (t8<(Sh.len p0)))=true then
   (Sh.get p0 t8).bind λc16=>
   (
    Option.bind (HM p0 c16.from_) λq58=>
    if (!q58)=true then
     some true
    else
     (HM p0 c16.to).bind λq60=>
     if (!q60)=true then
      some true
     else
     if (decide (3<(Sh.len c16.cons)))=true then
      some true
     else
     if (decide (0<(Sh.len c16.cons)))=true then
      if (!decide (c16.from_=0))=true then
       some true
      else
       some (!decide (c16.to=0))
     else
      some false
   ).bind λt19=>
   if t19=true then
    some (Sum.inl false)
   else
    Sh.cont (Ds N c16 p0 N 0) (λx=>Sum.inl x) λ()=>
    (Sh.sl p0 0 t8).bind λl28=>
    Sh.cont (Dv c16 l28 N 0) (λx=>Sum.inl x) λ()=>
    ET N p0 n (Sh.w (t8+1))
  else
   some (Sum.inr ())
def Hi (N:Nat)(p0:(List AM)):Option (Bool):=
 if (decide (4<(Sh.len p0)))=true then
  some false
 else
  Sh.cont (ET N p0 N 0) (id) λ()=>
  some true
def EI (c18:Bt):Nat->Int->Option ((Bool) ⊕ (Unit))
 | 0,_=>none
 | n+1,t26=>
  if (decide (t26<(Sh.len c18.Fu)))=true then
   (Sh.get c18.Fu t26).bind λc33=>
   (
    if (decide (c33<0))=true then
     some true
    else
    if (decide ((Sh.len c18.params)<=c33))=true then
     some true
    else
     (Sh.get c18.params c33).bind λc41=>
     if (decide (c41=0))=true then
      some true
     else
     if (decide (0<t26))=true then
      (Sh.get c18.Fu (Sh.w (t26-1))).bind λc44=>
      some (decide (c33<=c44))
     else
      some false
   ).bind λt35=>
   if t35=true then
    some (Sum.inl false)
   else
    EI c18 n (Sh.w (t26+1))
  else
   some (Sum.inr ())
def EB (N:Nat)(p0:(List AM))(p1:(List Bt)):Nat->Int->Option ((Bool) ⊕ (Unit))
 | 0,_=>none
 | n+1,t10=>
  if (decide (t10<(Sh.len p1)))=true then
   (Sh.get p1 t10).bind λc18=>
   (
    if (decide (3<(Sh.len c18.params)))=true then
     some true
    else
     (G0 N p0 c18.params).bind λq46=>
     if (!q46)=true then
      some true
     else
      (HM p0 c18.result).bind λq48=>
      some (!q48)
   ).bind λt21=>
   if t21=true then
    some (Sum.inl false)
   else
    Sh.cont (EI c18 N 0) (λx=>Sum.inl x) λ()=>
    EB N p0 p1 n (Sh.w (t10+1))
  else
   some (Sum.inr ())
def IY (N:Nat)(p0:(List AM))(p1:(List Bt)):Option (Bool):=
 (
  Option.bind (Hi N p0) λq49=>
  if (!q49)=true then
   some true
  else
  if (decide ((Sh.len p1)<1))=true then
   some true
  else
  if (decide (4<(Sh.len p1)))=true then
   some true
  else
   (Sh.get p1 0).bind λc53=>
   if (decide (0<(Sh.len c53.params)))=true then
    some true
   else
    some (!decide (c53.result=0))
 ).bind λt4=>
 if t4=true then
  some false
 else
  Sh.cont (EB N p0 p1 N 0) (id) λ()=>
  some true
def Ej (p0:(List AM)):Nat->Int->Int->Option (Int)
 | 0,_,_=>none
 | n+1,n5,t6=>
  if (decide (t6<(Sh.len p0)))=true then
   (Sh.get p0 t6).bind λc15=>
   Ej p0 n (Sh.w (n5+(Sh.len c15.cons))) (Sh.w (t6+1))
  else
   some n5
def JM (N:Nat)(p0:(List AM)):Option (Int):=
 (Ej p0 N 0 0).bind λn7=>
 some n7
def FO (c14:AM)(q10:Int):Nat->Int->(List Int)->Option (List Int)
 | 0,_,_=>none
 | n+1,t15,l16=>
  if (decide (t15<(Sh.len c14.cons)))=true then
   (Sh.app l16 [Sh.w (q10+t15)] 8).bind λl25=>
   FO c14 q10 n (Sh.w (t15+1)) l25
  else
   some l16
def HS (N:Nat)(p0:(List AM))(p1:Int):Option (List Int):=
 (
  if (decide (p1<1))=true then
   some true
  else
   some (decide ((Sh.len p0)<p1))
 ).bind λt4=>
 if t4=true then
  some []
 else
  (Sh.sl p0 0 (Sh.w (p1-1))).bind λl9=>
  (JM N l9).bind λq10=>
  (Sh.get p0 (Sh.w (p1-1))).bind λc14=>
  (FO c14 q10 N 0 []).bind λl17=>
  some l17
def FG (p0:(List AM)):Nat->Int->Int->Option ((Int×Db) ⊕ (Unit))
 | 0,_,_=>none
 | n+1,c4,t5=>
  if (decide (t5<(Sh.len p0)))=true then
   (Sh.get p0 t5).bind λc13=>
   (
    if (decide (0<=c4))=true then
     some (decide (c4<(Sh.len c13.cons)))
    else
     some false
   ).bind λt16=>
   if t16=true then
    (Sh.get c13.cons c4).bind λc20=>
    some (Sum.inl (Sh.w (t5+1),c20))
   else
    FG p0 n (Sh.w (c4-(Sh.len c13.cons))) (Sh.w (t5+1))
  else
   some (Sum.inr ())
def IA (N:Nat)(p0:(List AM))(p1:Int):Option (Int×Db):=
 Sh.cont (FG p0 N p1 0) (id) λ()=>
 some (-1,Db.mk [])
def EJ (N:Nat)(p0:(List AM))(p1:Int):Option (List Int):=
 (IA N p0 p1).bind λq3=>
 some q3.2.fields
end RC
namespace RC
end RC
namespace RC
def NX (p0:(List AE))(rec_laws_szExpr:AE->Int->Option (Int)):Nat->Int->Int->Option ((Int) ⊕ (Int))
 | 0,_,_=>none
 | n+1,left9,i10=>
  if (decide (i10<(Sh.len p0)))=true then
   (Sh.get p0 i10).bind λc19=>
   (rec_laws_szExpr c19 left9).bind λq20=>
   if (decide (q20<0))=true then
    some (Sum.inl (-1))
   else
    NX p0 rec_laws_szExpr n q20 (Sh.w (i10+1))
  else
   some (Sum.inr left9)
def WQ (N:Nat)(rec_laws_szExpr:AE->Int->Option (Int))(p0:(List AE))(p1:Int):Option (Int):=
 if (decide ((Sh.w (p1-(Sh.len p0)))<0))=true then
  some (-1)
 else
  Sh.cont (NX p0 rec_laws_szExpr N (Sh.w (p1-(Sh.len p0))) 0) (id) λleft11=>
  some left11
def Uq (N:Nat)(rec_laws_szExpr:AE->Int->Option (Int))(p0:AE)(p1:Int):Option (Int):=
 (WQ N rec_laws_szExpr p0.kids p1).bind λq3=>
 if (decide (q3<0))=true then
  some (-1)
 else
  some q3
def Vq (N:Nat):Nat->AE->Int->Option (Int)
 | 0,_,_=>none
 | n+1,p0,p1=>Uq N (Vq N n) p0 p1
def Dg (p0:AE)(rec_spec_nodesLeft:AE->Int->Option (Int)):Nat->Int->Int->Option ((Int) ⊕ (Int))
 | 0,_,_=>none
 | n+1,left9,i10=>
  if (decide (i10<(Sh.len p0.kids)))=true then
   (Sh.get p0.kids i10).bind λc19=>
   (rec_spec_nodesLeft c19 left9).bind λq20=>
   if (decide (q20<0))=true then
    some (Sum.inl (-1))
   else
    Dg p0 rec_spec_nodesLeft n q20 (Sh.w (i10+1))
  else
   some (Sum.inr left9)
def Iw (N:Nat)(rec_spec_nodesLeft:AE->Int->Option (Int))(p0:AE)(p1:Int):Option (Int):=
 if (decide (p1<1))=true then
  some (-1)
 else
  Sh.cont (Dg p0 rec_spec_nodesLeft N (Sh.w (p1-1)) 0) (id) λleft11=>
  some left11
def E7 (N:Nat):Nat->AE->Int->Option (Int)
 | 0,_,_=>none
 | n+1,p0,p1=>Iw N (E7 N n) p0 p1
def LX (N:Nat)(p0:AE)(p1:Int):Option (Int):=E7 N N p0 p1
def Gl (N:Nat)(p0:AE):Option (Int):=
 (LX N p0 30).bind λq3=>
 if (decide (q3<0))=true then
  some (-1)
 else
  some (Sh.w (30-q3))
def Fb (p0:AP)(p1:(List Int))(p2:(List AE))(p3:Int)(rec_spec_typeOf:AP->(List Int)->AE->Option (Int)):Nat->Int->Option ((Bool) ⊕ (Unit))
 | 0,_=>none
 | n+1,i10=>
  if (decide (i10<p3))=true then
   (Sh.get p2 i10).bind λc18=>
   (rec_spec_typeOf p0 p1 c18).bind λq19=>
   if (!decide (q19=0))=true then
    some (Sum.inl false)
   else
    Fb p0 p1 p2 p3 rec_spec_typeOf n (Sh.w (i10+1))
  else
   some (Sum.inr ())
def Ib (N:Nat)(rec_spec_typeOf:AP->(List Int)->AE->Option (Int))(p0:AP)(p1:(List Int))(p2:(List AE))(p3:Int):Option (Bool):=
 if (!decide ((Sh.len p2)=p3))=true then
  some false
 else
  Sh.cont (Fb p0 p1 p2 p3 rec_spec_typeOf N 0) (id) λ()=>
  some true
def GS (p0:AP)(p1:(List Int))(p2:(List AE))(p3:(List Int))(rec_spec_typeOf:AP->(List Int)->AE->Option (Int)):Nat->Int->Option ((Bool) ⊕ (Unit))
 | 0,_=>none
 | n+1,i10=>
  if (decide (i10<(Sh.len p3)))=true then
   (Sh.get p2 i10).bind λc18=>
   (rec_spec_typeOf p0 p1 c18).bind λq19=>
   (Sh.get p3 i10).bind λc20=>
   if (!decide (q19=c20))=true then
    some (Sum.inl false)
   else
    GS p0 p1 p2 p3 rec_spec_typeOf n (Sh.w (i10+1))
  else
   some (Sum.inr ())
def JG (N:Nat)(rec_spec_typeOf:AP->(List Int)->AE->Option (Int))(p0:AP)(p1:(List Int))(p2:(List AE))(p3:(List Int)):Option (Bool):=
 if (!decide ((Sh.len p2)=(Sh.len p3)))=true then
  some false
 else
  Sh.cont (GS p0 p1 p2 p3 rec_spec_typeOf N 0) (id) λ()=>
  some true
def FJ (p0:(List Int)):Option (List Int):=
 (Sh.app ([]:List Int) p0 8).bind λl3=>
 some l3
def Ec (p0:(List Int))(p1:(List Int)):Option (List Int):=
 (FJ p0).bind λq3=>
 (Sh.app q3 p1 8).bind λl4=>
 some l4
def EC (N:Nat)(p0:AP)(p1:(List Int))(p2:AE)(q15:Int)(q3:(List Int))(rec_spec_typeOf:AP->(List Int)->AE->Option (Int)):Nat->Int->Option ((Int) ⊕ (Unit))
 | 0,_=>none
 | n+1,i18=>
  if (decide (i18<(Sh.len q3)))=true then
   (Sh.get q3 i18).bind λc26=>
   (Bv N p0.decls c26).bind λq27=>
   (Ec p1 q27).bind λq28=>
   (Sh.get p2.kids (Sh.w (1+i18))).bind λc29=>
   (rec_spec_typeOf p0 q28 c29).bind λq30=>
   if (!decide (q30=q15))=true then
    some (Sum.inl (-1))
   else
    EC N p0 p1 p2 q15 q3 rec_spec_typeOf n (Sh.w (i18+1))
  else
   some (Sum.inr ())
def Jp (N:Nat)(rec_spec_typeOf:AP->(List Int)->AE->Option (Int))(p0:AP)(p1:(List Int))(p2:AE):Option (Int):=
 (GI N p0.decls p2.num).bind λq3=>
 (
  if (decide ((Sh.len q3)=0))=true then
   some true
  else
  if (!decide ((Sh.len p2.kids)=(Sh.w (1+(Sh.len q3)))))=true then
   some true
  else
   (Sh.get p2.kids 0).bind λc37=>
   (rec_spec_typeOf p0 p1 c37).bind λq38=>
   some (!decide (q38=p2.num))
 ).bind λt6=>
 if t6=true then
  some (-1)
 else
  (Sh.get q3 0).bind λc11=>
  (Bv N p0.decls c11).bind λq12=>
  (Ec p1 q12).bind λq13=>
  (Sh.get p2.kids 1).bind λc14=>
  (rec_spec_typeOf p0 q13 c14).bind λq15=>
  Sh.cont (EC N p0 p1 p2 q15 q3 rec_spec_typeOf N 1) (id) λ()=>
  some q15
def Ew (p0:(List AM))(p1 p2:Int):Nat->Int->Option ((Int) ⊕ (Unit))
 | 0,_=>none
 | n+1,i4=>
  if (decide (i4<(Sh.len p0)))=true then
   (
    Option.bind (Sh.get p0 i4) λc16=>
    if (decide ((Sh.len c16.cons)=0))=true then
     if (decide (c16.from_=p1))=true then
      some (decide (c16.to=p2))
     else
      some false
    else
     some false
   ).bind λt12=>
   if t12=true then
    some (Sum.inl (Sh.w (i4+1)))
   else
    Ew p0 p1 p2 n (Sh.w (i4+1))
  else
   some (Sum.inr ())
def Ig (N:Nat)(p0:(List AM))(p1 p2:Int):Option (Int):=
 Sh.cont (Ew p0 p1 p2 N 0) (id) λ()=>
 some (-1)
def GP (N:Nat)(rec_spec_typeOf:AP->(List Int)->AE->Option (Int))(p0:AP)(p1:(List Int))(p2:AE):Option (Int):=
 (DX p2.num 0 (Sh.w ((Sh.len p0.funcs)-1))).bind λq4=>
 if (!q4)=true then
  some (-1)
 else
  (Sh.get p0.funcs p2.num).bind λc10=>
  if (decide (p2.op=9))=true then
   (JG N rec_spec_typeOf p0 p1 p2.kids c10.params).bind λq17=>
   if (!q17)=true then
    some (-1)
   else
    some c10.result
  else
   (
    if (decide ((Sh.len c10.params)=0))=true then
     some true
    else
     (Sh.sl c10.params 0 (Sh.w ((Sh.len c10.params)-1))).bind λl33=>
     (JG N rec_spec_typeOf p0 p1 p2.kids l33).bind λq34=>
     some (!q34)
   ).bind λt25=>
   if t25=true then
    some (-1)
   else
    (Sh.get c10.params (Sh.w ((Sh.len c10.params)-1))).bind λc30=>
    (Ig N p0.decls c30 c10.result).bind λq31=>
    some q31
def Gm (p0:(List AM))(p1:Int):Option (Bool):=
 (
  Option.bind (DX p1 1 (Sh.len p0)) λq5=>
  if q5=true then
   (Sh.get p0 (Sh.w (p1-1))).bind λc7=>
   some (decide ((Sh.len c7.cons)=0))
  else
   some false
 ).bind λt3=>
 some t3
def Bp (N:Nat)(rec_spec_typeOf:AP->(List Int)->AE->Option (Int))(p0:AP)(p1:(List Int))(p2:AE):Option (Int):=
 Sh.cont (
  if (decide (p2.op=0))=true then
   (
    if (decide ((Sh.len p2.kids)=0))=true then
     (DX p2.num (-999) 999).bind λq15=>
     some q15
    else
     some false
   ).bind λt10=>
   if t10=true then
    some (Sum.inl 0)
   else
    some (Sum.inr ())
  else
  if (decide (p2.op=12))=true then
   (
    if (decide ((Sh.len p2.kids)=0))=true then
     (DX p2.num 0 (Sh.w ((Sh.len p1)-1))).bind λq25=>
     some q25
    else
     some false
   ).bind λt19=>
   if t19=true then
    (Sh.get p1 p2.num).bind λc23=>
    some (Sum.inl c23)
   else
    some (Sum.inr ())
  else
   (
    if (decide (p2.op=1))=true then
     some true
    else
    if (decide (p2.op=2))=true then
     some true
    else
    if (decide (p2.op=3))=true then
     some true
    else
     some (decide (p2.op=4))
   ).bind λt27=>
   if t27=true then
    (
     if (decide (p2.num=0))=true then
      (Ib N rec_spec_typeOf p0 p1 p2.kids 2).bind λq36=>
      some q36
     else
      some false
    ).bind λt31=>
    if t31=true then
     some (Sum.inl 0)
    else
     some (Sum.inr ())
   else
   if (decide (p2.op=5))=true then
    (
     if (decide (p2.num=0))=true then
      (Ib N rec_spec_typeOf p0 p1 p2.kids 1).bind λq45=>
      some q45
     else
      some false
    ).bind λt40=>
    if t40=true then
     some (Sum.inl 0)
    else
     some (Sum.inr ())
   else
   if (decide (p2.op=6))=true then
    (
     Option.bind (GF N p0.decls p2.num) λq54=>
     if (decide (0<q54))=true then
      (Bv N p0.decls p2.num).bind λq56=>
      (JG N rec_spec_typeOf p0 p1 p2.kids q56).bind λq57=>
      some q57
     else
      some false
    ).bind λt49=>
    if t49=true then
     (GF N p0.decls p2.num).bind λq53=>
     some (Sum.inl q53)
    else
     some (Sum.inr ())
   else
   if (decide (p2.op=13))=true then
    (
     if (decide (p2.num=0))=true then
      some (decide ((Sh.len p2.kids)=2))
     else
      some false
    ).bind λt61=>
    if t61=true then
     (Sh.get p2.kids 0).bind λc65=>
     (rec_spec_typeOf p0 p1 c65).bind λq66=>
     if (decide (0<=q66))=true then
      (Ec p1 [q66]).bind λq70=>
      (Sh.get p2.kids 1).bind λc71=>
      (rec_spec_typeOf p0 q70 c71).bind λq72=>
      some (Sum.inl q72)
     else
      some (Sum.inr ())
    else
     some (Sum.inr ())
   else
   if (decide (p2.op=7))=true then
    (
     if (decide (p2.num=0))=true then
      if (decide ((Sh.len p2.kids)=3))=true then
       (Sh.get p2.kids 0).bind λc90=>
       (rec_spec_typeOf p0 p1 c90).bind λq91=>
       some (decide (q91=0))
      else
       some false
     else
      some false
    ).bind λt77=>
    if t77=true then
     (Sh.get p2.kids 1).bind λc81=>
     (rec_spec_typeOf p0 p1 c81).bind λq82=>
     (Sh.get p2.kids 2).bind λc84=>
     (rec_spec_typeOf p0 p1 c84).bind λq85=>
     if (decide (q85=q82))=true then
      some (Sum.inl q82)
     else
      some (Sum.inr ())
    else
     some (Sum.inr ())
   else
   if (decide (p2.op=8))=true then
    (Jp N rec_spec_typeOf p0 p1 p2).bind λq95=>
    some (Sum.inl q95)
   else
    (
     if (decide (p2.op=9))=true then
      some true
     else
      some (decide (p2.op=10))
    ).bind λt97=>
    if t97=true then
     (GP N rec_spec_typeOf p0 p1 p2).bind λq101=>
     some (Sum.inl q101)
    else
    if (decide (p2.op=11))=true then
     (
      if (decide (p2.num=0))=true then
       some (decide ((Sh.len p2.kids)=2))
      else
       some false
     ).bind λt105=>
     if t105=true then
      (Sh.get p2.kids 0).bind λc109=>
      (rec_spec_typeOf p0 p1 c109).bind λq110=>
      (
       Option.bind (Gm p0.decls q110) λq117=>
       if q117=true then
        (Sh.get p2.kids 1).bind λc119=>
        (rec_spec_typeOf p0 p1 c119).bind λq120=>
        (Sh.get p0.decls (Sh.w (q110-1))).bind λc121=>
        some (decide (q120=c121.from_))
       else
        some false
      ).bind λt112=>
      if t112=true then
       (Sh.get p0.decls (Sh.w (q110-1))).bind λc116=>
       some (Sum.inl c116.to)
      else
       some (Sum.inr ())
     else
      some (Sum.inr ())
    else
     some (Sum.inr ())
 ) (id) λ()=>
 some (-1)
def Cx (N:Nat):Nat->AP->(List Int)->AE->Option (Int)
 | 0,_,_,_=>none
 | n+1,p0,p1,p2=>Bp N (Cx N n) p0 p1 p2
def KC (N:Nat)(p0:AP)(p1:(List Int))(p2:AE):Option (Int):=Cx N N p0 p1 p2
def CI (N:Nat)(p0:AP):Nat->Int->Option ((Bool) ⊕ (Unit))
 | 0,_=>none
 | n+1,i11=>
  if (decide (i11<(Sh.len p0.funcs)))=true then
   (
    Option.bind (Sh.get p0.funcs i11) λc23=>
    (Gl N c23.body).bind λq24=>
    if (decide (q24<0))=true then
     some true
    else
     (KC N p0 c23.params c23.body).bind λq26=>
     some (!decide (q26=c23.result))
   ).bind λt19=>
   if t19=true then
    some (Sum.inl false)
   else
    CI N p0 n (Sh.w (i11+1))
  else
   some (Sum.inr ())
def Bm (N:Nat)(p0:AP):Option (Bool):=
 (HC N p0).bind λq4=>
 if (!q4)=true then
  some false
 else
  Sh.cont (CI N p0 N 0) (id) λ()=>
  some true
def Dk (p0:AP):Nat->Int->(List Bt)->Option (List Bt)
 | 0,_,_=>none
 | n+1,t9,l10=>
  if (decide (t9<(Sh.len p0.funcs)))=true then
   (Sh.get p0.funcs t9).bind λc20=>
   (Sh.app l10 ([Bt.mk c20.params [] c20.result]) 56).bind λl21=>
   Dk p0 n (Sh.w (t9+1)) l21
  else
   some l10
def HB (N:Nat)(p0:AP):Option (Bool):=
 if (decide (4<(Sh.len p0.funcs)))=true then
  some false
 else
  (Dk p0 N 0 []).bind λl11=>
  (IY N p0.decls l11).bind λq14=>
  some q14
def DN (p0:AE)(rec_impl_countNodes:Int->AE->Option (Bool×Int)):Nat->Int->Int->Option ((Bool×Int) ⊕ (Int))
 | 0,_,_=>none
 | n+1,t9,f10=>
  if (decide (t9<(Sh.len p0.kids)))=true then
   (Sh.get p0.kids t9).bind λc19=>
   (rec_impl_countNodes f10 c19).bind λq21=>
   if (!q21.1)=true then
    some (Sum.inl (false,q21.2))
   else
    DN p0 rec_impl_countNodes n (Sh.w (t9+1)) q21.2
  else
   some (Sum.inr f10)
def ID (N:Nat)(rec_impl_countNodes:Int->AE->Option (Bool×Int))(s0_0:Int)(p0:AE):Option (Bool×Int):=
 if (decide (30<(Sh.w (s0_0+1))))=true then
  some (false,Sh.w (s0_0+1))
 else
  Sh.cont (DN p0 rec_impl_countNodes N 0 (Sh.w (s0_0+1))) (id) λf11=>
  some (true,f11)
def Er (N:Nat):Nat->Int->AE->Option (Bool×Int)
 | 0,_,_=>none
 | n+1,s0_0,p0=>ID N (Er N n) s0_0 p0
def Km (N:Nat)(s0_0:Int)(p0:AE):Option (Bool×Int):=Er N N s0_0 p0
def Ih (N:Nat)(p0:AE):Option (Int):=
 (Km N 0 p0).bind λq5=>
 if (!q5.1)=true then
  some (-1)
 else
  some q5.2
def FM (p0:AP):Nat->Int->(List Bt)->Option (List Bt)
 | 0,_,_=>none
 | n+1,t5,l6=>
  if (decide (t5<(Sh.len p0.funcs)))=true then
   (Sh.get p0.funcs t5).bind λc15=>
   (Sh.app l6 ([Bt.mk c15.params [] c15.result]) 56).bind λl16=>
   FM p0 n (Sh.w (t5+1)) l16
  else
   some l6
def KU (N:Nat)(p0:AP):Option (BO):=
 (FM p0 N 0 []).bind λl7=>
 some (BO.mk p0.decls l7)
def GR (p1:Int):Option (List Int):=
 if (decide (p1<0))=true then
  none
 else
  (
   if (decide (0<(Sh.w (p1-(Sh.w (0-0))))))=true then
    (Sh.mk 0 (Sh.w (p1-(Sh.w (0-0)))) 8).bind λl12=>
    (Sh.hi l12 0).bind λl13=>
    some l13
   else
    some []
  ).bind λl6=>
  some l6
def Cg (p0:(List (List Int))):Nat->Int->(List Int)->Option (List Int)
 | 0,_,_=>none
 | n+1,t13,l14=>
  if (decide (t13<(Sh.len p0)))=true then
   (Sh.get p0 t13).bind λc23=>
   (Sh.app l14 c23 8).bind λl24=>
   Cg p0 n (Sh.w (t13+1)) l24
  else
   some l14
def Cf (p0:(List (List Int))):Nat->Int->Int->Option (Int)
 | 0,_,_=>none
 | n+1,size5,t6=>
  if (decide (t6<(Sh.len p0)))=true then
   (Sh.get p0 t6).bind λc30=>
   if (decide ((Sh.w (size5+(Sh.len c30)))<0))=true then
    none
   else
    Cf p0 n (Sh.w (size5+(Sh.len c30))) (Sh.w (t6+1))
  else
   some size5
def Fi (N:Nat)(p0:(List (List Int))):Option (List Int):=
 (Cf p0 N 0 0).bind λsize7=>
 (GR size7).bind λq10=>
 (Cg p0 N 0 q10).bind λl15=>
 some l15
def Bg (N:Nat)(p0:BO)(p1:(List Int))(p2:(List AE))(p3:(List (List Int)))(rec_impl_signatures_typeOf:(List Int)->BO->AE->Option (Int)):Nat->Int->Int->Option ((Int) ⊕ (Int))
 | 0,_,_=>none
 | n+1,result5,t6=>
  if (decide (t6<(Sh.len p2)))=true then
   (Sh.get p2 t6).bind λc15=>
   (Sh.get p3 t6).bind λc17=>
   (Fi N [p1,c17]).bind λq18=>
   (rec_impl_signatures_typeOf q18 p0 c15).bind λq19=>
   (
    if (decide (q19<0))=true then
     some true
    else
    if (decide (0<t6))=true then
     some (!decide (q19=result5))
    else
     some false
   ).bind λt23=>
   if t23=true then
    some (Sum.inl (-1))
   else
    Bg N p0 p1 p2 p3 rec_impl_signatures_typeOf n q19 (Sh.w (t6+1))
  else
   some (Sum.inr result5)
def EO (N:Nat)(rec_impl_signatures_typeOf:(List Int)->BO->AE->Option (Int))(p0:BO)(p1:(List Int))(p2:(List AE))(p3:(List (List Int))):Option (Int):=
 Sh.cont (Bg N p0 p1 p2 p3 rec_impl_signatures_typeOf N (-1) 0) (id) λresult7=>
 some result7
def Jl (p0:(List AM))(p1:Int):Option (AM×Bool):=
 (
  if (decide (p1<1))=true then
   some true
  else
  if (decide ((Sh.len p0)<p1))=true then
   some true
  else
   (Sh.get p0 (Sh.w (p1-1))).bind λc12=>
   some (decide (0<(Sh.len c12.cons)))
 ).bind λt4=>
 if t4=true then
  some (AM.mk 0 0 [],false)
 else
  (Sh.get p0 (Sh.w (p1-1))).bind λc9=>
  some (c9,true)
def DB (p0:(List Int))(p1:(List Int)):Nat->Int->Option ((Bool) ⊕ (Unit))
 | 0,_=>none
 | n+1,t10=>
  if (decide (t10<(Sh.len p0)))=true then
   (Sh.get p0 t10).bind λc19=>
   (Sh.get p1 t10).bind λc20=>
   if (!decide (c19=c20))=true then
    some (Sum.inl false)
   else
    DB p0 p1 n (Sh.w (t10+1))
  else
   some (Sum.inr ())
def DR (N:Nat)(p0:(List Int))(p1:(List Int)):Option (Bool):=
 if (!decide ((Sh.len p0)=(Sh.len p1)))=true then
  some false
 else
  Sh.cont (DB p0 p1 N 0) (id) λ()=>
  some true
def E1 (p0:(List AM))(p1 p2:Int):Nat->Int->Option ((Int) ⊕ (Unit))
 | 0,_=>none
 | n+1,t4=>
  if (decide (t4<(Sh.len p0)))=true then
   (Sh.get p0 t4).bind λc12=>
   (
    if (decide ((Sh.len c12.cons)=0))=true then
     if (decide (c12.from_=p1))=true then
      some (decide (c12.to=p2))
     else
      some false
    else
     some false
   ).bind λt14=>
   if t14=true then
    some (Sum.inl (Sh.w (t4+1)))
   else
    E1 p0 p1 p2 n (Sh.w (t4+1))
  else
   some (Sum.inr ())
def Jg (N:Nat)(p0:(List AM))(p1 p2:Int):Option (Int):=
 Sh.cont (E1 p0 p1 p2 N 0) (id) λ()=>
 some (-1)
def BI (N:Nat)(p0:BO)(p1 p2:Int)(p3:(List Int)):Option (Int×Bool):=
 Sh.cont (
  if (decide (p1=0))=true then
   (
    if (decide ((-999)<=p2))=true then
     if (decide (p2<=999))=true then
      some (decide ((Sh.len p3)=0))
     else
      some false
    else
     some false
   ).bind λt15=>
   some (Sum.inl (0,t15))
  else
   (
    if (decide (p1=1))=true then
     some true
    else
    if (decide (p1=2))=true then
     some true
    else
    if (decide (p1=3))=true then
     some true
    else
     some (decide (p1=4))
   ).bind λt20=>
   if t20=true then
    some (Sum.inr [(0:Int),0])
   else
   if (decide (p1=5))=true then
    some (Sum.inr [(0:Int)])
   else
   if (decide (p1=11))=true then
    if (!decide ((Sh.len p3)=2))=true then
     some (Sum.inl (-1,false))
    else
     (Sh.get p3 0).bind λc34=>
     (Jl p0.decls c34).bind λq35=>
     (
      if q35.2=true then
       (Sh.get p3 1).bind λc41=>
       if (decide (c41=q35.1.from_))=true then
        some (decide (p2=0))
       else
        some false
      else
       some false
     ).bind λt38=>
     some (Sum.inl (q35.1.to,t38))
   else
   if (decide (p1=6))=true then
    (IA N p0.decls p2).bind λq40=>
    (
     if (decide (0<=q40.1))=true then
      (DR N p3 q40.2.fields).bind λq45=>
      some q45
     else
      some false
    ).bind λt42=>
    some (Sum.inl (q40.1,t42))
   else
    (
     if (decide (p1=9))=true then
      some true
     else
      some (decide (p1=10))
    ).bind λt47=>
    if t47=true then
     (
      if (decide (p2<0))=true then
       some true
      else
       some (decide ((Sh.len p0.funcs)<=p2))
     ).bind λt52=>
     if t52=true then
      some (Sum.inl (-1,false))
     else
      (Sh.get p0.funcs p2).bind λc57=>
      if (decide (p1=9))=true then
       (DR N p3 c57.params).bind λq62=>
       some (Sum.inl (c57.result,q62))
      else
      if (decide ((Sh.w ((Sh.len c57.params)-1))<0))=true then
       some (Sum.inl (-1,false))
      else
       (Sh.get c57.params (Sh.w ((Sh.len c57.params)-1))).bind λc69=>
       (Jg N p0.decls c69 c57.result).bind λq70=>
       (
        if (decide (0<=q70))=true then
         (Sh.sl c57.params 0 (Sh.w ((Sh.len c57.params)-1))).bind λl75=>
         (DR N p3 l75).bind λq76=>
         some q76
        else
         some false
       ).bind λt72=>
       some (Sum.inl (q70,t72))
    else
     some (Sum.inl (-1,false))
 ) (id) λl4=>
 (
  if (decide (p2=0))=true then
   (DR N p3 l4).bind λq10=>
   some q10
  else
   some false
 ).bind λt7=>
 some (0,t7)
def CH (N:Nat)(p0:BO)(q56:(List Int)):Nat->Int->(List (List Int))->Option (List (List Int))
 | 0,_,_=>none
 | n+1,t67,l68=>
  if (decide (t67<(Sh.len q56)))=true then
   (Sh.get q56 t67).bind λc79=>
   (EJ N p0.decls c79).bind λq80=>
   (Sh.get l68 t67).bind λc81=>
   CH N p0 q56 n (Sh.w (t67+1)) (Sh.put l68 t67 q80)
  else
   some l68
def CG (s0:(List Int))(p0:BO)(p2:AE)(rec_impl_signatures_typeOf:(List Int)->BO->AE->Option (Int)):Nat->Int->(List Int)->Option ((Int) ⊕ (List Int))
 | 0,_,_=>none
 | n+1,t90,l91=>
  if (decide (t90<(Sh.len p2.kids)))=true then
   (Sh.get p2.kids t90).bind λc108=>
   (rec_impl_signatures_typeOf s0 p0 c108).bind λq110=>
   (Sh.get l91 t90).bind λc111=>
   (Sh.get (Sh.put l91 t90 q110) t90).bind λc113=>
   if (decide (c113<0))=true then
    some (Sum.inl (-1))
   else
    CG s0 p0 p2 rec_impl_signatures_typeOf n (Sh.w (t90+1)) (Sh.put l91 t90 q110)
  else
   some (Sum.inr l91)
def Ao (N:Nat)(rec_impl_signatures_typeOf:(List Int)->BO->AE->Option (Int))(s0:(List Int))(p0:BO)(p2:AE):Option (Int):=
 if (decide (p2.op=12))=true then
  (
   if (decide (0<(Sh.len p2.kids)))=true then
    some true
   else
   if (decide (p2.num<0))=true then
    some true
   else
    some (decide ((Sh.len s0)<=p2.num))
  ).bind λt8=>
  if t8=true then
   some (-1)
  else
   (Sh.get s0 p2.num).bind λc13=>
   some c13
 else
 if (decide (p2.op=13))=true then
  (
   if (!decide ((Sh.len p2.kids)=2))=true then
    some true
   else
    some (!decide (p2.num=0))
  ).bind λt20=>
  if t20=true then
   some (-1)
  else
   (Sh.get p2.kids 0).bind λc25=>
   (rec_impl_signatures_typeOf s0 p0 c25).bind λq26=>
   if (decide (q26<0))=true then
    some (-1)
   else
    (Sh.app s0 [q26] 8).bind λl32=>
    (Sh.get p2.kids 1).bind λc33=>
    (rec_impl_signatures_typeOf l32 p0 c33).bind λq34=>
    some q34
 else
 if (decide (p2.op=7))=true then
  (
   if (!decide ((Sh.len p2.kids)=3))=true then
    some true
   else
   if (!decide (p2.num=0))=true then
    some true
   else
    (Sh.get p2.kids 0).bind λc51=>
    (rec_impl_signatures_typeOf s0 p0 c51).bind λq52=>
    some (!decide (q52=0))
  ).bind λt41=>
  if t41=true then
   some (-1)
  else
   (Sh.sl p2.kids 1 (Sh.len p2.kids)).bind λl46=>
   (Sh.mk [] 2 24).bind λl47=>
   (EO N rec_impl_signatures_typeOf p0 s0 l46 l47).bind λq48=>
   some q48
 else
 if (decide (p2.op=8))=true then
  (HS N p0.decls p2.num).bind λq56=>
  (
   if (decide ((Sh.len q56)=0))=true then
    some true
   else
   if (!decide ((Sh.len p2.kids)=(Sh.w (1+(Sh.len q56)))))=true then
    some true
   else
    (Sh.get p2.kids 0).bind λc84=>
    (rec_impl_signatures_typeOf s0 p0 c84).bind λq85=>
    some (!decide (q85=p2.num))
  ).bind λt59=>
  if t59=true then
   some (-1)
  else
   (Sh.mk [] (Sh.len q56) 24).bind λl64=>
   (CH N p0 q56 N 0 l64).bind λl69=>
   (Sh.sl p2.kids 1 (Sh.len p2.kids)).bind λl72=>
   (EO N rec_impl_signatures_typeOf p0 s0 l72 l69).bind λq73=>
   some q73
 else
  (Sh.mk 0 (Sh.len p2.kids) 8).bind λl87=>
  Sh.cont (CG s0 p0 p2 rec_impl_signatures_typeOf N 0 l87) (id) λl92=>
  (BI N p0 p2.op p2.num l92).bind λq95=>
  if (!q95.2)=true then
   some (-1)
  else
   some q95.1
def Bq (N:Nat):Nat->(List Int)->BO->AE->Option (Int)
 | 0,_,_,_=>none
 | n+1,s0,p0,p2=>Ao N (Bq N n) s0 p0 p2
def H0 (N:Nat)(s0:(List Int))(p0:BO)(p2:AE):Option (Int):=Bq N N s0 p0 p2
def Lu (N:Nat)(p0:AP)(p1:(List Int))(p2:AE):Option (Int):=
 (
  Option.bind (HB N p0) λq13=>
  if (!q13)=true then
   some true
  else
   (Ih N p2).bind λq15=>
   if (decide (q15<0))=true then
    some true
   else
    (G0 N p0.decls p1).bind λq17=>
    some (!q17)
 ).bind λt4=>
 if t4=true then
  some (-1)
 else
  (KU N p0).bind λq9=>
  (CP p1).bind λq10=>
  (H0 N q10 q9 p2).bind λq11=>
  some q11
def Dn (N:Nat)(p0:AP):Nat->Int->Option ((Bool) ⊕ (Unit))
 | 0,_=>none
 | n+1,t11=>
  if (decide (t11<(Sh.len p0.funcs)))=true then
   (Sh.get p0.funcs t11).bind λc19=>
   (Lu N p0 c19.params c19.body).bind λq21=>
   if (!decide (q21=c19.result))=true then
    some (Sum.inl false)
   else
    Dn N p0 n (Sh.w (t11+1))
  else
   some (Sum.inr ())
def EH (N:Nat)(p0:AP):Option (Bool):=
 (HB N p0).bind λq4=>
 if (!q4)=true then
  some false
 else
  Sh.cont (Dn N p0 N 0) (id) λ()=>
  some true
end RC
namespace RC
end RC
namespace RC
end RC
namespace RC
end RC
namespace RC
end RC
namespace RC
def GJ (p0:(List Int))(p1:Int):Nat->Int->Option ((Bool) ⊕ (Unit))
 | 0,_=>none
 | n+1,i4=>
  if (decide (i4<(Sh.len p0)))=true then
   (Sh.get p0 i4).bind λc12=>
   if (decide (c12=p1))=true then
    some (Sum.inl true)
   else
    GJ p0 p1 n (Sh.w (i4+1))
  else
   some (Sum.inr ())
def Jz (N:Nat)(p0:(List Int))(p1:Int):Option (Bool):=
 Sh.cont (GJ p0 p1 N 0) (id) λ()=>
 some false
def DA (p0:(List Int))(p1:Int):Nat->Int->Option ((Int) ⊕ (Unit))
 | 0,_=>none
 | n+1,t4=>
  if (decide (t4<(Sh.len p0)))=true then
   (Sh.get p0 t4).bind λc13=>
   if (decide (p1=c13))=true then
    some (Sum.inl t4)
   else
    DA p0 p1 n (Sh.w (t4+1))
  else
   some (Sum.inr ())
def Fy (N:Nat)(p0:(List Int))(p1:Int):Option (Int):=
 Sh.cont (DA p0 p1 N 0) (id) λ()=>
 some (-1)
end RC
namespace RC
def DY (p0:(List AM)):Option (List AM):=
 (Sh.app ([]:List AM) p0 40).bind λl6=>
 some l6
def Cz (p0:(List Db)):Option (List Db):=
 (Sh.app ([]:List Db) p0 24).bind λl6=>
 some l6
end RC
namespace RC
def ER (cs:List Db):Nat->Int->List Db->Option (List Db)
 | 0,_,_=>none
 | n+1,i,q=>
  if decide (i<Sh.len cs)=true then
   (Sh.get cs i).bind λc=>
   (CP c.fields).bind λf=>
   (Sh.get q i).bind λ_=>
   ER cs n (Sh.w (i+1)) (Sh.put q i (Db.mk f))
  else some q
def EP (N:Nat)(m:Int):Nat->Int->List AM->Option (List AM)
 | 0,_,_=>none
 | n+1,t,l=>
  if decide (t<m)=true then
   (Sh.get l t).bind λd=>
   (Cz d.cons).bind λq21=>
   (ER d.cons N 0 q21).bind λq=>
   EP N m n (Sh.w (t+1)) (Sh.put l t (AM.mk d.from_ d.to q))
  else some l
def H3 (N:Nat)(p0:List AM):Option (List AM):=
 (DY p0).bind λq9=>
 (EP N (Sh.len q9) N 0 q9).bind λl=>
 some l
end RC
namespace RC
def EA (i5:Int)(p0:(List AM)):Nat->Int->(List Db)->Option (List Db)
 | 0,_,_=>none
 | n+1,k17,l18=>
  (Sh.get p0 i5).bind λc25=>
  if (decide (k17<(Sh.len c25.cons)))=true then
   (Sh.get c25.cons k17).bind λc28=>
   (FJ c28.fields).bind λq29=>
   (Sh.app l18 [Db.mk q29] 24).bind λl30=>
   EA i5 p0 n (Sh.w (k17+1)) l30
  else
   some l18
def Em (N:Nat)(p0:(List AM)):Nat->Int->(List AM)->Option (List AM)
 | 0,_,_=>none
 | n+1,i5,l6=>
  if (decide (i5<(Sh.len p0)))=true then
   (EA i5 p0 N 0 []).bind λl19=>
   (Sh.get p0 i5).bind λc21=>
   (Sh.app l6 [AM.mk c21.from_ c21.to l19] 40).bind λl22=>
   Em N p0 n (Sh.w (i5+1)) l22
  else
   some l6
def IZ (N:Nat)(p0:(List AM)):Option (List AM):=
 (Em N p0 N 0 []).bind λl7=>
 some l7
end RC
namespace RC
def IN (p0:(List Int)):Option ((List Int)×Int):=
 (
  if (decide (2000<(Sh.len p0)))=true then
   (Sh.sl p0 0 2000).bind λl8=>
   some l8
  else
   some p0
 ).bind λcode3=>
 some (code3,0)
def FF (p0:(List Int)):Option (Db):=
 some (Db.mk p0)
def Az (s0_0:(List Int))(s0_1 p1:Int):Option (Int×Int):=
 (
  if (decide (p1<1))=true then
   some true
  else
   some (decide ((Sh.len s0_0)=0))
 ).bind λt5=>
 if t5=true then
  some (0,Sh.w (s0_1+1))
 else
 if (decide ((Sh.w ((Sh.w (s0_1+1))-1))<(Sh.len s0_0)))=true then
  (Sh.get s0_0 (Sh.w ((Sh.w (s0_1+1))-1))).bind λc14=>
  (Sh.rem (Sh.wk .i64 c14) p1).bind λd15=>
  some (d15,Sh.w (s0_1+1))
 else
  (Sh.rem (Sh.w ((Sh.w (s0_1+1))-1)) (Sh.len s0_0)).bind λd17=>
  (Sh.get s0_0 d17).bind λc18=>
  (Sh.rem (Sh.w ((Sh.w ((Sh.w ((Sh.w (s0_1+1))-1))*7))+3)) (Sh.len s0_0)).bind λd19=>
  (Sh.get s0_0 d19).bind λc20=>
  (Sh.quo (Sh.w ((Sh.w (s0_1+1))-1)) (Sh.len s0_0)).bind λd21=>
  (Sh.rem (Sh.xor (Sh.w ((Sh.w ((Sh.w ((Sh.w ((Sh.wk .i64 c18)*131))+(Sh.w ((Sh.wk .i64 c20)*1117))))+(Sh.w ((Sh.w ((Sh.w (s0_1+1))-1))*29))))+(Sh.w (d21*53)))) (Sh.w (Int.tdiv (Sh.w ((Sh.w ((Sh.w ((Sh.w ((Sh.wk .i64 c18)*131))+(Sh.w ((Sh.wk .i64 c20)*1117))))+(Sh.w ((Sh.w ((Sh.w (s0_1+1))-1))*29))))+(Sh.w (d21*53)))) 64))) p1).bind λd24=>
  some (d24,Sh.w (s0_1+1))
def HA (s0_0:(List Int))(s0_1:Int):Option ((List AM)×Int):=
 (FF ([]:List Int)).bind λq3=>
 (FF [(0:Int),1]).bind λq4=>
 (FF ([]:List Int)).bind λq6=>
 (FF [(3:Int),0,3]).bind λq7=>
 (FF [(1:Int),3]).bind λq9=>
 (FF [(1:Int),1,0]).bind λq10=>
 (FF [(0:Int)]).bind λq11=>
 (FF [(3:Int)]).bind λq12=>
 (Az s0_0 s0_1 5).bind λq15=>
 (
  if (decide (q15.1<4))=true then
   (Sh.get ([AM.mk 0 0 [q9],AM.mk 1 0 [],AM.mk 0 0 [q10,q11,q12],AM.mk 0 1 []]) q15.1).bind λc22=>
   (Sh.app ([AM.mk 0 0 [q3,q4],AM.mk 0 0 [],AM.mk 0 0 [q6,q7]]) [c22] 40).bind λl23=>
   some l23
  else
   some ([AM.mk 0 0 [q3,q4],AM.mk 0 0 [],AM.mk 0 0 [q6,q7]])
 ).bind λl17=>
 some (l17,q15.2)
def Ex (p0:(List Int))(p1:Int):Option (Ac):=
 some (Ac.mk p0 p1 (AE.mk 0 0 []))
def CA (s0_0:(List Int))(s0_1:Int)(p1:(List Int)):Option (Int×Int):=
 (Az s0_0 s0_1 (Sh.len p1)).bind λq3=>
 (Sh.get p1 q3.1).bind λc4=>
 some (c4,q3.2)
def Ez (p0:(List Int))(p1:Int):Nat->Int->Option ((Int) ⊕ (Unit))
 | 0,_=>none
 | n+1,i4=>
  if (decide (i4<(Sh.len p0)))=true then
   (Sh.get p0 i4).bind λc12=>
   if (decide (c12=p1))=true then
    some (Sum.inl i4)
   else
    Ez p0 p1 n (Sh.w (i4+1))
  else
   some (Sum.inr ())
def Ji (N:Nat)(p0:(List Int))(p1:Int):Option (Int):=
 Sh.cont (Ez p0 p1 N 0) (id) λ()=>
 some (-1)
def FK (p0:Int):Option (AE):=
 some (AE.mk 0 p0 [])
def Dt (p0:(List Int))(p1:Int):Nat->Int->(List Int)->Option (List Int)
 | 0,_,_=>none
 | n+1,i5,l6=>
  if (decide (i5<(Sh.len p0)))=true then
   (
    Option.bind (Sh.get p0 i5) λc17=>
    if (decide (c17=p1))=true then
     (Sh.app l6 [i5] 8).bind λl19=>
     some l19
    else
     some l6
   ).bind λl14=>
   Dt p0 p1 n (Sh.w (i5+1)) l14
  else
   some l6
def Ht (N:Nat)(p0:(List Int))(p1:Int):Option (List Int):=
 (Dt p0 p1 N 0 []).bind λl7=>
 some l7
def EZ (N:Nat)(p0:AP)(p1:Int):Nat->Int->(List Int)->Option (List Int)
 | 0,_,_=>none
 | n+1,f5,l6=>
  if (decide (f5<(Sh.len p0.funcs)))=true then
   (
    Option.bind (Sh.get p0.funcs f5) λc17=>
    (
     if (decide (0<(Sh.len c17.params)))=true then
      (Sh.get c17.params (Sh.w ((Sh.len c17.params)-1))).bind λc24=>
      (Ig N p0.decls c24 c17.result).bind λq25=>
      some (decide (q25=p1))
     else
      some false
    ).bind λt19=>
    if t19=true then
     (Sh.app l6 [f5] 8).bind λl22=>
     some l22
    else
     some l6
   ).bind λl14=>
   EZ N p0 p1 n (Sh.w (f5+1)) l14
  else
   some l6
def Hr (N:Nat)(p0:AP)(p1:Int):Option (List Int):=
 (EZ N p0 p1 N 0 []).bind λl7=>
 some l7
def Gr (N:Nat)(p0:AP)(p1:(List Int))(p2:Int):Option (Bool):=
 (
  Option.bind (Gm p0.decls p2) λq5=>
  if (!q5)=true then
   some true
  else
   (Hr N p0 p2).bind λq7=>
   if (decide (0<(Sh.len q7)))=true then
    some true
   else
    (Jz N p1 p2).bind λq9=>
    some q9
 ).bind λt3=>
 some t3
def Ca (p0:Int):Option (AE):=
 some (AE.mk 12 p0 [])
def Be (p0 p1:Int)(p2:(List AE)):Option (AE):=
 some (AE.mk p0 p1 p2)
def Ij (s0_0:(List Int))(s0_1:Int):Option (Int×Int):=
 (Az s0_0 s0_1 6).bind λq3=>
 (Az s0_0 q3.2 6).bind λq4=>
 (Az s0_0 q4.2 40).bind λq5=>
 (CA s0_0 q5.2 [q3.1,q4.1,0,1,2,-1,3,q5.1,999,-998]).bind λq6=>
 some (q6.1,q6.2)
def Cy (s0_0:(List Int))(s1:(List Ac))(p1_0:(List AM))(q18:(List Int))(rec_spec_smallest:(List Int)->Int->(List Ac)->(List AM)->Int->Option (AE×Int)):Nat->Int->Int->(List AE)->Option (Int×(List AE))
 | 0,_,_,_=>none
 | n+1,i21,f22,l23=>
  if (decide (i21<(Sh.len q18)))=true then
   (Sh.get q18 i21).bind λc33=>
   (rec_spec_smallest s0_0 f22 s1 p1_0 c33).bind λq34=>
   (Sh.app l23 [q34.1] 40).bind λl35=>
   Cy s0_0 s1 p1_0 q18 rec_spec_smallest n (Sh.w (i21+1)) q34.2 l35
  else
   some (f22,l23)
def Dq (c59:Ac)(s0_0:(List Int))(s1:(List Ac))(p1_0:(List AM))(rec_spec_smallest:(List Int)->Int->(List Ac)->(List AM)->Int->Option (AE×Int)):Nat->Int->Int->(List AE)->Option (Int×(List AE))
 | 0,_,_,_=>none
 | n+1,i63,f64,l65=>
  if (decide ((Sh.w (i63+1))<(Sh.len c59.params)))=true then
   (Sh.get c59.params i63).bind λc75=>
   (rec_spec_smallest s0_0 f64 s1 p1_0 c75).bind λq76=>
   (Sh.app l65 [q76.1] 40).bind λl77=>
   Dq c59 s0_0 s1 p1_0 rec_spec_smallest n (Sh.w (i63+1)) q76.2 l77
  else
   some (f64,l65)
def Hh (N:Nat)(rec_spec_smallest:(List Int)->Int->(List Ac)->(List AM)->Int->Option (AE×Int))(s0_0:(List Int))(s0_1:Int)(s1:(List Ac))(p1_0:(List AM))(p2:Int):Option (AE×Int):=
 (GI N p1_0 p2).bind λq3=>
 if (decide (0<(Sh.len q3)))=true then
  (Sh.get q3 0).bind λc8=>
  (
   Option.bind (
    if (decide (1<(Sh.len q3)))=true then
     (Az s0_0 s0_1 4).bind λq47=>
     some (decide (q47.1=0),q47.2)
    else
     some (false,s0_1)
   ) λ(t41,f42)=>
   if t41=true then
    (Sh.get q3 1).bind λc45=>
    some (c45,f42)
   else
    some (c8,f42)
  ).bind λ(c10,f11)=>
  (
   Option.bind (Bv N p1_0 c10) λq37=>
   (Jz N q37 p2).bind λq38=>
   if q38=true then
    some c8
   else
    some c10
  ).bind λc14=>
  (Bv N p1_0 c14).bind λq18=>
  (Cy s0_0 s1 p1_0 q18 rec_spec_smallest N 0 f11 []).bind λ(f24,l25)=>
  (Be 6 c14 l25).bind λq28=>
  some (q28,f24)
 else
  (Hr N (AP.mk p1_0 s1) p2).bind λq49=>
  (
   if (decide (0<p2))=true then
    some (decide (0<(Sh.len q49)))
   else
    some false
  ).bind λt52=>
  if t52=true then
   (Az s0_0 s0_1 (Sh.len q49)).bind λq56=>
   (Sh.get q49 q56.1).bind λc57=>
   (Sh.get s1 c57).bind λc59=>
   (Dq c59 s0_0 s1 p1_0 rec_spec_smallest N 0 q56.2 []).bind λ(f66,l67)=>
   (Be 10 c57 l67).bind λq70=>
   some (q70,f66)
  else
   (Ij s0_0 s0_1).bind λq79=>
   (FK q79.1).bind λq80=>
   some (q80,q79.2)
def De (N:Nat):Nat->(List Int)->Int->(List Ac)->(List AM)->Int->Option (AE×Int)
 | 0,_,_,_,_,_=>none
 | n+1,s0_0,s0_1,s1,p1_0,p2=>Hh N (De N n) s0_0 s0_1 s1 p1_0 p2
def Mc (N:Nat)(s0_0:(List Int))(s0_1:Int)(s1:(List Ac))(p1_0:(List AM))(p2:Int):Option (AE×Int):=De N N s0_0 s0_1 s1 p1_0 p2
def Hd (N:Nat)(s0_0:(List Int))(s0_1:Int)(s1:(List Ac))(p1_0:(List AM))(p2:(List Int))(p3:Int):Option (AE×Int):=
 (Ht N p2 p3).bind λq3=>
 (
  if (decide (0<(Sh.len q3)))=true then
   (Az s0_0 s0_1 6).bind λq17=>
   if (decide (0<q17.1))=true then
    some (true,q17.2)
   else
    (Gr N (AP.mk p1_0 s1) ([]:List Int) p3).bind λq19=>
    some (!q19,q17.2)
  else
   some (false,s0_1)
 ).bind λ(t6,f7)=>
 if t6=true then
  (Az s0_0 f7 (Sh.len q3)).bind λq11=>
  (Sh.get q3 q11.1).bind λc12=>
  (Ca c12).bind λq13=>
  some (q13,q11.2)
 else
  (Mc N s0_0 f7 s1 p1_0 p3).bind λq15=>
  some (q15.1,q15.2)
def Jn (N:Nat)(s0_0:(List Int))(s0_1:Int)(s1:(List Ac))(p1_0:(List AM))(p2:(List Int)):Option (Int×Int):=
 (CA s0_0 s0_1 [(1:Int),1,3,0,2,4,3]).bind λq3=>
 (
  if (decide ((Sh.len p1_0)<q3.1))=true then
   some true
  else
   (Gr N (AP.mk p1_0 s1) p2 q3.1).bind λq12=>
   some (!q12)
 ).bind λt6=>
 if t6=true then
  some (1,q3.2)
 else
  some (q3.1,q3.2)
def FU (s0_0:(List Int))(s1:(List Ac))(p1_0:(List AM))(p2:(List Int))(p3:(List Int))(p4:Int)(rec_spec_gen:(List Int)->Int->(List Ac)->(List AM)->(List Int)->Int->Int->Option (AE×Int)):Nat->Int->Int->(List AE)->Option (Int×(List AE))
 | 0,_,_,_=>none
 | n+1,i5,f6,l7=>
  if (decide (i5<(Sh.len p3)))=true then
   (Sh.get p3 i5).bind λc16=>
   (Sh.quo p4 (Sh.len p3)).bind λd17=>
   (rec_spec_gen s0_0 f6 s1 p1_0 p2 c16 d17).bind λq18=>
   (Sh.app l7 [q18.1] 40).bind λl19=>
   FU s0_0 s1 p1_0 p2 p3 p4 rec_spec_gen n (Sh.w (i5+1)) q18.2 l19
  else
   some (f6,l7)
def Fs (N:Nat)(rec_spec_gen:(List Int)->Int->(List Ac)->(List AM)->(List Int)->Int->Int->Option (AE×Int))(s0_0:(List Int))(s0_1:Int)(s1:(List Ac))(p1_0:(List AM))(p2:(List Int))(p3:(List Int))(p4:Int):Option ((List AE)×Int):=
 (FU s0_0 s1 p1_0 p2 p3 p4 rec_spec_gen N 0 s0_1 []).bind λ(f8,l9)=>
 some (l9,f8)
def D5 (N:Nat)(s0_0:(List Int))(s1:(List Ac))(p1_0:(List AM))(p2:(List Int))(p3 p4:Int)(q8:(List Int))(rec_spec_gen:(List Int)->Int->(List Ac)->(List AM)->(List Int)->Int->Int->Option (AE×Int)):Nat->Int->Int->(List AE)->Option (Int×(List AE))
 | 0,_,_,_=>none
 | n+1,i13,f14,l15=>
  if (decide (i13<(Sh.len q8)))=true then
   (Sh.get q8 i13).bind λc25=>
   (Bv N p1_0 c25).bind λq26=>
   (Ec p2 q26).bind λq27=>
   (Sh.quo (Sh.w (p4-2)) (Sh.len q8)).bind λd28=>
   (rec_spec_gen s0_0 f14 s1 p1_0 q27 p3 d28).bind λq29=>
   (Sh.app l15 [q29.1] 40).bind λl30=>
   D5 N s0_0 s1 p1_0 p2 p3 p4 q8 rec_spec_gen n (Sh.w (i13+1)) q29.2 l30
  else
   some (f14,l15)
def JE (N:Nat)(rec_spec_gen:(List Int)->Int->(List Ac)->(List AM)->(List Int)->Int->Int->Option (AE×Int))(s0_0:(List Int))(s0_1:Int)(s1:(List Ac))(p1_0:(List AM))(p2:(List Int))(p3 p4:Int):Option (AE×Int):=
 (CA s0_0 s0_1 [(1:Int),1,3,4]).bind λq3=>
 (
  Option.bind (
   if (decide ((Sh.len p1_0)<q3.1))=true then
    some true
   else
    (Gm p1_0 q3.1).bind λq36=>
    some q36
  ) λt32=>
  if t32=true then
   some 1
  else
   some q3.1
 ).bind λd5=>
 (GI N p1_0 d5).bind λq8=>
 (Hd N s0_0 q3.2 s1 p1_0 p2 d5).bind λq10=>
 (D5 N s0_0 s1 p1_0 p2 p3 p4 q8 rec_spec_gen N 0 q10.2 [q10.1]).bind λ(f16,l17)=>
 (Be 8 d5 l17).bind λq20=>
 some (q20,f16)
def EW (N:Nat)(c17:Ac)(p0:AP):Nat->Bool->Int->Option (Bool)
 | 0,_,_=>none
 | n+1,ok20,i21=>
  if (decide (i21<(Sh.len c17.params)))=true then
   (
    if ok20=true then
     (Sh.get c17.params i21).bind λc34=>
     (Gr N p0 ([]:List Int) c34).bind λq35=>
     some q35
    else
     some false
   ).bind λok31=>
   EW N c17 p0 n ok31 (Sh.w (i21+1))
  else
   some ok20
def Ei (N:Nat)(p0:AP)(p1:Int):Nat->Int->(List Int)->Option (List Int)
 | 0,_,_=>none
 | n+1,f5,l6=>
  if (decide (f5<(Sh.len p0.funcs)))=true then
   (
    Option.bind (Sh.get p0.funcs f5) λc17=>
    (EW N c17 p0 N (decide (c17.result=p1)) 0).bind λok22=>
    if ok22=true then
     (Sh.app l6 [f5] 8).bind λl26=>
     some l26
    else
     some l6
   ).bind λl14=>
   Ei N p0 p1 n (Sh.w (f5+1)) l14
  else
   some l6
def I4 (N:Nat)(p0:AP)(p1:Int):Option (List Int):=
 (Ei N p0 p1 N 1 []).bind λl7=>
 some l7
def Ee (N:Nat)(s0_0:(List Int))(s1:(List Ac))(p1_0:(List AM))(p2:(List Int))(p3 p4:Int)(q34:Int×Int)(rec_spec_gen:(List Int)->Int->(List Ac)->(List AM)->(List Int)->Int->Int->Option (AE×Int)):Nat->Int->Option ((AE×Int) ⊕ (Unit))
 | 0,_=>none
 | n+1,a38=>
  if (decide (a38<=(Sh.len p1_0)))=true then
   (
    Option.bind (Gm p1_0 a38) λq53=>
    if q53=true then
     (Sh.get p1_0 (Sh.w (a38-1))).bind λc55=>
     if (decide (c55.to=p3))=true then
      (Gr N (AP.mk p1_0 s1) p2 a38).bind λq57=>
      some q57
     else
      some false
    else
     some false
   ).bind λt45=>
   if t45=true then
    (Hd N s0_0 q34.2 s1 p1_0 p2 a38).bind λq49=>
    (Sh.get p1_0 (Sh.w (a38-1))).bind λc50=>
    (rec_spec_gen s0_0 q49.2 s1 p1_0 p2 c50.from_ (Sh.w (p4-2))).bind λq51=>
    (Be 11 0 [q49.1,q51.1]).bind λq52=>
    some (Sum.inl (q52,q51.2))
   else
    Ee N s0_0 s1 p1_0 p2 p3 p4 q34 rec_spec_gen n (Sh.w (a38+1))
  else
   some (Sum.inr ())
def JH (N:Nat)(rec_spec_gen:(List Int)->Int->(List Ac)->(List AM)->(List Int)->Int->Int->Option (AE×Int))(s0_0:(List Int))(s0_1:Int)(s1:(List Ac))(p1_0:(List AM))(p2:(List Int))(p3 p4:Int):Option (AE×Int):=
 Sh.cont (
  (Az s0_0 s0_1 4).bind λq34=>
  if (decide (q34.1=0))=true then
   Sh.cont (Ee N s0_0 s1 p1_0 p2 p3 p4 q34 rec_spec_gen N 1) (λx=>Sum.inl x) λ()=>
   some (Sum.inr q34.2)
  else
   some (Sum.inr q34.2)
 ) (id) λf3=>
 (GI N p1_0 p3).bind λq6=>
 if (decide (0<(Sh.len q6)))=true then
  (Az s0_0 f3 (Sh.len q6)).bind λq11=>
  (Sh.get q6 q11.1).bind λc12=>
  (Bv N p1_0 c12).bind λq14=>
  (Fs N rec_spec_gen s0_0 q11.2 s1 p1_0 p2 q14 (Sh.w (p4-1))).bind λq15=>
  (Be 6 c12 q15.1).bind λq16=>
  some (q16,q15.2)
 else
 if (decide (0<p3))=true then
  (Hd N s0_0 f3 s1 p1_0 p2 p3).bind λq21=>
  some (q21.1,q21.2)
 else
  (Az s0_0 f3 3).bind λq24=>
  if (decide (q24.1=0))=true then
   (Fs N rec_spec_gen s0_0 q24.2 s1 p1_0 p2 [(0:Int)] (Sh.w (p4-1))).bind λq27=>
   (Be 5 0 q27.1).bind λq28=>
   some (q28,q27.2)
  else
   (CA s0_0 q24.2 [(1:Int),2,3,4]).bind λq30=>
   (Fs N rec_spec_gen s0_0 q30.2 s1 p1_0 p2 [(0:Int),0] (Sh.w (p4-1))).bind λq31=>
   (Be q30.1 0 q31.1).bind λq32=>
   some (q32,q31.2)
def LF (N:Nat)(rec_spec_gen:(List Int)->Int->(List Ac)->(List AM)->(List Int)->Int->Int->Option (AE×Int))(s0_0:(List Int))(s0_1:Int)(s1:(List Ac))(p1_0:(List AM))(p2:(List Int))(p3 p4:Int):Option (AE×Int):=
 if (decide (p4<3))=true then
  (Hd N s0_0 s0_1 s1 p1_0 p2 p3).bind λq6=>
  some (q6.1,q6.2)
 else
  Sh.cont (
   (Az s0_0 s0_1 12).bind λq13=>
   if (decide (q13.1=0))=true then
    (Hd N s0_0 q13.2 s1 p1_0 p2 p3).bind λq17=>
    some (Sum.inl (q17.1,q17.2))
   else
    (
     if (decide (q13.1=1))=true then
      some true
     else
      some (decide (q13.1=2))
    ).bind λt19=>
    if t19=true then
     (Jn N s0_0 q13.2 s1 p1_0 p2).bind λq23=>
     (rec_spec_gen s0_0 q23.2 s1 p1_0 p2 q23.1 (Sh.w (Int.tdiv p4 2))).bind λq25=>
     (Ec p2 [q23.1]).bind λq26=>
     (rec_spec_gen s0_0 q25.2 s1 p1_0 q26 p3 (Sh.w (Int.tdiv p4 2))).bind λq27=>
     (Be 13 0 [q25.1,q27.1]).bind λq28=>
     some (Sum.inl (q28,q27.2))
    else
    if (decide (q13.1=3))=true then
     (Fs N rec_spec_gen s0_0 q13.2 s1 p1_0 p2 [0,p3,p3] (Sh.w (p4-1))).bind λq32=>
     (Be 7 0 q32.1).bind λq33=>
     some (Sum.inl (q33,q32.2))
    else
     (
      if (decide (q13.1=4))=true then
       some true
      else
      if (decide (q13.1=5))=true then
       some true
      else
       some (decide (q13.1=6))
     ).bind λt35=>
     if t35=true then
      (JE N rec_spec_gen s0_0 q13.2 s1 p1_0 p2 p3 p4).bind λq39=>
      some (Sum.inl (q39.1,q39.2))
     else
      (
       if (decide (q13.1=7))=true then
        some true
       else
        some (decide (q13.1=8))
      ).bind λt41=>
      if t41=true then
       (I4 N (AP.mk p1_0 s1) p3).bind λq45=>
       if (decide (0<(Sh.len q45)))=true then
        (Az s0_0 q13.2 (Sh.len q45)).bind λq49=>
        (Sh.get q45 q49.1).bind λc50=>
        (Sh.get s1 c50).bind λc52=>
        (Fs N rec_spec_gen s0_0 q49.2 s1 p1_0 p2 c52.params (Sh.w (p4-1))).bind λq53=>
        (Be 9 c50 q53.1).bind λq54=>
        some (Sum.inl (q54,q53.2))
       else
        some (Sum.inr q13.2)
      else
       some (Sum.inr q13.2)
  ) (id) λf8=>
  (JH N rec_spec_gen s0_0 f8 s1 p1_0 p2 p3 p4).bind λq11=>
  some (q11.1,q11.2)
def JD (N:Nat):Nat->(List Int)->Int->(List Ac)->(List AM)->(List Int)->Int->Int->Option (AE×Int)
 | 0,_,_,_,_,_,_,_=>none
 | n+1,s0_0,s0_1,s1,p1_0,p2,p3,p4=>LF N (JD N n) s0_0 s0_1 s1 p1_0 p2 p3 p4
def Gt (N:Nat)(s0_0:(List Int))(s0_1:Int)(s1:(List Ac))(p1_0:(List AM))(p2:(List Int))(p3 p4:Int):Option (AE×Int):=JD N N s0_0 s0_1 s1 p1_0 p2 p3 p4
def FY (s0_0:(List Int)):Nat->Int->Int->Int->Int->(List AE)->Option (Int×Int×Int×(List AE))
 | 0,_,_,_,_,_=>none
 | n+1,n21,f22,f23,f24,f25=>
  if (decide (0<n21))=true then
   (Ij s0_0 f22).bind λq36=>
   (FK q36.1).bind λq37=>
   (Be 6 1 [q37,AE.mk f23 f24 f25]).bind λq38=>
   FY s0_0 n (Sh.w (n21-1)) q36.2 q38.op q38.num q38.kids
  else
   some (f22,f23,f24,f25)
def Jm (N:Nat)(s0_0:(List Int))(s0_1 p1:Int):Option (AE×Int):=
 (Be 6 0 ([]:List AE)).bind λq3=>
 if (decide (p1=3))=true then
  (Be 6 2 ([]:List AE)).bind λq8=>
  (Az s0_0 s0_1 9).bind λq10=>
  (FK q10.1).bind λq11=>
  (Be 6 3 [q8,q11,q8]).bind λq12=>
  (Az s0_0 q10.2 9).bind λq14=>
  (FK q14.1).bind λq15=>
  (Be 6 3 [q12,q15,q8]).bind λq16=>
  some (q16,q14.2)
 else
  (Az s0_0 s0_1 3).bind λq20=>
  (FY s0_0 N (Sh.w (1+q20.1)) q20.2 q3.op q3.num q3.kids).bind λ(f26,f27,f28,f29)=>
  some (AE.mk f27 f28 f29,f26)
def I5 (N:Nat)(s0_0:(List Int))(s0_1:Int)(s1:(List Ac))(p1_0:(List AM)):Option (AE×Int):=
 (CA s0_0 s0_1 [(1:Int),1,3]).bind λq3=>
 (Gt N s0_0 q3.2 s1 p1_0 [q3.1] 0 16).bind λq5=>
 (
  Option.bind (Az s0_0 q5.2 3) λq16=>
  if (decide (q16.1=0))=true then
   (Be 5 0 [q5.1]).bind λq18=>
   some (q16.2,q18.op,q18.num,q18.kids)
  else
   some (q16.2,q5.1.op,q5.1.num,q5.1.kids)
 ).bind λ(f7,f8,f9,f10)=>
 (Jm N s0_0 f7 q3.1).bind λq13=>
 (Be 13 0 [q13.1,AE.mk f8 f9 f10]).bind λq14=>
 some (q14,q13.2)
def Ed (c3:Ac)(s0_0:(List Int))(p3:Int):Nat->Int->Int->(List AE)->Option (Int×(List AE))
 | 0,_,_,_=>none
 | n+1,i10,f11,l12=>
  if (decide (i10<(Sh.len c3.params)))=true then
   (
    if (decide (i10=p3))=true then
     (Ca (Sh.w ((Sh.len c3.params)+1))).bind λq67=>
     (Sh.app l12 [q67] 40).bind λl68=>
     some (f11,l68)
    else
     (
      Option.bind (Sh.get c3.params i10) λc80=>
      if (decide (c80=0))=true then
       (Az s0_0 f11 2).bind λq82=>
       some (decide (q82.1=0),q82.2)
      else
       some (false,f11)
     ).bind λ(t70,f71)=>
     if t70=true then
      (Ca i10).bind λq74=>
      (Ca (Sh.len c3.params)).bind λq75=>
      (Be 1 0 [q74,q75]).bind λq76=>
      (Sh.app l12 [q76] 40).bind λl77=>
      some (f71,l77)
     else
      (Ca i10).bind λq78=>
      (Sh.app l12 [q78] 40).bind λl79=>
      some (f71,l79)
   ).bind λ(f62,l63)=>
   Ed c3 s0_0 p3 n (Sh.w (i10+1)) f62 l63
  else
   some (f11,l12)
def I6 (N:Nat)(s0_0:(List Int))(s0_1:Int)(s1:(List Ac))(p1_0:(List AM))(p2 p3:Int):Option (AE×Int):=
 (Sh.get s1 p2).bind λc3=>
 (Ec c3.params [(0:Int),1]).bind λq6=>
 (Ed c3 s0_0 p3 N 0 s0_1 []).bind λ(f13,l14)=>
 (Be 9 p2 l14).bind λq17=>
 (
  Option.bind (
   if (decide (c3.result=1))=true then
    (Az s0_0 f13 5).bind λq57=>
    some (decide (0<q57.1),q57.2)
   else
    some (false,f13)
  ) λ(t30,f31)=>
  if t30=true then
   (Gt N s0_0 f31 s1 p1_0 q6 0 4).bind λq35=>
   (
    Option.bind (
     if (decide (1<(Sh.len c3.params)))=true then
      (Sh.get c3.params 0).bind λc50=>
      some (decide (c50=2))
     else
      some false
    ) λt43=>
    if t43=true then
     (Ca 0).bind λq46=>
     (Ca (Sh.len c3.params)).bind λq47=>
     (Be 11 0 [q46,q47]).bind λq48=>
     some (q48.op,q48.num,q48.kids)
    else
     some (q35.1.op,q35.1.num,q35.1.kids)
   ).bind λ(f37,f38,f39)=>
   (Be 6 1 [AE.mk f37 f38 f39,q17]).bind λq41=>
   some (q35.2,q41.op,q41.num,q41.kids)
  else
  if (decide (c3.result=0))=true then
   (CA s0_0 f31 [(1:Int),2]).bind λq53=>
   (Gt N s0_0 q53.2 s1 p1_0 q6 0 4).bind λq54=>
   (Be q53.1 0 [q54.1,q17]).bind λq55=>
   some (q54.2,q55.op,q55.num,q55.kids)
  else
   some (f31,q17.op,q17.num,q17.kids)
 ).bind λ(f20,f21,f22,f23)=>
 (Ca p3).bind λq26=>
 (Gt N s0_0 f20 s1 p1_0 c3.params c3.result 4).bind λq27=>
 (Be 8 1 [q26,q27.1,AE.mk f21 f22 f23]).bind λq28=>
 some (q28,q27.2)
def Ef (c3:Ac):Nat->Int->(List AE)->(List AE)->Option ((List AE)×(List AE))
 | 0,_,_,_=>none
 | n+1,i11,l12,l13=>
  if (decide (i11<(Sh.len c3.params)))=true then
   (Ca i11).bind λq47=>
   (Sh.app l12 [q47] 40).bind λl48=>
   (Ca i11).bind λq49=>
   (Sh.app l13 [q49] 40).bind λl50=>
   Ef c3 n (Sh.w (i11+1)) l48 l50
  else
   some (l12,l13)
def I2 (N:Nat)(s0_0:(List Int))(s0_1:Int)(s1:(List Ac))(p1_0:(List AM))(p2:Int):Option (AE×Int):=
 (Sh.get s1 p2).bind λc3=>
 (Ca (Sh.len c3.params)).bind λq6=>
 (Ca (Sh.w ((Sh.len c3.params)+2))).bind λq8=>
 (Ef c3 N 1 [q6] [q8]).bind λ(l14,l15)=>
 (Be 9 p2 l14).bind λq18=>
 (Be 9 p2 l15).bind λq20=>
 (Ec c3.params [(3:Int),0,3]).bind λq22=>
 (Gt N s0_0 s0_1 s1 p1_0 q22 0 4).bind λq23=>
 (Be 1 0 [q23.1,q20]).bind λq24=>
 (Be 1 0 [q18,q24]).bind λq25=>
 (
  if (decide (c3.result=3))=true then
   (Ec c3.params [(3:Int),0,3]).bind λq38=>
   (Gt N s0_0 q23.2 s1 p1_0 q38 0 4).bind λq39=>
   (Ca (Sh.w ((Sh.len c3.params)+2))).bind λq40=>
   (Be 6 3 [q18,q39.1,q40]).bind λq41=>
   some (q39.2,q41.op,q41.num,q41.kids)
  else
   some (q23.2,q25.op,q25.num,q25.kids)
 ).bind λ(f27,f28,f29,f30)=>
 (Ca 0).bind λq33=>
 (Gt N s0_0 f27 s1 p1_0 c3.params c3.result 4).bind λq34=>
 (Be 8 3 [q33,q34.1,AE.mk f28 f29 f30]).bind λq35=>
 some (q35,q34.2)
def Eh (N:Nat)(c3:Ac)(s0_0:(List Int))(s1:(List Ac))(p1_0:(List AM)):Nat->Int->Int->(List AE)->Option (Int×(List AE))
 | 0,_,_,_=>none
 | n+1,i10,f11,l12=>
  if (decide (i10<(Sh.len c3.params)))=true then
   (Sh.get c3.params i10).bind λc39=>
   (Hd N s0_0 f11 s1 p1_0 c3.params c39).bind λq40=>
   (Sh.app l12 [q40.1] 40).bind λl41=>
   Eh N c3 s0_0 s1 p1_0 n (Sh.w (i10+1)) q40.2 l41
  else
   some (f11,l12)
def JA (N:Nat)(s0_0:(List Int))(s0_1:Int)(s1:(List Ac))(p1_0:(List AM))(p2:Int):Option (AE×Int):=
 (Sh.get s1 p2).bind λc3=>
 (Ca 0).bind λq5=>
 (FK 1).bind λq6=>
 (Be 2 0 [q5,q6]).bind λq7=>
 (Eh N c3 s0_0 s1 p1_0 N 1 s0_1 [q7]).bind λ(f13,l14)=>
 (Be 9 p2 l14).bind λq17=>
 (
  if (decide (c3.result=1))=true then
   (Gt N s0_0 f13 s1 p1_0 c3.params 0 3).bind λq33=>
   (Be 6 1 [q33.1,q17]).bind λq34=>
   some (q33.2,q34.op,q34.num,q34.kids)
  else
   some (f13,q17.op,q17.num,q17.kids)
 ).bind λ(f19,f20,f21,f22)=>
 (FK 0).bind λq25=>
 (Ca 0).bind λq26=>
 (Be 4 0 [q25,q26]).bind λq27=>
 (Gt N s0_0 f19 s1 p1_0 c3.params c3.result 4).bind λq29=>
 (Be 7 0 [q27,AE.mk f20 f21 f22,q29.1]).bind λq30=>
 some (q30,q29.2)
def F7 (N:Nat)(s0_0:(List Int))(s1:(List Ac))(p1_0:(List AM))(p2:(List Int))(p3:Int):Nat->Int->Int->Int->Int->(List AE)->Option (Int×Int×Int×(List AE))
 | 0,_,_,_,_,_=>none
 | n+1,budget5,f6,f7,f8,f9=>
  (
   Option.bind (Gl N (AE.mk f7 f8 f9)) λq23=>
   if (decide (q23<0))=true then
    some (decide (2<budget5))
   else
    some false
  ).bind λt18=>
  if t18=true then
   (Gt N s0_0 f6 s1 p1_0 p2 p3 (Sh.w (Int.tdiv budget5 2))).bind λq22=>
   F7 N s0_0 s1 p1_0 p2 p3 n (Sh.w (Int.tdiv budget5 2)) q22.2 q22.1.op q22.1.num q22.1.kids
  else
   some (f6,f7,f8,f9)
def Ia (N:Nat)(s0_0:(List Int))(s0_1:Int)(s1:(List Ac))(p1_0:(List AM))(p2:(List Int))(p3 p4:Int):Option (AE×Int):=
 (Gt N s0_0 s0_1 s1 p1_0 p2 p3 p4).bind λq3=>
 (F7 N s0_0 s1 p1_0 p2 p3 N p4 q3.2 q3.1.op q3.1.num q3.1.kids).bind λ(f10,f11,f12,f13)=>
 some (AE.mk f11 f12 f13,f10)
def KW (N:Nat)(s0_0:(List Int))(s0_1:Int)(s1:(List Ac))(p1_0:(List AM))(p2:Int):Option (AE×Int):=
 (Sh.get s1 p2).bind λc3=>
 (Ji N c3.params 1).bind λq6=>
 (FK 0).bind λq8=>
 (Az s0_0 s0_1 4).bind λq10=>
 (
  Option.bind (
   if (decide (q10.1<3))=true then
    some (decide (p2=0))
   else
    some false
  ) λt25=>
  if t25=true then
   (I5 N s0_0 q10.2 s1 p1_0).bind λq28=>
   some (q28.2,q28.1.op,q28.1.num,q28.1.kids)
  else
   (
    if (decide (q10.1<3))=true then
     if (decide (0<=q6))=true then
      if (decide (c3.result=0))=true then
       some true
      else
       some (decide (c3.result=1))
     else
      some false
    else
     some false
   ).bind λt30=>
   if t30=true then
    (I6 N s0_0 q10.2 s1 p1_0 p2 q6).bind λq33=>
    some (q33.2,q33.1.op,q33.1.num,q33.1.kids)
   else
    (
     if (decide (q10.1<3))=true then
      if (decide (0<(Sh.len c3.params)))=true then
       (Sh.get c3.params 0).bind λc52=>
       if (decide (c52=3))=true then
        if (decide (c3.result=0))=true then
         some true
        else
         some (decide (c3.result=3))
       else
        some false
      else
       some false
     else
      some false
    ).bind λt35=>
    if t35=true then
     (I2 N s0_0 q10.2 s1 p1_0 p2).bind λq38=>
     some (q38.2,q38.1.op,q38.1.num,q38.1.kids)
    else
     (
      if (decide (q10.1<3))=true then
       if (decide (0<(Sh.len c3.params)))=true then
        (Sh.get c3.params 0).bind λc47=>
        if (decide (c47=0))=true then
         if (decide (c3.result=0))=true then
          some true
         else
          some (decide (c3.result=1))
        else
         some false
       else
        some false
      else
       some false
     ).bind λt40=>
     if t40=true then
      (JA N s0_0 q10.2 s1 p1_0 p2).bind λq43=>
      some (q43.2,q43.1.op,q43.1.num,q43.1.kids)
     else
      (Ia N s0_0 q10.2 s1 p1_0 c3.params c3.result 18).bind λq44=>
      some (q44.2,q44.1.op,q44.1.num,q44.1.kids)
 ).bind λ(f12,f13,f14,f15)=>
 (Gl N (AE.mk f13 f14 f15)).bind λq19=>
 if (decide (q19<0))=true then
  (Ia N s0_0 f12 s1 p1_0 c3.params c3.result 12).bind λq22=>
  some (q22.1,q22.2)
 else
  some (AE.mk f13 f14 f15,f12)
def D9 (N:Nat)(s0_0:(List Int))(q3:(List AM)×Int):Nat->Int->Int->(List Ac)->Option (Int×(List Ac))
 | 0,_,_,_=>none
 | n+1,f37,f38,l39=>
  if (decide (0<=f37))=true then
   (KW N s0_0 f38 l39 q3.1 f37).bind λq49=>
   (Sh.get l39 f37).bind λc50=>
   D9 N s0_0 q3 n (Sh.w (f37-1)) q49.2 (Sh.put l39 f37 (Ac.mk c50.params c50.result q49.1))
  else
   some (f38,l39)
def HO (N:Nat)(s0_0:(List Int))(s0_1:Int):Option (AP×Int):=
 (HA s0_0 s0_1).bind λq3=>
 (Ex [(1:Int)] 0).bind λq5=>
 (Ex [(1:Int),1] 1).bind λq6=>
 (Ex [(1:Int)] 1).bind λq7=>
 (Ex [(1:Int),0] 1).bind λq8=>
 (Ex [(2:Int),1] 1).bind λq9=>
 (Ex [(1:Int),1] 0).bind λq10=>
 (Ex [(3:Int)] 0).bind λq12=>
 (Ex [(0:Int)] 1).bind λq13=>
 (Ex [(0:Int),1] 1).bind λq14=>
 (Ex [(3:Int),0] 3).bind λq15=>
 (Ex [(3:Int)] 1).bind λq16=>
 (Ex [(1:Int),3,0] 0).bind λq17=>
 (Ex [(0:Int)] 0).bind λq19=>
 (Ex [(0:Int),0] 0).bind λq20=>
 (Ex [(1:Int),0] 0).bind λq21=>
 (Ex [(0:Int)] 1).bind λq22=>
 (Ex ([]:List Int) 0).bind λq24=>
 (Az s0_0 q3.2 (Sh.len [q5,q6,q7,q8,q9,q10])).bind λq25=>
 (Sh.get [q5,q6,q7,q8,q9,q10] q25.1).bind λc26=>
 (Az s0_0 q25.2 (Sh.len [q12,q13,q14,q15,q16,q17])).bind λq27=>
 (Sh.get [q12,q13,q14,q15,q16,q17] q27.1).bind λc28=>
 (Az s0_0 q27.2 (Sh.len [q19,q20,q21,q22])).bind λq29=>
 (Sh.get [q19,q20,q21,q22] q29.1).bind λc30=>
 (CA s0_0 q29.2 [(4:Int),4,3,2,4]).bind λq32=>
 (Sh.hi [q24,c26,c28,c30] q32.1).bind λl34=>
 (D9 N s0_0 q3 N (Sh.w (q32.1-1)) q32.2 l34).bind λ(f40,l41)=>
 some (AP.mk q3.1 l41,f40)
def JI (rec_spec_copyExprs:(List AE)->Option (List AE))(p0:AE):Option (AE):=
 (rec_spec_copyExprs p0.kids).bind λq3=>
 some (AE.mk p0.op p0.num q3)
def CU (p0:(List AE))(rec_spec_copyExprs:(List AE)->Option (List AE)):Nat->Int->(List AE)->Option (List AE)
 | 0,_,_=>none
 | n+1,i5,l6=>
  if (decide (i5<(Sh.len p0)))=true then
   (Sh.get p0 i5).bind λc14=>
   (JI rec_spec_copyExprs c14).bind λq15=>
   (Sh.app l6 [q15] 40).bind λl16=>
   CU p0 rec_spec_copyExprs n (Sh.w (i5+1)) l16
  else
   some l6
def HV (N:Nat)(rec_spec_copyExprs:(List AE)->Option (List AE))(p0:(List AE)):Option (List AE):=
 (CU p0 rec_spec_copyExprs N 0 []).bind λl7=>
 some l7
def DI (N:Nat):Nat->(List AE)->Option (List AE)
 | 0,_=>none
 | n+1,p0=>HV N (DI N n) p0
def HF (N:Nat)(p0:(List AE)):Option (List AE):=DI N N p0
def Lp (N:Nat)(rec_spec_bend:(List Int)->Int->AE->Option (AE×Int))(s0_0:(List Int))(s0_1:Int)(p1:AE):Option (AE×Int):=
 (
  if (decide (0<(Sh.len p1.kids)))=true then
   (Az s0_0 s0_1 3).bind λq47=>
   some (decide (0<q47.1),q47.2)
  else
   some (false,s0_1)
 ).bind λ(t4,f5)=>
 if t4=true then
  (HF N p1.kids).bind λq9=>
  (Az s0_0 f5 (Sh.len q9)).bind λq11=>
  (Sh.get q9 q11.1).bind λc13=>
  (rec_spec_bend s0_0 q11.2 c13).bind λq14=>
  (Be p1.op p1.num (Sh.put q9 q11.1 q14.1)).bind λq16=>
  some (q16,q14.2)
 else
  (Az s0_0 f5 5).bind λq19=>
  if (decide (q19.1=0))=true then
   (Az s0_0 q19.2 15).bind λq23=>
   (Be q23.1 p1.num p1.kids).bind λq24=>
   some (q24,q23.2)
  else
  if (decide (q19.1=1))=true then
   (CA s0_0 q19.2 [(1:Int),-1,1000,2]).bind λq28=>
   (Be p1.op (Sh.w (p1.num+q28.1)) p1.kids).bind λq29=>
   some (q29,q28.2)
  else
  if (decide (q19.1=2))=true then
   (HF N p1.kids).bind λq33=>
   (FK 1).bind λq34=>
   (Sh.app q33 [q34] 40).bind λl35=>
   (Be p1.op p1.num l35).bind λq36=>
   some (q36,q19.2)
  else
  if (decide (q19.1=3))=true then
   (CA s0_0 q19.2 [(0:Int),1,2,5,100,-1]).bind λq41=>
   (Ca q41.1).bind λq42=>
   some (q42,q41.2)
  else
   (CA s0_0 q19.2 [(0:Int),1000,-1000,5]).bind λq44=>
   (FK q44.1).bind λq45=>
   some (q45,q44.2)
def JQ (N:Nat):Nat->(List Int)->Int->AE->Option (AE×Int)
 | 0,_,_,_=>none
 | n+1,s0_0,s0_1,p1=>Lp N (JQ N n) s0_0 s0_1 p1
def Qx (N:Nat)(s0_0:(List Int))(s0_1:Int)(p1:AE):Option (AE×Int):=JQ N N s0_0 s0_1 p1
def JC (s0_0:(List Int))(s0_1:Int):Option ((List AM)×Int):=
 (HA s0_0 s0_1).bind λq3=>
 (Az s0_0 q3.2 (Sh.len q3.1)).bind λq5=>
 (
  Option.bind (Az s0_0 q5.2 14) λq12=>
  if (decide (q12.1=0))=true then
   (CA s0_0 q12.2 [(-1:Int),5,0,2]).bind λq15=>
   (CA s0_0 q15.2 [(0:Int),1,5]).bind λq16=>
   (Sh.get q3.1 q5.1).bind λc17=>
   some (q16.2,Sh.put q3.1 q5.1 (AM.mk q15.1 q16.1 []))
  else
  if (decide (q12.1=1))=true then
   (CA s0_0 q12.2 [(-1:Int),0,4,5]).bind λq20=>
   (FF [q20.1]).bind λq21=>
   (FF [(0:Int),0,0,0]).bind λq22=>
   (FF ([]:List Int)).bind λq23=>
   (Sh.get q3.1 q5.1).bind λc24=>
   some (q20.2,Sh.put q3.1 q5.1 (AM.mk 0 0 [q21,q22,q23]))
  else
  if (decide (q12.1=2))=true then
   (FF [Sh.w (q5.1+1)]).bind λq27=>
   (Sh.get q3.1 q5.1).bind λc28=>
   some (q12.2,Sh.put q3.1 q5.1 (AM.mk 0 0 [q27]))
  else
  if (decide (q12.1=3))=true then
   (CA s0_0 q12.2 [(0:Int),2,1]).bind λq31=>
   (Sh.app q3.1 ([AM.mk 2 q31.1 []]) 40).bind λl32=>
   some (q31.2,l32)
  else
  if (decide (q12.1=4))=true then
   (Az s0_0 q12.2 2).bind λq35=>
   (FF ([]:List Int)).bind λq36=>
   (FF [(2:Int)]).bind λq37=>
   (FF ([]:List Int)).bind λq38=>
   (FF ([]:List Int)).bind λq39=>
   (Az s0_0 q35.2 3).bind λq40=>
   (Sh.sl [q36,q37,q38,q39] q40.1 (Sh.len [q36,q37,q38,q39])).bind λl41=>
   (Sh.get q3.1 q5.1).bind λc42=>
   some (q40.2,Sh.put q3.1 q5.1 (AM.mk q35.1 0 l41))
  else
  if (decide (q12.1=5))=true then
   (Sh.app q3.1 ([AM.mk 0 0 [],AM.mk 3 0 []]) 40).bind λl45=>
   some (q12.2,l45)
  else
   some (q12.2,q3.1)
 ).bind λ(f7,l8)=>
 some (l8,f7)
def G1 (N:Nat)(s0_0:(List Int))(s0_1:Int)(s1:(List Ac))(p1_0:(List AM)):Option (AP×Int):=
 (Az s0_0 s0_1 (Sh.len s1)).bind λq3=>
 (Sh.get s1 q3.1).bind λc5=>
 (
  Option.bind (Az s0_0 q3.2 24) λq13=>
  if (decide (q13.1=0))=true then
   (Qx N s0_0 q13.2 c5.body).bind λq16=>
   some (q16.2,Sh.put s1 q3.1 (Ac.mk c5.params c5.result q16.1),p1_0)
  else
  if (decide (q13.1=1))=true then
   (CA s0_0 q13.2 [(0:Int),1,9,-1]).bind λq19=>
   (Ec c5.params [q19.1]).bind λq20=>
   some (q19.2,Sh.put s1 q3.1 (Ac.mk q20 c5.result c5.body),p1_0)
  else
  if (decide (q13.1=2))=true then
   (CA s0_0 q13.2 [(0:Int),1,3,5,-1]).bind λq23=>
   some (q23.2,Sh.put s1 q3.1 (Ac.mk c5.params q23.1 c5.body),p1_0)
  else
  if (decide (q13.1=3))=true then
   (JC s0_0 q13.2).bind λq26=>
   some (q26.2,s1,q26.1)
  else
  if (decide (q13.1=4))=true then
   (Sh.app s1 [c5] 72).bind λl29=>
   some (q13.2,l29,p1_0)
  else
   some (q13.2,s1,p1_0)
 ).bind λ(f7,l8,f9)=>
 some (AP.mk f9 l8,f7)
def Hj (N:Nat)(s0_0:(List Int))(s0_1:Int):Option (AP×Int):=
 (HO N s0_0 s0_1).bind λq3=>
 (G1 N s0_0 q3.2 q3.1.funcs q3.1.decls).bind λq4=>
 some (q4.1,q4.2)
end RC
namespace RC
end RC
namespace RC
def S8 (p0:AE)(rec_spec_known:AE->Option (AE)):Nat->Int->(List AE)->Option (List AE)
 | 0,_,_=>none
 | n+1,k5,l6=>
  if (decide (k5<(Sh.len p0.kids)))=true then
   (Sh.get p0.kids k5).bind λc27=>
   (rec_spec_known c27).bind λq28=>
   (Sh.app l6 [q28] 40).bind λl29=>
   S8 p0 rec_spec_known n (Sh.w (k5+1)) l29
  else
   some l6
def Hm (N:Nat)(p0:AE):Option (AE):=
 (HF N p0.kids).bind λq3=>
 some (AE.mk p0.op p0.num q3)
def Dy (N:Nat)(p0:AP)(p1:(List AE)):Nat->Int->(List Ac)->Option ((AP×Bool) ⊕ (List Ac))
 | 0,_,_=>none
 | n+1,i6,l7=>
  if (decide (i6<(Sh.len p0.funcs)))=true then
   (Sh.get p1 i6).bind λc17=>
   (Gl N c17).bind λq18=>
   if (decide (q18<0))=true then
    some (Sum.inl (AP.mk [] [],false))
   else
    (Sh.get p0.funcs i6).bind λc21=>
    (FJ c21.params).bind λq22=>
    (Hm N c17).bind λq23=>
    (Sh.app l7 [Ac.mk q22 c21.result q23] 72).bind λl24=>
    Dy N p0 p1 n (Sh.w (i6+1)) l24
  else
   some (Sum.inr l7)
def Hn (N:Nat)(p0:AP)(p1:(List AE)):Option (AP×Bool):=
 (IZ N p0.decls).bind λq3=>
 Sh.cont (Dy N p0 p1 N 0 []) (id) λl8=>
 some (AP.mk q3 l8,true)
def Cn (p0:AE)(p1 p2:Int)(rec_impl_shifted:AE->Int->Int->Option (AE)):Nat->Int->(List AE)->Option (List AE)
 | 0,_,_=>none
 | n+1,t9,l10=>
  if (decide (t9<(Sh.len p0.kids)))=true then
   (Sh.get p0.kids t9).bind λc19=>
   (rec_impl_shifted c19 p1 p2).bind λq20=>
   (Sh.app l10 [q20] 40).bind λl21=>
   Cn p0 p1 p2 rec_impl_shifted n (Sh.w (t9+1)) l21
  else
   some l10
def IL (N:Nat)(rec_impl_shifted:AE->Int->Int->Option (AE))(p0:AE)(p1 p2:Int):Option (AE):=
 (
  Option.bind (
   if (decide (p0.op=12))=true then
    some (decide (p1<=p0.num))
   else
    some false
  ) λt25=>
  if t25=true then
   some (Sh.w (p0.num+p2))
  else
   some p0.num
 ).bind λf3=>
 (Cn p0 p1 p2 rec_impl_shifted N 0 []).bind λl11=>
 some (AE.mk p0.op f3 l11)
def Dz (N:Nat):Nat->AE->Int->Int->Option (AE)
 | 0,_,_,_=>none
 | n+1,p0,p1,p2=>IL N (Dz N n) p0 p1 p2
def Gp (N:Nat)(p0:AE)(p1 p2:Int):Option (AE):=Dz N N p0 p1 p2
def IU (N:Nat)(p0:AE):Option (AE):=
 (Gp N p0 0 0).bind λq3=>
 some q3
def DQ (N:Nat)(p0:AP):Nat->Int->(List Ac)->Option (List Ac)
 | 0,_,_=>none
 | n+1,t6,l7=>
  if (decide (t6<(Sh.len p0.funcs)))=true then
   (Sh.get p0.funcs t6).bind λc16=>
   (CP c16.params).bind λq17=>
   (IU N c16.body).bind λq18=>
   (Sh.app l7 [Ac.mk q17 c16.result q18] 72).bind λl19=>
   DQ N p0 n (Sh.w (t6+1)) l19
  else
   some l7
def Gy (N:Nat)(p0:AP):Option (AP):=
 (H3 N p0.decls).bind λq3=>
 (DQ N p0 N 0 []).bind λl8=>
 some (AP.mk q3 l8)
end RC
namespace RC
def Fv (N:Nat)(p0:List AE)(p2:Int):Nat->AE->Option AE
 | 0,b=>some b
 | i+1,b=>
  (Sh.get p0 (i:Int)).bind λx=>
  (Gp N x p2 (i:Int)).bind λq=>
  Fv N p0 p2 i (AE.mk 13 0 [q,b])
def KQ (N:Nat)(s0 p0:List AE)(p1_0 p1_1 p2:Int):Option AE:=
 if p0.length<=1048576 then Fv N p0 p2 p0.length (AE.mk p1_0 p1_1 s0) else none
theorem Qg {N:Nat}{p0:List AE}{p2:Int}:∀(n:Nat) {b r:AE},Fv N p0 p2 n b=some r->
  ∃bs:Nat->AE,bs n=b/\bs 0=r/\∀i,i<n->∃x q,Sh.get p0 (i:Int)=some x/\Gp N x p2 (i:Int)=some q/\bs i=AE.mk 13 0 [q,bs (i+1)]
 | 0,b,r,h=>by
  rw[Fv]at h;cases h;exact⟨λ_=>b,rfl,rfl,λi hi=>by omega⟩
 | n+1,b,r,h=>by
  rw[Fv]at h;obtain⟨x,h1,h⟩:=Sh.bind_some h;obtain⟨q,h2,h⟩:=Sh.bind_some h;obtain⟨bs,e1,e2,e3⟩:=Qg n h;refine⟨λi=>if i=n+1 then b else bs i,by simp,by simp[e2],λi hi=>?_⟩;by_cases hin:i=n
  ·subst hin;refine⟨x,q,h1,h2,?_⟩;simp[e1]
  ·obtain⟨x',q',g1,g2,g3⟩:=e3 i (by omega);refine⟨x',q',g1,g2,?_⟩;have n1:¬ i=n+1:=by omega
   have n2:¬ i+1=n+1:=by omega
   simp only[n1,n2,kH];exact g3
end RC
namespace RC
def Jk (N:Nat)(p0:AP)(p1:AE)(p2 p3:Int):Option (Int):=
 if (decide (p2=0))=true then
  some p3
 else
 if (decide (p1.op=13))=true then
  some (Sh.w (p3+1))
 else
 if (decide (p1.op=8))=true then
  (GI N p0.decls p1.num).bind λq14=>
  (Sh.get q14 (Sh.w (p2-1))).bind λc15=>
  (Bv N p0.decls c15).bind λq16=>
  some (Sh.w (p3+(Sh.len q16)))
 else
  some p3
def I8 (p0:Int):Option (Int):=
 some (if (if p0<999 then p0 else 999) > (-999) then (if p0<999 then p0 else 999) else (-999))
def MY (p0 p1 p2:Int):Option (Int):=
 if (decide (p0=1))=true then
  (I8 (Sh.w (p1+p2))).bind λq7=>
  some q7
 else
 if (decide (p0=2))=true then
  (I8 (Sh.w (p1-p2))).bind λq11=>
  some q11
 else
 if (decide (p0=3))=true then
  (I8 (Sh.w (p1*p2))).bind λq15=>
  some q15
 else
  (
   if (decide (p0=4))=true then
    some (decide (p1<p2))
   else
    some false
  ).bind λt18=>
  if t18=true then
   some 1
  else
   some 0
def Eb (p0:(List AE))(p1 p2:Int)(rec_spec_shift:AE->Int->Int->Option (AE)):Nat->Int->(List AE)->Option (List AE)
 | 0,_,_=>none
 | n+1,i5,l6=>
  if (decide (i5<(Sh.len p0)))=true then
   (Sh.get p0 i5).bind λc14=>
   (rec_spec_shift c14 p1 p2).bind λq15=>
   (Sh.app l6 [q15] 40).bind λl16=>
   Eb p0 p1 p2 rec_spec_shift n (Sh.w (i5+1)) l16
  else
   some l6
def KM (N:Nat)(rec_spec_shift:AE->Int->Int->Option (AE))(p0:(List AE))(p1 p2:Int):Option (List AE):=
 (Eb p0 p1 p2 rec_spec_shift N 0 []).bind λl7=>
 some l7
def Kx (N:Nat)(rec_spec_shift:AE->Int->Int->Option (AE))(p0:AE)(p1 p2:Int):Option (AE):=
 (
  Option.bind (
   if (decide (p0.op=12))=true then
    some (decide (p1<=p0.num))
   else
    some false
  ) λt9=>
  if t9=true then
   some (Sh.w (p0.num+p2))
  else
   some p0.num
 ).bind λnum4=>
 (KM N rec_spec_shift p0.kids p1 p2).bind λq7=>
 some (AE.mk p0.op num4 q7)
def Gs (N:Nat):Nat->AE->Int->Int->Option (AE)
 | 0,_,_,_=>none
 | n+1,p0,p1,p2=>Kx N (Gs N n) p0 p1 p2
def NC (N:Nat)(p0:AE)(p1 p2:Int):Option (AE):=Gs N N p0 p1 p2
def Gn (N:Nat)(p0:(List AE))(p2:Int):Nat->Int->Int->Int->(List AE)->Option (Int×Int×(List AE))
 | 0,_,_,_,_=>none
 | n+1,k5,f6,f7,f8=>
  if (decide (0<=k5))=true then
   (Sh.get p0 k5).bind λc18=>
   (NC N c18 p2 k5).bind λq19=>
   Gn N p0 p2 n (Sh.w (k5-1)) 13 0 [q19,AE.mk f6 f7 f8]
  else
   some (f6,f7,f8)
def MF (N:Nat)(p0:(List AE))(p1:AE)(p2:Int):Option (AE):=
 (Gn N p0 p2 N (Sh.w ((Sh.len p0)-1)) p1.op p1.num p1.kids).bind λ(f9,f10,f11)=>
 some (AE.mk f9 f10 f11)
def Hz (N:Nat)(p0:AP)(p1:AE)(p2:Int):Option (AE):=
 Sh.cont (
  (
   if (decide (p1.op=1))=true then
    some true
   else
   if (decide (p1.op=2))=true then
    some true
   else
   if (decide (p1.op=3))=true then
    some true
   else
    some (decide (p1.op=4))
  ).bind λt7=>
  if t7=true then
   (
    Option.bind (Sh.get p1.kids 0) λc18=>
    if (decide (c18.op=0))=true then
     (Sh.get p1.kids 1).bind λc20=>
     some (decide (c20.op=0))
    else
     some false
   ).bind λt11=>
   if t11=true then
    (Sh.get p1.kids 0).bind λc15=>
    (Sh.get p1.kids 1).bind λc16=>
    (MY p1.op c15.num c16.num).bind λq17=>
    some (Sum.inl (AE.mk 0 q17 []))
   else
    some (Sum.inr ())
  else
  if (decide (p1.op=7))=true then
   (
    Option.bind (Sh.get p1.kids 0) λc35=>
    if (decide (c35.op=0))=true then
     some (!decide (c35.num=0))
    else
     some false
   ).bind λt25=>
   if t25=true then
    (Sh.get p1.kids 1).bind λc29=>
    some (Sum.inl c29)
   else
    (Sh.get p1.kids 0).bind λc31=>
    if (decide (c31.op=0))=true then
     (Sh.get p1.kids 2).bind λc34=>
     some (Sum.inl c34)
    else
     some (Sum.inr ())
  else
  if (decide (p1.op=8))=true then
   (Sh.get p1.kids 0).bind λc40=>
   if (decide (c40.op=6))=true then
    (GM N p0.decls (Sh.w (p1.num-1))).bind λq43=>
    (Sh.get p1.kids (Sh.w ((Sh.w (1+c40.num))-q43))).bind λc44=>
    (MF N c40.kids c44 p2).bind λq45=>
    some (Sum.inl q45)
   else
    some (Sum.inr ())
  else
   some (Sum.inr ())
 ) (id) λ()=>
 some p1
def FV (N:Nat)(p0:AP)(p1:AE)(p2:Int)(rec_spec_fold:AP->AE->Int->Option (AE)):Nat->Int->(List AE)->Option (List AE)
 | 0,_,_=>none
 | n+1,k5,l6=>
  if (decide (k5<(Sh.len p1.kids)))=true then
   (Sh.get p1.kids k5).bind λc15=>
   (Jk N p0 p1 k5 p2).bind λq16=>
   (rec_spec_fold p0 c15 q16).bind λq17=>
   (Sh.app l6 [q17] 40).bind λl18=>
   FV N p0 p1 p2 rec_spec_fold n (Sh.w (k5+1)) l18
  else
   some l6
def Ln (N:Nat)(rec_spec_fold:AP->AE->Int->Option (AE))(p0:AP)(p1:AE)(p2:Int):Option (AE):=
 (FV N p0 p1 p2 rec_spec_fold N 0 []).bind λl7=>
 (Hz N p0 (AE.mk p1.op p1.num l7) p2).bind λq10=>
 some q10
def Gh (N:Nat):Nat->AP->AE->Int->Option (AE)
 | 0,_,_,_=>none
 | n+1,p0,p1,p2=>Ln N (Gh N n) p0 p1 p2
def RE (N:Nat)(p0:AP)(p1:AE)(p2:Int):Option (AE):=Gh N N p0 p1 p2
def GC (N:Nat)(p0:AP):Nat->Int->(List AE)->Option (List AE)
 | 0,_,_=>none
 | n+1,i12,l13=>
  if (decide (i12<(Sh.len p0.funcs)))=true then
   (Sh.get p0.funcs i12).bind λc22=>
   (RE N p0 c22.body (Sh.len c22.params)).bind λq23=>
   (Sh.app l13 [q23] 40).bind λl24=>
   GC N p0 n (Sh.w (i12+1)) l24
  else
   some l13
def Jw (N:Nat)(p0:AP):Option (AP×Bool):=
 (Bm N p0).bind λq4=>
 if (!q4)=true then
  some (AP.mk [] [],false)
 else
  (GC N p0 N 0 []).bind λl14=>
  (Hn N p0 l14).bind λq17=>
  some (q17.1,q17.2)
def MJ (p0 p1 p2:Int):Option (Int):=
 (
  if (decide (p1<(-999)))=true then
   some true
  else
  if (decide (999<p1))=true then
   some true
  else
  if (decide (p2<(-999)))=true then
   some true
  else
   some (decide (999<p2))
 ).bind λt4=>
 if t4=true then
  some 0
 else
  (
   if (decide (p0=1))=true then
    some (Sh.w (p1+p2))
   else
   if (decide (p0=2))=true then
    some (Sh.w (p1-p2))
   else
   if (decide (p0=3))=true then
    some (Sh.w (p1*p2))
   else
   if (decide (p0=4))=true then
    if (decide (p1<p2))=true then
     some 1
    else
     some 0
   else
    some 0
  ).bind λn10=>
  some (if 999<(if (-999) > n10 then (-999) else n10) then 999 else (if (-999) > n10 then (-999) else n10))
def JO (N:Nat)(s0:(List AE))(p0:(List AM))(p1_0 p1_1 p2:Int):Option (AE):=
 Sh.cont (
  (
   if (decide (p1_0=1))=true then
    some true
   else
   if (decide (p1_0=2))=true then
    some true
   else
   if (decide (p1_0=3))=true then
    some true
   else
    some (decide (p1_0=4))
  ).bind λt7=>
  if t7=true then
   (
    Option.bind (Sh.get s0 0) λc18=>
    if (decide (c18.op=0))=true then
     (Sh.get s0 1).bind λc20=>
     some (decide (c20.op=0))
    else
     some false
   ).bind λt11=>
   if t11=true then
    (Sh.get s0 0).bind λc15=>
    (Sh.get s0 1).bind λc16=>
    (MJ p1_0 c15.num c16.num).bind λq17=>
    some (Sum.inl (AE.mk 0 q17 []))
   else
    some (Sum.inr ())
  else
  if (decide (p1_0=7))=true then
   (Sh.get s0 0).bind λc24=>
   if (decide (c24.op=0))=true then
    if (!decide (c24.num=0))=true then
     (Sh.get s0 1).bind λc32=>
     some (Sum.inl c32)
    else
     (Sh.get s0 2).bind λc35=>
     some (Sum.inl c35)
   else
    some (Sum.inr ())
  else
  if (decide (p1_0=8))=true then
   (Sh.get s0 0).bind λc39=>
   if (decide (c39.op=6))=true then
    (HS N p0 p1_1).bind λq43=>
    (Fy N q43 c39.num).bind λq44=>
    (Sh.get s0 (Sh.w (1+q44))).bind λc46=>
    (Sh.apart 0 (Sh.w (1+q44))).bind λu47=>
    (KQ N c46.kids c39.kids c46.op c46.num p2).bind λq48=>
    some (Sum.inl q48)
   else
    some (Sum.inr ())
  else
   some (Sum.inr ())
 ) (id) λ()=>
 some (AE.mk p1_0 p1_1 s0)
def Lr (N:Nat)(s0_0:(List AM))(s0_1:(List Ac))(s1:(List AE))(p0_0 p0_1 p1:Int):Option (AE):=
 (JO N s1 s0_0 p0_0 p0_1 p1).bind λq3=>
 some q3
def Co (N:Nat)(s0:(List AE))(s1_0:(List AM))(s1_1:(List Ac))(p0:(List AM))(p1_0 p1_1 p2:Int)(rec_impl_rewriteExpr_2:(List AE)->(List AM)->(List Ac)->(List AM)->Int->Int->Int->Option (AE)):Nat->Int->(List AE)->Option (List AE)
 | 0,_,_=>none
 | n+1,t4,l5=>
  if (decide (t4<(Sh.len s0)))=true then
   (
    Option.bind (
     if (decide (p1_0=13))=true then
      some (decide (t4=1))
     else
      some false
    ) λt23=>
    if t23=true then
     some (Sh.w (p2+1))
    else
     (
      if (decide (p1_0=8))=true then
       some (decide (0<t4))
      else
       some false
     ).bind λt27=>
     if t27=true then
      (HS N p0 p1_1).bind λq30=>
      (Sh.get q30 (Sh.w (t4-1))).bind λc31=>
      (EJ N p0 c31).bind λq32=>
      some (Sh.w (p2+(Sh.len q32)))
     else
      some p2
   ).bind λscope17=>
   (Sh.get l5 t4).bind λc19=>
   (rec_impl_rewriteExpr_2 c19.kids s1_0 s1_1 p0 c19.op c19.num scope17).bind λq20=>
   Co N s0 s1_0 s1_1 p0 p1_0 p1_1 p2 rec_impl_rewriteExpr_2 n (Sh.w (t4+1)) (Sh.put l5 t4 q20)
  else
   some l5
def G7 (N:Nat)(rec_impl_rewriteExpr_2:(List AE)->(List AM)->(List Ac)->(List AM)->Int->Int->Int->Option (AE))(s0:(List AE))(s1_0:(List AM))(s1_1:(List Ac))(p0:(List AM))(p1_0 p1_1 p2:Int):Option (AE):=
 (Co N s0 s1_0 s1_1 p0 p1_0 p1_1 p2 rec_impl_rewriteExpr_2 N 0 s0).bind λl6=>
 (Lr N s1_0 s1_1 l6 p1_0 p1_1 p2).bind λq9=>
 some q9
def DO (N:Nat):Nat->(List AE)->(List AM)->(List Ac)->(List AM)->Int->Int->Int->Option (AE)
 | 0,_,_,_,_,_,_,_=>none
 | n+1,s0,s1_0,s1_1,p0,p1_0,p1_1,p2=>G7 N (DO N n) s0 s1_0 s1_1 p0 p1_0 p1_1 p2
def Jf (N:Nat)(s0:(List AE))(s1_0:(List AM))(s1_1:(List Ac))(p0:(List AM))(p1_0 p1_1 p2:Int):Option (AE):=DO N N s0 s1_0 s1_1 p0 p1_0 p1_1 p2
def Dj (N:Nat)(s0_0:(List AM))(s0_1:(List Ac))(p0 q3:AP):Nat->Int->(List Ac)->Option ((AP×Bool) ⊕ (List Ac))
 | 0,_,_=>none
 | n+1,t6,l7=>
  if (decide (t6<(Sh.len q3.funcs)))=true then
   (Sh.get l7 t6).bind λc17=>
   (Jf N c17.body.kids s0_0 s0_1 p0.decls c17.body.op c17.body.num (Sh.len c17.params)).bind λq18=>
   (Sh.get (Sh.put l7 t6 (Ac.mk c17.params c17.result q18)) t6).bind λc21=>
   (Ih N c21.body).bind λq22=>
   if (decide (q22<0))=true then
    some (Sum.inl (AP.mk [] [],false))
   else
    Dj N s0_0 s0_1 p0 q3 n (Sh.w (t6+1)) (Sh.put l7 t6 (Ac.mk c17.params c17.result q18))
  else
   some (Sum.inr l7)
def Is (N:Nat)(s0_0:(List AM))(s0_1:(List Ac))(p0:AP):Option (AP×Bool):=
 (Gy N p0).bind λq3=>
 Sh.cont (Dj N s0_0 s0_1 p0 q3 N 0 q3.funcs) (id) λl8=>
 some (AP.mk q3.decls l8,true)
def IE (N:Nat)(p0:AP):Option (AP×Bool):=
 (EH N p0).bind λq4=>
 if (!q4)=true then
  some (AP.mk [] [],false)
 else
  (Is N p0.decls p0.funcs p0).bind λq10=>
  some (q10.1,q10.2)
end RC
namespace RC
def EF (p0:(List Int))(p1:(List Int)):Nat->Int->Option ((Bool) ⊕ (Unit))
 | 0,_=>none
 | n+1,i10=>
  if (decide (i10<(Sh.len p0)))=true then
   (Sh.get p0 i10).bind λc18=>
   (Sh.get p1 i10).bind λc19=>
   if (!decide (c18=c19))=true then
    some (Sum.inl false)
   else
    EF p0 p1 n (Sh.w (i10+1))
  else
   some (Sum.inr ())
def HE (N:Nat)(p0:(List Int))(p1:(List Int)):Option (Bool):=
 if (!decide ((Sh.len p0)=(Sh.len p1)))=true then
  some false
 else
  Sh.cont (EF p0 p1 N 0) (id) λ()=>
  some true
def Dp (N:Nat)(i10:Int)(p0:(List AM))(p1:(List AM)):Nat->Int->Option ((Bool) ⊕ (Unit))
 | 0,_=>none
 | n+1,k24=>
  (Sh.get p0 i10).bind λc28=>
  if (decide (k24<(Sh.len c28.cons)))=true then
   (Sh.get c28.cons k24).bind λc32=>
   (Sh.get p1 i10).bind λc33=>
   (Sh.get c33.cons k24).bind λc34=>
   (HE N c32.fields c34.fields).bind λq35=>
   if (!q35)=true then
    some (Sum.inl false)
   else
    Dp N i10 p0 p1 n (Sh.w (k24+1))
  else
   some (Sum.inr ())
def Dr (N:Nat)(p0:(List AM))(p1:(List AM)):Nat->Int->Option ((Bool) ⊕ (Unit))
 | 0,_=>none
 | n+1,i10=>
  if (decide (i10<(Sh.len p0)))=true then
   (
    Option.bind (Sh.get p0 i10) λc40=>
    (Sh.get p1 i10).bind λc41=>
    if (!decide (c40.from_=c41.from_))=true then
     some true
    else
    if (!decide (c40.to=c41.to))=true then
     some true
    else
     some (!decide ((Sh.len c40.cons)=(Sh.len c41.cons)))
   ).bind λt19=>
   if t19=true then
    some (Sum.inl false)
   else
    Sh.cont (Dp N i10 p0 p1 N 0) (λx=>Sum.inl x) λ()=>
    Dr N p0 p1 n (Sh.w (i10+1))
  else
   some (Sum.inr ())
def H2 (N:Nat)(p0:(List AM))(p1:(List AM)):Option (Bool):=
 if (!decide ((Sh.len p0)=(Sh.len p1)))=true then
  some false
 else
  Sh.cont (Dr N p0 p1 N 0) (id) λ()=>
  some true
def Df (p0 p1:AE)(rec_laws_equalExpr:AE->AE->Option (Bool)):Nat->Int->Option ((Bool) ⊕ (Unit))
 | 0,_=>none
 | n+1,i10=>
  if (decide (i10<(Sh.len p0.kids)))=true then
   (Sh.get p0.kids i10).bind λc18=>
   (Sh.get p1.kids i10).bind λc19=>
   (rec_laws_equalExpr c18 c19).bind λq20=>
   if (!q20)=true then
    some (Sum.inl false)
   else
    Df p0 p1 rec_laws_equalExpr n (Sh.w (i10+1))
  else
   some (Sum.inr ())
def Iq (N:Nat)(rec_laws_equalExpr:AE->AE->Option (Bool))(p0 p1:AE):Option (Bool):=
 (
  if (!decide (p0.op=p1.op))=true then
   some true
  else
  if (!decide (p0.num=p1.num))=true then
   some true
  else
   some (!decide ((Sh.len p0.kids)=(Sh.len p1.kids)))
 ).bind λt4=>
 if t4=true then
  some false
 else
  Sh.cont (Df p0 p1 rec_laws_equalExpr N 0) (id) λ()=>
  some true
def E5 (N:Nat):Nat->AE->AE->Option (Bool)
 | 0,_,_=>none
 | n+1,p0,p1=>Iq N (E5 N n) p0 p1
def LU (N:Nat)(p0 p1:AE):Option (Bool):=E5 N N p0 p1
def DP (N:Nat)(p0 p1:AP):Nat->Int->Option ((Bool) ⊕ (Unit))
 | 0,_=>none
 | n+1,i10=>
  if (decide (i10<(Sh.len p0.funcs)))=true then
   (
    Option.bind (Sh.get p0.funcs i10) λc22=>
    (Sh.get p1.funcs i10).bind λc23=>
    (HE N c22.params c23.params).bind λq24=>
    if (!q24)=true then
     some true
    else
    if (!decide (c22.result=c23.result))=true then
     some true
    else
     (LU N c22.body c23.body).bind λq27=>
     some (!q27)
   ).bind λt18=>
   if t18=true then
    some (Sum.inl false)
   else
    DP N p0 p1 n (Sh.w (i10+1))
  else
   some (Sum.inr ())
def FX (N:Nat)(p0 p1:AP):Option (Bool):=
 (
  Option.bind (H2 N p0.decls p1.decls) λq28=>
  if (!q28)=true then
   some true
  else
   some (!decide ((Sh.len p0.funcs)=(Sh.len p1.funcs)))
 ).bind λt4=>
 if t4=true then
  some false
 else
  Sh.cont (DP N p0 p1 N 0) (id) λ()=>
  some true
end RC
namespace RC
def JJ (N:Nat)(p0:(List Int)):Option (AP):=
 (IN p0).bind λq3=>
 (Hj N q3.1 q3.2).bind λq4=>
 some q4.1
def Ip (N:Nat)(p0:(List Int)):Option (Bool):=
 if (decide (1048576<(Sh.len p0)))=true then
  some true
 else
  (JJ N p0).bind λq7=>
  (IE N q7).bind λq9=>
  (Jw N q7).bind λq11=>
  (
   Option.bind (FX N q9.1 q11.1) λq29=>
   if (!q29)=true then
    some true
   else
   if (q9.2 != q11.2)=true then
    some true
   else
    some (!q9.2)
  ).bind λt14=>
  if t14=true then
   (
    Option.bind (FX N q9.1 q11.1) λq20=>
    if q20=true then
     some (q9.2==q11.2)
    else
     some false
   ).bind λt18=>
   some t18
  else
   (IE N q9.1).bind λq23=>
   (
    if q23.2=true then
     (FX N q23.1 q9.1).bind λq28=>
     some q28
    else
     some false
   ).bind λt25=>
   some t25
end RC
