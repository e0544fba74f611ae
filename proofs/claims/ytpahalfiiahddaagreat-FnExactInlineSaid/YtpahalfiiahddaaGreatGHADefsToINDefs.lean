import Derived.Test.YtpahalfiiahddaaGreatGAbsZPToSSDefs
import Derived.Test.YtpahalfiiahddaaGreatSufC
import Derived.Test.YtpahalfiiahddaaGreatSufF
namespace RC
def H2 (p0:(List Int)) (p1:Int):Option (Int):=
 if (decide ((Sh.w (p1 - (Sh.len p0))) < 0))=true then
  some (-1)
 else
  some (Sh.w (p1 - (Sh.len p0)))
def EV (p0:(List Int)):Nat→Int→(List Int)→Option ((List Int))
 | 0,_,_=>none
 | n+1,i6,l7=>
  if (decide (i6 < (Sh.len p0)))=true then
   Option.bind (Sh.get p0 i6) fun c15=>
   Option.bind (Sh.get l7 i6) fun c16=>
   EV p0 n (Sh.w (i6+1)) (Sh.put l7 i6 c15)
  else
   some l7
def Hv (N:Nat) (p0:(List Int)):Option ((List Int)):=
 Option.bind (Sh.mk 0 (Sh.len p0) 8) fun l3=>
 Option.bind (EV p0 N 0 l3) fun l8=>
 some l8
def B4 (p0:Int) (p1:Int) (p2:Int):Option (Bool):=
 Option.bind (
  if (decide (p1≤p0))=true then
   some (decide (p0≤p2))
  else
   some false
 ) fun t3=>
 some t3
def Rh (p0:(List Int)):Nat→Int→Option ((Bool) ⊕ (Unit))
 | 0,_=>none
 | n+1,i4=>
  if (decide (i4 < (Sh.len p0)))=true then
   Option.bind (Sh.get p0 i4) fun c12=>
   if (!decide (c12=0))=true then
    some (Sum.inl false)
   else
    Rh p0 n (Sh.w (i4+1))
  else
   some (Sum.inr ())
def BW (p0:(List Int)):Option ((List Int)):=
 Option.bind (Sh.app ([]:List Int) p0 8) fun l6=>
 some l6
def EX (p0:(List Int)) (p1:(List Int)):Nat→Int→Option ((Bool) ⊕ (Unit))
 | 0,_=>none
 | n+1,i10=>
  if (decide (i10 < (Sh.len p0)))=true then
   Option.bind (Sh.get p0 i10) fun c18=>
   Option.bind (Sh.get p1 i10) fun c19=>
   if (!decide (c18=c19))=true then
    some (Sum.inl false)
   else
    EX p0 p1 n (Sh.w (i10+1))
  else
   some (Sum.inr ())
def Hw (N:Nat) (p0:(List Int)) (p1:(List Int)):Option (Bool):=
 if (!decide ((Sh.len p0)=(Sh.len p1)))=true then
  some false
 else
  Sh.cont (EX p0 p1 N 0) (id) fun ()=>
  some true
end RC


namespace RC
def J7 (p0:BP) (p1:Int):Option (Int):=
 Option.bind (H2 p0.fields p1) fun q3=>
 if (decide (q3 < 0))=true then
  some (-1)
 else
  some q3
def Ey (p0:(List BP)):Nat→Int→Int→Option ((Int) ⊕ (Int))
 | 0,_,_=>none
 | n+1,left9,i10=>
  if (decide (i10 < (Sh.len p0)))=true then
   Option.bind (Sh.get p0 i10) fun c19=>
   Option.bind (J7 c19 left9) fun q20=>
   if (decide (q20 < 0))=true then
    some (Sum.inl (-1))
   else
    Ey p0 n q20 (Sh.w (i10+1))
  else
   some (Sum.inr left9)
def JL (N:Nat) (p0:(List BP)) (p1:Int):Option (Int):=
 if (decide ((Sh.w (p1 - (Sh.len p0))) < 0))=true then
  some (-1)
 else
  Sh.cont (Ey p0 N (Sh.w (p1 - (Sh.len p0))) 0) (id) fun left11=>
  some left11
def JQ (N:Nat) (p0:Ab) (p1:Int):Option (Int):=
 Option.bind (JL N p0.cons p1) fun q3=>
 if (decide (q3 < 0))=true then
  some (-1)
 else
  some q3
def Em (N:Nat) (p0:(List Ab)):Nat→Int→Int→Option ((Int) ⊕ (Int))
 | 0,_,_=>none
 | n+1,left9,i10=>
  if (decide (i10 < (Sh.len p0)))=true then
   Option.bind (Sh.get p0 i10) fun c19=>
   Option.bind (JQ N c19 left9) fun q20=>
   if (decide (q20 < 0))=true then
    some (Sum.inl (-1))
   else
    Em N p0 n q20 (Sh.w (i10+1))
  else
   some (Sum.inr left9)
def IN (N:Nat) (p0:(List Ab)) (p1:Int):Option (Int):=
 if (decide ((Sh.w (p1 - (Sh.len p0))) < 0))=true then
  some (-1)
 else
  Sh.cont (Em N p0 N (Sh.w (p1 - (Sh.len p0))) 0) (id) fun left11=>
  some left11
def KA (N:Nat) (p0:BP):Option (BP):=
 Option.bind (Hv N p0.fields) fun q4=>
 some (BP.mk q4)
def E2 (N:Nat) (p0:(List BP)):Nat→Int→(List BP)→Option ((List BP))
 | 0,_,_=>none
 | n+1,i6,l7=>
  if (decide (i6 < (Sh.len p0)))=true then
   Option.bind (Sh.get p0 i6) fun c15=>
   Option.bind (KA N c15) fun q16=>
   Option.bind (Sh.get l7 i6) fun c17=>
   E2 N p0 n (Sh.w (i6+1)) (Sh.put l7 i6 q16)
  else
   some l7
def JR (N:Nat) (p0:(List BP)):Option ((List BP)):=
 Option.bind (Sh.mk (BP.mk []) (Sh.len p0) 24) fun l3=>
 Option.bind (E2 N p0 N 0 l3) fun l8=>
 some l8
def JM (N:Nat) (p0:Ab):Option (Ab):=
 Option.bind (JR N p0.cons) fun q6=>
 some (Ab.mk p0.from_ p0.to q6)
def Ec (N:Nat) (p0:(List Ab)):Nat→Int→(List Ab)→Option ((List Ab))
 | 0,_,_=>none
 | n+1,i6,l7=>
  if (decide (i6 < (Sh.len p0)))=true then
   Option.bind (Sh.get p0 i6) fun c15=>
   Option.bind (JM N c15) fun q16=>
   Option.bind (Sh.get l7 i6) fun c17=>
   Ec N p0 n (Sh.w (i6+1)) (Sh.put l7 i6 q16)
  else
   some l7
def ID (N:Nat) (p0:(List Ab)):Option ((List Ab)):=
 Option.bind (Sh.mk (Ab.mk 0 0 []) (Sh.len p0) 40) fun l3=>
 Option.bind (Ec N p0 N 0 l3) fun l8=>
 some l8
def EC (p0:(List Ab)) (p1:(List Int)):Nat→Int→Option ((Bool) ⊕ (Unit))
 | 0,_=>none
 | n+1,i4=>
  if (decide (i4 < (Sh.len p1)))=true then
   Option.bind (Sh.get p1 i4) fun c12=>
   Option.bind (B4 c12 0 (Sh.len p0)) fun q13=>
   if (!q13)=true then
    some (Sum.inl false)
   else
    EC p0 p1 n (Sh.w (i4+1))
  else
   some (Sum.inr ())
def GY (N:Nat) (p0:(List Ab)) (p1:(List Int)):Option (Bool):=
 Sh.cont (EC p0 p1 N 0) (id) fun ()=>
 some true
def Dl (N:Nat) (c3:Ab) (p0:(List Ab)):Nat→Int→Option ((Bool) ⊕ (Unit))
 | 0,_=>none
 | n+1,i15=>
  if (decide (i15 < (Sh.len c3.cons)))=true then
   Option.bind (
    Option.bind (Sh.get c3.cons i15) fun c27=>
    if (decide (3 < (Sh.len c27.fields)))=true then
     some true
    else
     Option.bind (GY N p0 c27.fields) fun q29=>
     some (!q29)
   ) fun t23=>
   if t23=true then
    some (Sum.inl false)
   else
    Dl N c3 p0 n (Sh.w (i15+1))
  else
   some (Sum.inr ())
def Ds (c3:Ab) (p0:(List Ab)) (p1:Int):Nat→Int→Option ((Bool) ⊕ (Unit))
 | 0,_=>none
 | n+1,i34=>
  if (decide (i34 < p1))=true then
   Option.bind (
    Option.bind (Sh.get p0 i34) fun c51=>
    if (decide ((Sh.len c51.cons)=0))=true then
     if (decide (c51.from_=c3.from_))=true then
      some (decide (c51.to=c3.to))
     else
      some false
    else
     some false
   ) fun t47=>
   if t47=true then
    some (Sum.inl false)
   else
    Ds c3 p0 p1 n (Sh.w (i34+1))
  else
   some (Sum.inr ())
def HE (N:Nat) (p0:(List Ab)) (p1:Int):Option (Bool):=
 Option.bind (Sh.get p0 p1) fun c3=>
 if (decide (0 < (Sh.len c3.cons)))=true then
  Option.bind (
   if (decide (3 < (Sh.len c3.cons)))=true then
    some true
   else
   if (!decide (c3.from_=0))=true then
    some true
   else
    some (!decide (c3.to=0))
  ) fun t9=>
  if t9=true then
   some false
  else
   Sh.cont (Dl N c3 p0 N 0) (id) fun ()=>
   some true
 else
  Sh.cont (Ds c3 p0 p1 N 0) (id) fun ()=>
  Option.bind (
   Option.bind (B4 c3.from_ 0 (Sh.len p0)) fun q39=>
   if q39=true then
    Option.bind (B4 c3.to 0 (Sh.len p0)) fun q41=>
    some q41
   else
    some false
  ) fun t37=>
  some t37
def DS (N:Nat) (p0:(List Ab)):Nat→Int→Option ((Bool) ⊕ (Unit))
 | 0,_=>none
 | n+1,i8=>
  if (decide (i8 < (Sh.len p0)))=true then
   Option.bind (HE N p0 i8) fun q16=>
   if (!q16)=true then
    some (Sum.inl false)
   else
    DS N p0 n (Sh.w (i8+1))
  else
   some (Sum.inr ())
def Gb (N:Nat) (p0:(List Ab)):Option (Bool):=
 if (decide (4 < (Sh.len p0)))=true then
  some false
 else
  Sh.cont (DS N p0 N 0) (id) fun ()=>
  some true
def C7 (N:Nat) (p0:AN):Nat→Int→Option ((Bool) ⊕ (Unit))
 | 0,_=>none
 | n+1,i10=>
  if (decide (i10 < (Sh.len p0.funcs)))=true then
   Option.bind (Sh.get p0.funcs i10) fun c22=>
   Option.bind (
    if (decide (3 < (Sh.len c22.params)))=true then
     some true
    else
     Option.bind (GY N p0.decls c22.params) fun q29=>
     if (!q29)=true then
      some true
     else
      Option.bind (B4 c22.result 0 (Sh.len p0.decls)) fun q31=>
      some (!q31)
   ) fun t24=>
   if t24=true then
    some (Sum.inl false)
   else
    C7 N p0 n (Sh.w (i10+1))
  else
   some (Sum.inr ())
def GC (N:Nat) (p0:AN):Option (Bool):=
 Option.bind (
  Option.bind (Gb N p0.decls) fun q32=>
  if (!q32)=true then
   some true
  else
   Option.bind (B4 (Sh.len p0.funcs) 1 4) fun q34=>
   some (!q34)
 ) fun t4=>
 if t4=true then
  some false
 else
  Sh.cont (C7 N p0 N 0) (id) fun ()=>
  Option.bind (
   Option.bind (Sh.get p0.funcs 0) fun c15=>
   if (decide ((Sh.len c15.params)=0))=true then
    some (decide (c15.result=0))
   else
    some false
  ) fun t13=>
  some t13
def DW (p0:(List Ab)) (p1:Int):Nat→Int→Int→Option (Int)
 | 0,_,_=>none
 | n+1,n5,i6=>
  if (decide (i6 < p1))=true then
   Option.bind (Sh.get p0 i6) fun c14=>
   DW p0 p1 n (Sh.w (n5+(Sh.len c14.cons))) (Sh.w (i6+1))
  else
   some n5
def Fu (N:Nat) (p0:(List Ab)) (p1:Int):Option (Int):=
 Option.bind (DW p0 p1 N 0 0) fun n7=>
 some n7
def Ct (N:Nat) (p0:(List Ab)) (p1:Int):Nat→Int→Option ((Int) ⊕ (Unit))
 | 0,_=>none
 | n+1,i4=>
  if (decide (i4 < (Sh.len p0)))=true then
   Option.bind (Fu N p0 i4) fun q12=>
   Option.bind (Sh.get p0 i4) fun c14=>
   Option.bind (B4 p1 q12 (Sh.w ((Sh.w (q12+(Sh.len c14.cons))) - 1))) fun q15=>
   if q15=true then
    some (Sum.inl (Sh.w (i4+1)))
   else
    Ct N p0 p1 n (Sh.w (i4+1))
  else
   some (Sum.inr ())
def FI (N:Nat) (p0:(List Ab)) (p1:Int):Option (Int):=
 Sh.cont (Ct N p0 p1 N 0) (id) fun ()=>
 some (-1)
def CP (N:Nat) (p0:(List Ab)) (p1:Int):Option ((List Int)):=
 Option.bind (FI N p0 p1) fun q3=>
 if (decide (q3 < 1))=true then
  some []
 else
  Option.bind (Sh.get p0 (Sh.w (q3 - 1))) fun c9=>
  Option.bind (Fu N p0 (Sh.w (q3 - 1))) fun q10=>
  Option.bind (Sh.get c9.cons (Sh.w (p1 - q10))) fun c11=>
  some c11.fields
def EZ (N:Nat) (p0:(List Ab)) (p1:Int):Nat→Int→(List Int)→Option ((List Int))
 | 0,_,_=>none
 | n+1,i12,l13=>
  Option.bind (Sh.get p0 (Sh.w (p1 - 1))) fun c19=>
  if (decide (i12 < (Sh.len c19.cons)))=true then
   Option.bind (Fu N p0 (Sh.w (p1 - 1))) fun q22=>
   Option.bind (Sh.app l13 [Sh.w (q22+i12)] 8) fun l23=>
   EZ N p0 p1 n (Sh.w (i12+1)) l23
  else
   some l13
def Ho (N:Nat) (p0:(List Ab)) (p1:Int):Option ((List Int)):=
 Option.bind (B4 p1 1 (Sh.len p0)) fun q5=>
 if (!q5)=true then
  some []
 else
  Option.bind (EZ N p0 p1 N 0 []) fun l14=>
  some l14
def GM (p0:(List Ab)) (p1:Int):Option (Bool):=
 Option.bind (
  if (decide (0≤p1))=true then
   some (decide (p1≤(Sh.len p0)))
  else
   some false
 ) fun t3=>
 some t3
def EF (p0:(List Ab)) (p1:(List Int)):Nat→Int→Option ((Bool) ⊕ (Unit))
 | 0,_=>none
 | n+1,t4=>
  if (decide (t4 < (Sh.len p1)))=true then
   Option.bind (Sh.get p1 t4) fun c12=>
   Option.bind (GM p0 c12) fun q14=>
   if (!q14)=true then
    some (Sum.inl false)
   else
    EF p0 p1 n (Sh.w (t4+1))
  else
   some (Sum.inr ())
def Fy (N:Nat) (p0:(List Ab)) (p1:(List Int)):Option (Bool):=
 Sh.cont (EF p0 p1 N 0) (id) fun ()=>
 some true
def Ck (c16:Ab) (l28:(List Ab)):Nat→Int→Option ((Bool) ⊕ (Unit))
 | 0,_=>none
 | n+1,t29=>
  if (decide (t29 < (Sh.len l28)))=true then
   Option.bind (Sh.get l28 t29) fun c36=>
   Option.bind (
    if (decide ((Sh.len c16.cons)=0))=true then
     if (decide ((Sh.len c36.cons)=0))=true then
      if (decide (c36.from_=c16.from_))=true then
       some (decide (c36.to=c16.to))
      else
       some false
     else
      some false
    else
     some false
   ) fun t38=>
   if t38=true then
    some (Sum.inl false)
   else
    Ck c16 l28 n (Sh.w (t29+1))
  else
   some (Sum.inr ())
def Cm (N:Nat) (c16:Ab) (p0:(List Ab)):Nat→Int→Option ((Bool) ⊕ (Unit))
 | 0,_=>none
 | n+1,t25=>
  if (decide (t25 < (Sh.len c16.cons)))=true then
   Option.bind (Sh.get c16.cons t25) fun c50=>
   Option.bind (
    if (decide (3 < (Sh.len c50.fields)))=true then
     some true
    else
     Option.bind (Fy N p0 c50.fields) fun q57=>
     some (!q57)
   ) fun t52=>
   if t52=true then
    some (Sum.inl false)
   else
    Cm N c16 p0 n (Sh.w (t25+1))
  else
   some (Sum.inr ())
def DP (N:Nat) (p0:(List Ab)):Nat→Int→Option ((Bool) ⊕ (Unit))
 | 0,_=>none
 | n+1,t8=>
  if (decide (t8 < (Sh.len p0)))=true then
   Option.bind (Sh.get p0 t8) fun c16=>
   Option.bind (
    Option.bind (GM p0 c16.from_) fun q58=>
    if (!q58)=true then
     some true
    else
     Option.bind (GM p0 c16.to) fun q60=>
     if (!q60)=true then
      some true
     else
     if (decide (3 < (Sh.len c16.cons)))=true then
      some true
     else
     if (decide (0 < (Sh.len c16.cons)))=true then
      if (!decide (c16.from_=0))=true then
       some true
      else
       some (!decide (c16.to=0))
     else
      some false
   ) fun t19=>
   if t19=true then
    some (Sum.inl false)
   else
    Sh.cont (Cm N c16 p0 N 0) (fun x=>Sum.inl x) fun ()=>
    Option.bind (Sh.sl p0 0 t8) fun l28=>
    Sh.cont (Ck c16 l28 N 0) (fun x=>Sum.inl x) fun ()=>
    DP N p0 n (Sh.w (t8+1))
  else
   some (Sum.inr ())
def Ge (N:Nat) (p0:(List Ab)):Option (Bool):=
 if (decide (4 < (Sh.len p0)))=true then
  some false
 else
  Sh.cont (DP N p0 N 0) (id) fun ()=>
  some true
def DC (c18:BI):Nat→Int→Option ((Bool) ⊕ (Unit))
 | 0,_=>none
 | n+1,t26=>
  if (decide (t26 < (Sh.len c18.E4)))=true then
   Option.bind (Sh.get c18.E4 t26) fun c33=>
   Option.bind (
    if (decide (c33 < 0))=true then
     some true
    else
    if (decide ((Sh.len c18.params)≤c33))=true then
     some true
    else
     Option.bind (Sh.get c18.params c33) fun c41=>
     if (decide (c41=0))=true then
      some true
     else
     if (decide (0 < t26))=true then
      Option.bind (Sh.get c18.E4 (Sh.w (t26 - 1))) fun c44=>
      some (decide (c33≤c44))
     else
      some false
   ) fun t35=>
   if t35=true then
    some (Sum.inl false)
   else
    DC c18 n (Sh.w (t26+1))
  else
   some (Sum.inr ())
def C6 (N:Nat) (p0:(List Ab)) (p1:(List BI)):Nat→Int→Option ((Bool) ⊕ (Unit))
 | 0,_=>none
 | n+1,t10=>
  if (decide (t10 < (Sh.len p1)))=true then
   Option.bind (Sh.get p1 t10) fun c18=>
   Option.bind (
    if (decide (3 < (Sh.len c18.params)))=true then
     some true
    else
     Option.bind (Fy N p0 c18.params) fun q46=>
     if (!q46)=true then
      some true
     else
      Option.bind (GM p0 c18.result) fun q48=>
      some (!q48)
   ) fun t21=>
   if t21=true then
    some (Sum.inl false)
   else
    Sh.cont (DC c18 N 0) (fun x=>Sum.inl x) fun ()=>
    C6 N p0 p1 n (Sh.w (t10+1))
  else
   some (Sum.inr ())
def G2 (N:Nat) (p0:(List Ab)) (p1:(List BI)):Option (Bool):=
 Option.bind (
  Option.bind (Ge N p0) fun q49=>
  if (!q49)=true then
   some true
  else
  if (decide ((Sh.len p1) < 1))=true then
   some true
  else
  if (decide (4 < (Sh.len p1)))=true then
   some true
  else
   Option.bind (Sh.get p1 0) fun c53=>
   if (decide (0 < (Sh.len c53.params)))=true then
    some true
   else
    some (!decide (c53.result=0))
 ) fun t4=>
 if t4=true then
  some false
 else
  Sh.cont (C6 N p0 p1 N 0) (id) fun ()=>
  some true
def DV (p0:(List Ab)):Nat→Int→Int→Option (Int)
 | 0,_,_=>none
 | n+1,n5,t6=>
  if (decide (t6 < (Sh.len p0)))=true then
   Option.bind (Sh.get p0 t6) fun c15=>
   DV p0 n (Sh.w (n5+(Sh.len c15.cons))) (Sh.w (t6+1))
  else
   some n5
def Hi (N:Nat) (p0:(List Ab)):Option (Int):=
 Option.bind (DV p0 N 0 0) fun n7=>
 some n7
def ES (c14:Ab) (q10:Int):Nat→Int→(List Int)→Option ((List Int))
 | 0,_,_=>none
 | n+1,t15,l16=>
  if (decide (t15 < (Sh.len c14.cons)))=true then
   Option.bind (Sh.app l16 [Sh.w (q10+t15)] 8) fun l25=>
   ES c14 q10 n (Sh.w (t15+1)) l25
  else
   some l16
def Gt (N:Nat) (p0:(List Ab)) (p1:Int):Option ((List Int)):=
 Option.bind (
  if (decide (p1 < 1))=true then
   some true
  else
   some (decide ((Sh.len p0) < p1))
 ) fun t4=>
 if t4=true then
  some []
 else
  Option.bind (Sh.sl p0 0 (Sh.w (p1 - 1))) fun l9=>
  Option.bind (Hi N l9) fun q10=>
  Option.bind (Sh.get p0 (Sh.w (p1 - 1))) fun c14=>
  Option.bind (ES c14 q10 N 0 []) fun l17=>
  some l17
def EP (p0:(List Ab)):Nat→Int→Int→Option ((Int×BP) ⊕ (Unit))
 | 0,_,_=>none
 | n+1,c4,t5=>
  if (decide (t5 < (Sh.len p0)))=true then
   Option.bind (Sh.get p0 t5) fun c13=>
   Option.bind (
    if (decide (0≤c4))=true then
     some (decide (c4 < (Sh.len c13.cons)))
    else
     some false
   ) fun t16=>
   if t16=true then
    Option.bind (Sh.get c13.cons c4) fun c20=>
    some (Sum.inl (Sh.w (t5+1),c20))
   else
    EP p0 n (Sh.w (c4 - (Sh.len c13.cons))) (Sh.w (t5+1))
  else
   some (Sum.inr ())
def Gk (N:Nat) (p0:(List Ab)) (p1:Int):Option (Int×BP):=
 Sh.cont (EP p0 N p1 0) (id) fun ()=>
 some (-1,(BP.mk []))
def DK (N:Nat) (p0:(List Ab)) (p1:Int):Option ((List Int)):=
 Option.bind (Gk N p0 p1) fun q3=>
 some q3.2.fields
def KF (N:Nat) (p0:BP) (p1:BP):Option (Bool):=
 Option.bind (Hw N p0.fields p1.fields) fun q4=>
 if (!q4)=true then
  some false
 else
  some true
def Ez (N:Nat) (p0:(List BP)) (p1:(List BP)):Nat→Int→Option ((Bool) ⊕ (Unit))
 | 0,_=>none
 | n+1,i10=>
  if (decide (i10 < (Sh.len p0)))=true then
   Option.bind (Sh.get p0 i10) fun c18=>
   Option.bind (Sh.get p1 i10) fun c19=>
   Option.bind (KF N c18 c19) fun q20=>
   if (!q20)=true then
    some (Sum.inl false)
   else
    Ez N p0 p1 n (Sh.w (i10+1))
  else
   some (Sum.inr ())
def I9 (N:Nat) (p0:(List BP)) (p1:(List BP)):Option (Bool):=
 if (!decide ((Sh.len p0)=(Sh.len p1)))=true then
  some false
 else
  Sh.cont (Ez N p0 p1 N 0) (id) fun ()=>
  some true
def Iy (N:Nat) (p0:Ab) (p1:Ab):Option (Bool):=
 if (!decide (p0.from_=p1.from_))=true then
  some false
 else
 if (!decide (p0.to=p1.to))=true then
  some false
 else
  Option.bind (I9 N p0.cons p1.cons) fun q16=>
  if (!q16)=true then
   some false
  else
   some true
def Eh (N:Nat) (p0:(List Ab)) (p1:(List Ab)):Nat→Int→Option ((Bool) ⊕ (Unit))
 | 0,_=>none
 | n+1,i10=>
  if (decide (i10 < (Sh.len p0)))=true then
   Option.bind (Sh.get p0 i10) fun c18=>
   Option.bind (Sh.get p1 i10) fun c19=>
   Option.bind (Iy N c18 c19) fun q20=>
   if (!q20)=true then
    some (Sum.inl false)
   else
    Eh N p0 p1 n (Sh.w (i10+1))
  else
   some (Sum.inr ())
def IP (N:Nat) (p0:(List Ab)) (p1:(List Ab)):Option (Bool):=
 if (!decide ((Sh.len p0)=(Sh.len p1)))=true then
  some false
 else
  Sh.cont (Eh N p0 p1 N 0) (id) fun ()=>
  some true
end RC


namespace RC
end RC


namespace RC
def D0 (p0:(List AD)) (rec_laws_szExpr:AD→Int→Option (Int)):Nat→Int→Int→Option ((Int) ⊕ (Int))
 | 0,_,_=>none
 | n+1,left9,i10=>
  if (decide (i10 < (Sh.len p0)))=true then
   Option.bind (Sh.get p0 i10) fun c19=>
   Option.bind (rec_laws_szExpr c19 left9) fun q20=>
   if (decide (q20 < 0))=true then
    some (Sum.inl (-1))
   else
    D0 p0 rec_laws_szExpr n q20 (Sh.w (i10+1))
  else
   some (Sum.inr left9)
def IK (N:Nat) (rec_laws_szExpr:AD→Int→Option (Int)) (p0:(List AD)) (p1:Int):Option (Int):=
 if (decide ((Sh.w (p1 - (Sh.len p0))) < 0))=true then
  some (-1)
 else
  Sh.cont (D0 p0 rec_laws_szExpr N (Sh.w (p1 - (Sh.len p0))) 0) (id) fun left11=>
  some left11
def JX (N:Nat) (rec_laws_szExpr:AD→Int→Option (Int)) (p0:AD) (p1:Int):Option (Int):=
 Option.bind (IK N rec_laws_szExpr p0.kids p1) fun q3=>
 if (decide (q3 < 0))=true then
  some (-1)
 else
  some q3
def Gi (N:Nat):Nat→AD→Int→Option (Int)
 | 0,_,_=>none
 | n+1,p0,p1=>JX N (Gi N n) p0 p1
def Kb (N:Nat) (p0:AD) (p1:Int):Option (Int):=Gi N N p0 p1
def JK (N:Nat) (p0:Ah) (p1:Int):Option (Int):=
 Option.bind (H2 p0.params p1) fun q3=>
 if (decide (q3 < 0))=true then
  some (-1)
 else
  Option.bind (Kb N p0.body q3) fun q9=>
  if (decide (q9 < 0))=true then
   some (-1)
  else
   some q9
def Ef (N:Nat) (p0:(List Ah)):Nat→Int→Int→Option ((Int) ⊕ (Int))
 | 0,_,_=>none
 | n+1,left9,i10=>
  if (decide (i10 < (Sh.len p0)))=true then
   Option.bind (Sh.get p0 i10) fun c19=>
   Option.bind (JK N c19 left9) fun q20=>
   if (decide (q20 < 0))=true then
    some (Sum.inl (-1))
   else
    Ef N p0 n q20 (Sh.w (i10+1))
  else
   some (Sum.inr left9)
def IG (N:Nat) (p0:(List Ah)) (p1:Int):Option (Int):=
 if (decide ((Sh.w (p1 - (Sh.len p0))) < 0))=true then
  some (-1)
 else
  Sh.cont (Ef N p0 N (Sh.w (p1 - (Sh.len p0))) 0) (id) fun left11=>
  some left11
def HA (N:Nat) (p0:AN) (p1:Int):Option (Int):=
 Option.bind (IN N p0.decls p1) fun q3=>
 if (decide (q3 < 0))=true then
  some (-1)
 else
  Option.bind (IG N p0.funcs q3) fun q9=>
  if (decide (q9 < 0))=true then
   some (-1)
  else
   some q9
def Ed (p0:(List AD)) (rec_laws_toExpr:AD→Option (AD)):Nat→Int→(List AD)→Option ((List AD))
 | 0,_,_=>none
 | n+1,i6,l7=>
  if (decide (i6 < (Sh.len p0)))=true then
   Option.bind (Sh.get p0 i6) fun c15=>
   Option.bind (rec_laws_toExpr c15) fun q16=>
   Option.bind (Sh.get l7 i6) fun c17=>
   Ed p0 rec_laws_toExpr n (Sh.w (i6+1)) (Sh.put l7 i6 q16)
  else
   some l7
def Jz (N:Nat) (rec_laws_toExpr:AD→Option (AD)) (p0:(List AD)):Option ((List AD)):=
 Option.bind (Sh.mk (AD.mk 0 0 []) (Sh.len p0) 40) fun l3=>
 Option.bind (Ed p0 rec_laws_toExpr N 0 l3) fun l8=>
 some l8
def JU (N:Nat) (rec_laws_toExpr:AD→Option (AD)) (p0:AD):Option (AD):=
 Option.bind (Jz N rec_laws_toExpr p0.kids) fun q6=>
 some (AD.mk p0.op p0.num q6)
def Fv (N:Nat):Nat→AD→Option (AD)
 | 0,_=>none
 | n+1,p0=>JU N (Fv N n) p0
def KZ (N:Nat) (p0:AD):Option (AD):=Fv N N p0
def I6 (N:Nat) (p0:Ah):Option (Ah):=
 Option.bind (Hv N p0.params) fun q4=>
 Option.bind (KZ N p0.body) fun q7=>
 some (Ah.mk q4 p0.result q7)
def Ek (N:Nat) (p0:(List Ah)):Nat→Int→(List Ah)→Option ((List Ah))
 | 0,_,_=>none
 | n+1,i6,l7=>
  if (decide (i6 < (Sh.len p0)))=true then
   Option.bind (Sh.get p0 i6) fun c15=>
   Option.bind (I6 N c15) fun q16=>
   Option.bind (Sh.get l7 i6) fun c17=>
   Ek N p0 n (Sh.w (i6+1)) (Sh.put l7 i6 q16)
  else
   some l7
def IS (N:Nat) (p0:(List Ah)):Option ((List Ah)):=
 Option.bind (Sh.mk (Ah.mk [] 0 (AD.mk 0 0 [])) (Sh.len p0) 72) fun l3=>
 Option.bind (Ek N p0 N 0 l3) fun l8=>
 some l8
def E1 (N:Nat) (p0:AN):Option (AN):=
 Option.bind (ID N p0.decls) fun q4=>
 Option.bind (IS N p0.funcs) fun q6=>
 some (AN.mk q4 q6)
def CY (p0:AD) (rec_spec_nodesLeft:AD→Int→Option (Int)):Nat→Int→Int→Option ((Int) ⊕ (Int))
 | 0,_,_=>none
 | n+1,left9,i10=>
  if (decide (i10 < (Sh.len p0.kids)))=true then
   Option.bind (Sh.get p0.kids i10) fun c19=>
   Option.bind (rec_spec_nodesLeft c19 left9) fun q20=>
   if (decide (q20 < 0))=true then
    some (Sum.inl (-1))
   else
    CY p0 rec_spec_nodesLeft n q20 (Sh.w (i10+1))
  else
   some (Sum.inr left9)
def HX (N:Nat) (rec_spec_nodesLeft:AD→Int→Option (Int)) (p0:AD) (p1:Int):Option (Int):=
 if (decide (p1 < 1))=true then
  some (-1)
 else
  Sh.cont (CY p0 rec_spec_nodesLeft N (Sh.w (p1 - 1)) 0) (id) fun left11=>
  some left11
def EG (N:Nat):Nat→AD→Int→Option (Int)
 | 0,_,_=>none
 | n+1,p0,p1=>HX N (EG N n) p0 p1
def KR (N:Nat) (p0:AD) (p1:Int):Option (Int):=EG N N p0 p1
def GU (N:Nat) (p0:AD):Option (Int):=
 Option.bind (KR N p0 30) fun q3=>
 if (decide (q3 < 0))=true then
  some (-1)
 else
  some (Sh.w (30 - q3))
def Ej (p0:AN) (p1:(List Int)) (p2:(List AD)) (p3:Int) (rec_spec_typeOf:AN→(List Int)→AD→Option (Int)):Nat→Int→Option ((Bool) ⊕ (Unit))
 | 0,_=>none
 | n+1,i10=>
  if (decide (i10 < p3))=true then
   Option.bind (Sh.get p2 i10) fun c18=>
   Option.bind (rec_spec_typeOf p0 p1 c18) fun q19=>
   if (!decide (q19=0))=true then
    some (Sum.inl false)
   else
    Ej p0 p1 p2 p3 rec_spec_typeOf n (Sh.w (i10+1))
  else
   some (Sum.inr ())
def HL (N:Nat) (rec_spec_typeOf:AN→(List Int)→AD→Option (Int)) (p0:AN) (p1:(List Int)) (p2:(List AD)) (p3:Int):Option (Bool):=
 if (!decide ((Sh.len p2)=p3))=true then
  some false
 else
  Sh.cont (Ej p0 p1 p2 p3 rec_spec_typeOf N 0) (id) fun ()=>
  some true
def FR (p0:AN) (p1:(List Int)) (p2:(List AD)) (p3:(List Int)) (rec_spec_typeOf:AN→(List Int)→AD→Option (Int)):Nat→Int→Option ((Bool) ⊕ (Unit))
 | 0,_=>none
 | n+1,i10=>
  if (decide (i10 < (Sh.len p3)))=true then
   Option.bind (Sh.get p2 i10) fun c18=>
   Option.bind (rec_spec_typeOf p0 p1 c18) fun q19=>
   Option.bind (Sh.get p3 i10) fun c20=>
   if (!decide (q19=c20))=true then
    some (Sum.inl false)
   else
    FR p0 p1 p2 p3 rec_spec_typeOf n (Sh.w (i10+1))
  else
   some (Sum.inr ())
def He (N:Nat) (rec_spec_typeOf:AN→(List Int)→AD→Option (Int)) (p0:AN) (p1:(List Int)) (p2:(List AD)) (p3:(List Int)):Option (Bool):=
 if (!decide ((Sh.len p2)=(Sh.len p3)))=true then
  some false
 else
  Sh.cont (FR p0 p1 p2 p3 rec_spec_typeOf N 0) (id) fun ()=>
  some true
def Dk (p0:(List Int)):Option ((List Int)):=
 Option.bind (Sh.app ([]:List Int) p0 8) fun l3=>
 some l3
def GQ (p0:(List Int)) (p1:(List Int)):Option ((List Int)):=
 Option.bind (Dk p0) fun q3=>
 Option.bind (Sh.app q3 p1 8) fun l4=>
 some l4
def DD (N:Nat) (p0:AN) (p1:(List Int)) (p2:AD) (q15:Int) (q3:(List Int)) (rec_spec_typeOf:AN→(List Int)→AD→Option (Int)):Nat→Int→Option ((Int) ⊕ (Unit))
 | 0,_=>none
 | n+1,i18=>
  if (decide (i18 < (Sh.len q3)))=true then
   Option.bind (Sh.get q3 i18) fun c26=>
   Option.bind (CP N p0.decls c26) fun q27=>
   Option.bind (GQ p1 q27) fun q28=>
   Option.bind (Sh.get p2.kids (Sh.w (1+i18))) fun c29=>
   Option.bind (rec_spec_typeOf p0 q28 c29) fun q30=>
   if (!decide (q30=q15))=true then
    some (Sum.inl (-1))
   else
    DD N p0 p1 p2 q15 q3 rec_spec_typeOf n (Sh.w (i18+1))
  else
   some (Sum.inr ())
def IY (N:Nat) (rec_spec_typeOf:AN→(List Int)→AD→Option (Int)) (p0:AN) (p1:(List Int)) (p2:AD):Option (Int):=
 Option.bind (Ho N p0.decls p2.num) fun q3=>
 Option.bind (
  if (decide ((Sh.len q3)=0))=true then
   some true
  else
  if (!decide ((Sh.len p2.kids)=(Sh.w (1+(Sh.len q3)))))=true then
   some true
  else
   Option.bind (Sh.get p2.kids 0) fun c37=>
   Option.bind (rec_spec_typeOf p0 p1 c37) fun q38=>
   some (!decide (q38=p2.num))
 ) fun t6=>
 if t6=true then
  some (-1)
 else
  Option.bind (Sh.get q3 0) fun c11=>
  Option.bind (CP N p0.decls c11) fun q12=>
  Option.bind (GQ p1 q12) fun q13=>
  Option.bind (Sh.get p2.kids 1) fun c14=>
  Option.bind (rec_spec_typeOf p0 q13 c14) fun q15=>
  Sh.cont (DD N p0 p1 p2 q15 q3 rec_spec_typeOf N 1) (id) fun ()=>
  some q15
def D7 (p0:(List Ab)) (p1:Int) (p2:Int):Nat→Int→Option ((Int) ⊕ (Unit))
 | 0,_=>none
 | n+1,i4=>
  if (decide (i4 < (Sh.len p0)))=true then
   Option.bind (
    Option.bind (Sh.get p0 i4) fun c16=>
    if (decide ((Sh.len c16.cons)=0))=true then
     if (decide (c16.from_=p1))=true then
      some (decide (c16.to=p2))
     else
      some false
    else
     some false
   ) fun t12=>
   if t12=true then
    some (Sum.inl (Sh.w (i4+1)))
   else
    D7 p0 p1 p2 n (Sh.w (i4+1))
  else
   some (Sum.inr ())
def IQ (N:Nat) (p0:(List Ab)) (p1:Int) (p2:Int):Option (Int):=
 Sh.cont (D7 p0 p1 p2 N 0) (id) fun ()=>
 some (-1)
def EK (N:Nat) (rec_spec_typeOf:AN→(List Int)→AD→Option (Int)) (p0:AN) (p1:(List Int)) (p2:AD):Option (Int):=
 Option.bind (B4 p2.num 0 (Sh.w ((Sh.len p0.funcs) - 1))) fun q4=>
 if (!q4)=true then
  some (-1)
 else
  Option.bind (Sh.get p0.funcs p2.num) fun c10=>
  if (decide (p2.op=9))=true then
   Option.bind (He N rec_spec_typeOf p0 p1 p2.kids c10.params) fun q17=>
   if (!q17)=true then
    some (-1)
   else
    some c10.result
  else
   Option.bind (
    if (decide ((Sh.len c10.params)=0))=true then
     some true
    else
     Option.bind (Sh.sl c10.params 0 (Sh.w ((Sh.len c10.params) - 1))) fun l33=>
     Option.bind (He N rec_spec_typeOf p0 p1 p2.kids l33) fun q34=>
     some (!q34)
   ) fun t25=>
   if t25=true then
    some (-1)
   else
    Option.bind (Sh.get c10.params (Sh.w ((Sh.len c10.params) - 1))) fun c30=>
    Option.bind (IQ N p0.decls c30 c10.result) fun q31=>
    some q31
def IB (p0:(List Ab)) (p1:Int):Option (Bool):=
 Option.bind (
  Option.bind (B4 p1 1 (Sh.len p0)) fun q5=>
  if q5=true then
   Option.bind (Sh.get p0 (Sh.w (p1 - 1))) fun c7=>
   some (decide ((Sh.len c7.cons)=0))
  else
   some false
 ) fun t3=>
 some t3
def BK (N:Nat) (rec_spec_typeOf:AN→(List Int)→AD→Option (Int)) (p0:AN) (p1:(List Int)) (p2:AD):Option (Int):=
 Sh.cont (
  if (decide (p2.op=0))=true then
   Option.bind (
    if (decide ((Sh.len p2.kids)=0))=true then
     Option.bind (B4 p2.num (-999) 999) fun q15=>
     some q15
    else
     some false
   ) fun t10=>
   if t10=true then
    some (Sum.inl 0)
   else
    some (Sum.inr ())
  else
  if (decide (p2.op=12))=true then
   Option.bind (
    if (decide ((Sh.len p2.kids)=0))=true then
     Option.bind (B4 p2.num 0 (Sh.w ((Sh.len p1) - 1))) fun q25=>
     some q25
    else
     some false
   ) fun t19=>
   if t19=true then
    Option.bind (Sh.get p1 p2.num) fun c23=>
    some (Sum.inl c23)
   else
    some (Sum.inr ())
  else
   Option.bind (
    if (decide (p2.op=1))=true then
     some true
    else
    if (decide (p2.op=2))=true then
     some true
    else
    if (decide (p2.op=3))=true then
     some true
    else
     some (decide (p2.op=4))
   ) fun t27=>
   if t27=true then
    Option.bind (
     if (decide (p2.num=0))=true then
      Option.bind (HL N rec_spec_typeOf p0 p1 p2.kids 2) fun q36=>
      some q36
     else
      some false
    ) fun t31=>
    if t31=true then
     some (Sum.inl 0)
    else
     some (Sum.inr ())
   else
   if (decide (p2.op=5))=true then
    Option.bind (
     if (decide (p2.num=0))=true then
      Option.bind (HL N rec_spec_typeOf p0 p1 p2.kids 1) fun q45=>
      some q45
     else
      some false
    ) fun t40=>
    if t40=true then
     some (Sum.inl 0)
    else
     some (Sum.inr ())
   else
   if (decide (p2.op=6))=true then
    Option.bind (
     Option.bind (FI N p0.decls p2.num) fun q54=>
     if (decide (0 < q54))=true then
      Option.bind (CP N p0.decls p2.num) fun q56=>
      Option.bind (He N rec_spec_typeOf p0 p1 p2.kids q56) fun q57=>
      some q57
     else
      some false
    ) fun t49=>
    if t49=true then
     Option.bind (FI N p0.decls p2.num) fun q53=>
     some (Sum.inl q53)
    else
     some (Sum.inr ())
   else
   if (decide (p2.op=13))=true then
    Option.bind (
     if (decide (p2.num=0))=true then
      some (decide ((Sh.len p2.kids)=2))
     else
      some false
    ) fun t61=>
    if t61=true then
     Option.bind (Sh.get p2.kids 0) fun c65=>
     Option.bind (rec_spec_typeOf p0 p1 c65) fun q66=>
     if (decide (0≤q66))=true then
      Option.bind (GQ p1 [q66]) fun q70=>
      Option.bind (Sh.get p2.kids 1) fun c71=>
      Option.bind (rec_spec_typeOf p0 q70 c71) fun q72=>
      some (Sum.inl q72)
     else
      some (Sum.inr ())
    else
     some (Sum.inr ())
   else
   if (decide (p2.op=7))=true then
    Option.bind (
     if (decide (p2.num=0))=true then
      if (decide ((Sh.len p2.kids)=3))=true then
       Option.bind (Sh.get p2.kids 0) fun c90=>
       Option.bind (rec_spec_typeOf p0 p1 c90) fun q91=>
       some (decide (q91=0))
      else
       some false
     else
      some false
    ) fun t77=>
    if t77=true then
     Option.bind (Sh.get p2.kids 1) fun c81=>
     Option.bind (rec_spec_typeOf p0 p1 c81) fun q82=>
     Option.bind (Sh.get p2.kids 2) fun c84=>
     Option.bind (rec_spec_typeOf p0 p1 c84) fun q85=>
     if (decide (q85=q82))=true then
      some (Sum.inl q82)
     else
      some (Sum.inr ())
    else
     some (Sum.inr ())
   else
   if (decide (p2.op=8))=true then
    Option.bind (IY N rec_spec_typeOf p0 p1 p2) fun q95=>
    some (Sum.inl q95)
   else
    Option.bind (
     if (decide (p2.op=9))=true then
      some true
     else
      some (decide (p2.op=10))
    ) fun t97=>
    if t97=true then
     Option.bind (EK N rec_spec_typeOf p0 p1 p2) fun q101=>
     some (Sum.inl q101)
    else
    if (decide (p2.op=11))=true then
     Option.bind (
      if (decide (p2.num=0))=true then
       some (decide ((Sh.len p2.kids)=2))
      else
       some false
     ) fun t105=>
     if t105=true then
      Option.bind (Sh.get p2.kids 0) fun c109=>
      Option.bind (rec_spec_typeOf p0 p1 c109) fun q110=>
      Option.bind (
       Option.bind (IB p0.decls q110) fun q117=>
       if q117=true then
        Option.bind (Sh.get p2.kids 1) fun c119=>
        Option.bind (rec_spec_typeOf p0 p1 c119) fun q120=>
        Option.bind (Sh.get p0.decls (Sh.w (q110 - 1))) fun c121=>
        some (decide (q120=c121.from_))
       else
        some false
      ) fun t112=>
      if t112=true then
       Option.bind (Sh.get p0.decls (Sh.w (q110 - 1))) fun c116=>
       some (Sum.inl c116.to)
      else
       some (Sum.inr ())
     else
      some (Sum.inr ())
    else
     some (Sum.inr ())
 ) (id) fun ()=>
 some (-1)
def Bo (N:Nat):Nat→AN→(List Int)→AD→Option (Int)
 | 0,_,_,_=>none
 | n+1,p0,p1,p2=>BK N (Bo N n) p0 p1 p2
def JB (N:Nat) (p0:AN) (p1:(List Int)) (p2:AD):Option (Int):=Bo N N p0 p1 p2
def BU (N:Nat) (p0:AN):Nat→Int→Option ((Bool) ⊕ (Unit))
 | 0,_=>none
 | n+1,i11=>
  if (decide (i11 < (Sh.len p0.funcs)))=true then
   Option.bind (
    Option.bind (Sh.get p0.funcs i11) fun c23=>
    Option.bind (GU N c23.body) fun q24=>
    if (decide (q24 < 0))=true then
     some true
    else
     Option.bind (JB N p0 c23.params c23.body) fun q26=>
     some (!decide (q26=c23.result))
   ) fun t19=>
   if t19=true then
    some (Sum.inl false)
   else
    BU N p0 n (Sh.w (i11+1))
  else
   some (Sum.inr ())
def Bc (N:Nat) (p0:AN):Option (Bool):=
 Option.bind (GC N p0) fun q4=>
 if (!q4)=true then
  some false
 else
  Sh.cont (BU N p0 N 0) (id) fun ()=>
  some true
def Cf (p0:AN):Nat→Int→(List BI)→Option ((List BI))
 | 0,_,_=>none
 | n+1,t9,l10=>
  if (decide (t9 < (Sh.len p0.funcs)))=true then
   Option.bind (Sh.get p0.funcs t9) fun c20=>
   Option.bind (Sh.app l10 ([(BI.mk c20.params [] c20.result)]) 56) fun l21=>
   Cf p0 n (Sh.w (t9+1)) l21
  else
   some l10
def GB (N:Nat) (p0:AN):Option (Bool):=
 if (decide (4 < (Sh.len p0.funcs)))=true then
  some false
 else
  Option.bind (Cf p0 N 0 []) fun l11=>
  Option.bind (G2 N p0.decls l11) fun q14=>
  some q14
def B9 (p0:AD) (rec_impl_countNodes:Int→AD→Option (Bool×Int)):Nat→Int→Int→Option ((Bool×Int) ⊕ (Int))
 | 0,_,_=>none
 | n+1,t9,f10=>
  if (decide (t9 < (Sh.len p0.kids)))=true then
   Option.bind (Sh.get p0.kids t9) fun c19=>
   Option.bind (rec_impl_countNodes f10 c19) fun q21=>
   if (!q21.1)=true then
    some (Sum.inl (false,q21.2))
   else
    B9 p0 rec_impl_countNodes n (Sh.w (t9+1)) q21.2
  else
   some (Sum.inr f10)
def Gr (N:Nat) (rec_impl_countNodes:Int→AD→Option (Bool×Int)) (s0_0:Int) (p0:AD):Option (Bool×Int):=
 if (decide (30 < (Sh.w (s0_0+1))))=true then
  some (false,Sh.w (s0_0+1))
 else
  Sh.cont (B9 p0 rec_impl_countNodes N 0 (Sh.w (s0_0+1))) (id) fun f11=>
  some (true,f11)
def Dm (N:Nat):Nat→Int→AD→Option (Bool×Int)
 | 0,_,_=>none
 | n+1,s0_0,p0=>Gr N (Dm N n) s0_0 p0
def Jy (N:Nat) (s0_0:Int) (p0:AD):Option (Bool×Int):=Dm N N s0_0 p0
def HM (N:Nat) (p0:AD):Option (Int):=
 Option.bind (Jy N 0 p0) fun q5=>
 if (!q5.1)=true then
  some (-1)
 else
  some q5.2
def EU (p0:AN):Nat→Int→(List BI)→Option ((List BI))
 | 0,_,_=>none
 | n+1,t5,l6=>
  if (decide (t5 < (Sh.len p0.funcs)))=true then
   Option.bind (Sh.get p0.funcs t5) fun c15=>
   Option.bind (Sh.app l6 ([(BI.mk c15.params [] c15.result)]) 56) fun l16=>
   EU p0 n (Sh.w (t5+1)) l16
  else
   some l6
def I7 (N:Nat) (p0:AN):Option (A1):=
 Option.bind (EU p0 N 0 []) fun l7=>
 some (A1.mk p0.decls l7)
def FV (p1:Int):Option ((List Int)):=
 if (decide (p1 < 0))=true then
  none
 else
  Option.bind (
   if (decide (0 < (Sh.w (p1 - (Sh.w (0 - 0))))))=true then
    Option.bind (Sh.mk 0 (Sh.w (p1 - (Sh.w (0 - 0)))) 8) fun l12=>
    Option.bind (Sh.hi l12 0) fun l13=>
    some l13
   else
    some []
  ) fun l6=>
  some l6
def Bm (p0:(List (List Int))):Nat→Int→(List Int)→Option ((List Int))
 | 0,_,_=>none
 | n+1,t13,l14=>
  if (decide (t13 < (Sh.len p0)))=true then
   Option.bind (Sh.get p0 t13) fun c23=>
   Option.bind (Sh.app l14 c23 8) fun l24=>
   Bm p0 n (Sh.w (t13+1)) l24
  else
   some l14
def Bl (p0:(List (List Int))):Nat→Int→Int→Option (Int)
 | 0,_,_=>none
 | n+1,size5,t6=>
  if (decide (t6 < (Sh.len p0)))=true then
   Option.bind (Sh.get p0 t6) fun c30=>
   if (decide ((Sh.w (size5+(Sh.len c30))) < 0))=true then
    none
   else
    Bl p0 n (Sh.w (size5+(Sh.len c30))) (Sh.w (t6+1))
  else
   some size5
def Et (N:Nat) (p0:(List (List Int))):Option ((List Int)):=
 Option.bind (Bl p0 N 0 0) fun size7=>
 Option.bind (FV size7) fun q10=>
 Option.bind (Bm p0 N 0 q10) fun l15=>
 some l15
def BE (N:Nat) (p0:A1) (p1:(List Int)) (p2:(List AD)) (p3:(List (List Int))) (rec_impl_signatures_typeOf:(List Int)→A1→AD→Option (Int)):Nat→Int→Int→Option ((Int) ⊕ (Int))
 | 0,_,_=>none
 | n+1,result5,t6=>
  if (decide (t6 < (Sh.len p2)))=true then
   Option.bind (Sh.get p2 t6) fun c15=>
   Option.bind (Sh.get p3 t6) fun c17=>
   Option.bind (Et N [p1,c17]) fun q18=>
   Option.bind (rec_impl_signatures_typeOf q18 p0 c15) fun q19=>
   Option.bind (
    if (decide (q19 < 0))=true then
     some true
    else
    if (decide (0 < t6))=true then
     some (!decide (q19=result5))
    else
     some false
   ) fun t23=>
   if t23=true then
    some (Sum.inl (-1))
   else
    BE N p0 p1 p2 p3 rec_impl_signatures_typeOf n q19 (Sh.w (t6+1))
  else
   some (Sum.inr result5)
def DL (N:Nat) (rec_impl_signatures_typeOf:(List Int)→A1→AD→Option (Int)) (p0:A1) (p1:(List Int)) (p2:(List AD)) (p3:(List (List Int))):Option (Int):=
 Sh.cont (BE N p0 p1 p2 p3 rec_impl_signatures_typeOf N (-1) 0) (id) fun result7=>
 some result7
def IH (p0:(List Ab)) (p1:Int):Option (Ab×Bool):=
 Option.bind (
  if (decide (p1 < 1))=true then
   some true
  else
  if (decide ((Sh.len p0) < p1))=true then
   some true
  else
   Option.bind (Sh.get p0 (Sh.w (p1 - 1))) fun c12=>
   some (decide (0 < (Sh.len c12.cons)))
 ) fun t4=>
 if t4=true then
  some ((Ab.mk 0 0 []),false)
 else
  Option.bind (Sh.get p0 (Sh.w (p1 - 1))) fun c9=>
  some (c9,true)
def B5 (p0:(List Int)) (p1:(List Int)):Nat→Int→Option ((Bool) ⊕ (Unit))
 | 0,_=>none
 | n+1,t10=>
  if (decide (t10 < (Sh.len p0)))=true then
   Option.bind (Sh.get p0 t10) fun c19=>
   Option.bind (Sh.get p1 t10) fun c20=>
   if (!decide (c19=c20))=true then
    some (Sum.inl false)
   else
    B5 p0 p1 n (Sh.w (t10+1))
  else
   some (Sum.inr ())
def CC (N:Nat) (p0:(List Int)) (p1:(List Int)):Option (Bool):=
 if (!decide ((Sh.len p0)=(Sh.len p1)))=true then
  some false
 else
  Sh.cont (B5 p0 p1 N 0) (id) fun ()=>
  some true
def D4 (p0:(List Ab)) (p1:Int) (p2:Int):Nat→Int→Option ((Int) ⊕ (Unit))
 | 0,_=>none
 | n+1,t4=>
  if (decide (t4 < (Sh.len p0)))=true then
   Option.bind (Sh.get p0 t4) fun c12=>
   Option.bind (
    if (decide ((Sh.len c12.cons)=0))=true then
     if (decide (c12.from_=p1))=true then
      some (decide (c12.to=p2))
     else
      some false
    else
     some false
   ) fun t14=>
   if t14=true then
    some (Sum.inl (Sh.w (t4+1)))
   else
    D4 p0 p1 p2 n (Sh.w (t4+1))
  else
   some (Sum.inr ())
def IE (N:Nat) (p0:(List Ab)) (p1:Int) (p2:Int):Option (Int):=
 Sh.cont (D4 p0 p1 p2 N 0) (id) fun ()=>
 some (-1)
def Av (N:Nat) (p0:A1) (p1:Int) (p2:Int) (p3:(List Int)):Option (Int×Bool):=
 Sh.cont (
  if (decide (p1=0))=true then
   Option.bind (
    if (decide ((-999)≤p2))=true then
     if (decide (p2≤999))=true then
      some (decide ((Sh.len p3)=0))
     else
      some false
    else
     some false
   ) fun t15=>
   some (Sum.inl (0,t15))
  else
   Option.bind (
    if (decide (p1=1))=true then
     some true
    else
    if (decide (p1=2))=true then
     some true
    else
    if (decide (p1=3))=true then
     some true
    else
     some (decide (p1=4))
   ) fun t20=>
   if t20=true then
    some (Sum.inr [(0:Int),0])
   else
   if (decide (p1=5))=true then
    some (Sum.inr [(0:Int)])
   else
   if (decide (p1=11))=true then
    if (!decide ((Sh.len p3)=2))=true then
     some (Sum.inl (-1,false))
    else
     Option.bind (Sh.get p3 0) fun c34=>
     Option.bind (IH p0.decls c34) fun q35=>
     Option.bind (
      if q35.2=true then
       Option.bind (Sh.get p3 1) fun c41=>
       if (decide (c41=q35.1.from_))=true then
        some (decide (p2=0))
       else
        some false
      else
       some false
     ) fun t38=>
     some (Sum.inl (q35.1.to,t38))
   else
   if (decide (p1=6))=true then
    Option.bind (Gk N p0.decls p2) fun q40=>
    Option.bind (
     if (decide (0≤q40.1))=true then
      Option.bind (CC N p3 q40.2.fields) fun q45=>
      some q45
     else
      some false
    ) fun t42=>
    some (Sum.inl (q40.1,t42))
   else
    Option.bind (
     if (decide (p1=9))=true then
      some true
     else
      some (decide (p1=10))
    ) fun t47=>
    if t47=true then
     Option.bind (
      if (decide (p2 < 0))=true then
       some true
      else
       some (decide ((Sh.len p0.funcs)≤p2))
     ) fun t52=>
     if t52=true then
      some (Sum.inl (-1,false))
     else
      Option.bind (Sh.get p0.funcs p2) fun c57=>
      if (decide (p1=9))=true then
       Option.bind (CC N p3 c57.params) fun q62=>
       some (Sum.inl (c57.result,q62))
      else
      if (decide ((Sh.w ((Sh.len c57.params) - 1)) < 0))=true then
       some (Sum.inl (-1,false))
      else
       Option.bind (Sh.get c57.params (Sh.w ((Sh.len c57.params) - 1))) fun c69=>
       Option.bind (IE N p0.decls c69 c57.result) fun q70=>
       Option.bind (
        if (decide (0≤q70))=true then
         Option.bind (Sh.sl c57.params 0 (Sh.w ((Sh.len c57.params) - 1))) fun l75=>
         Option.bind (CC N p3 l75) fun q76=>
         some q76
        else
         some false
       ) fun t72=>
       some (Sum.inl (q70,t72))
    else
     some (Sum.inl (-1,false))
 ) (id) fun l4=>
 Option.bind (
  if (decide (p2=0))=true then
   Option.bind (CC N p3 l4) fun q10=>
   some q10
  else
   some false
 ) fun t7=>
 some (0,t7)
def BS (N:Nat) (p0:A1) (q56:(List Int)):Nat→Int→(List (List Int))→Option ((List (List Int)))
 | 0,_,_=>none
 | n+1,t67,l68=>
  if (decide (t67 < (Sh.len q56)))=true then
   Option.bind (Sh.get q56 t67) fun c79=>
   Option.bind (DK N p0.decls c79) fun q80=>
   Option.bind (Sh.get l68 t67) fun c81=>
   BS N p0 q56 n (Sh.w (t67+1)) (Sh.put l68 t67 q80)
  else
   some l68
def BT (s0:(List Int)) (p0:A1) (p2:AD) (rec_impl_signatures_typeOf:(List Int)→A1→AD→Option (Int)):Nat→Int→(List Int)→Option ((Int) ⊕ ((List Int)))
 | 0,_,_=>none
 | n+1,t90,l91=>
  if (decide (t90 < (Sh.len p2.kids)))=true then
   Option.bind (Sh.get p2.kids t90) fun c108=>
   Option.bind (rec_impl_signatures_typeOf s0 p0 c108) fun q110=>
   Option.bind (Sh.get l91 t90) fun c111=>
   Option.bind (Sh.get (Sh.put l91 t90 q110) t90) fun c113=>
   if (decide (c113 < 0))=true then
    some (Sum.inl (-1))
   else
    BT s0 p0 p2 rec_impl_signatures_typeOf n (Sh.w (t90+1)) (Sh.put l91 t90 q110)
  else
   some (Sum.inr l91)
def Al (N:Nat) (rec_impl_signatures_typeOf:(List Int)→A1→AD→Option (Int)) (s0:(List Int)) (p0:A1) (p2:AD):Option (Int):=
 if (decide (p2.op=12))=true then
  Option.bind (
   if (decide (0 < (Sh.len p2.kids)))=true then
    some true
   else
   if (decide (p2.num < 0))=true then
    some true
   else
    some (decide ((Sh.len s0)≤p2.num))
  ) fun t8=>
  if t8=true then
   some (-1)
  else
   Option.bind (Sh.get s0 p2.num) fun c13=>
   some c13
 else
 if (decide (p2.op=13))=true then
  Option.bind (
   if (!decide ((Sh.len p2.kids)=2))=true then
    some true
   else
    some (!decide (p2.num=0))
  ) fun t20=>
  if t20=true then
   some (-1)
  else
   Option.bind (Sh.get p2.kids 0) fun c25=>
   Option.bind (rec_impl_signatures_typeOf s0 p0 c25) fun q26=>
   if (decide (q26 < 0))=true then
    some (-1)
   else
    Option.bind (Sh.app s0 [q26] 8) fun l32=>
    Option.bind (Sh.get p2.kids 1) fun c33=>
    Option.bind (rec_impl_signatures_typeOf l32 p0 c33) fun q34=>
    some q34
 else
 if (decide (p2.op=7))=true then
  Option.bind (
   if (!decide ((Sh.len p2.kids)=3))=true then
    some true
   else
   if (!decide (p2.num=0))=true then
    some true
   else
    Option.bind (Sh.get p2.kids 0) fun c51=>
    Option.bind (rec_impl_signatures_typeOf s0 p0 c51) fun q52=>
    some (!decide (q52=0))
  ) fun t41=>
  if t41=true then
   some (-1)
  else
   Option.bind (Sh.sl p2.kids 1 (Sh.len p2.kids)) fun l46=>
   Option.bind (Sh.mk [] 2 24) fun l47=>
   Option.bind (DL N rec_impl_signatures_typeOf p0 s0 l46 l47) fun q48=>
   some q48
 else
 if (decide (p2.op=8))=true then
  Option.bind (Gt N p0.decls p2.num) fun q56=>
  Option.bind (
   if (decide ((Sh.len q56)=0))=true then
    some true
   else
   if (!decide ((Sh.len p2.kids)=(Sh.w (1+(Sh.len q56)))))=true then
    some true
   else
    Option.bind (Sh.get p2.kids 0) fun c84=>
    Option.bind (rec_impl_signatures_typeOf s0 p0 c84) fun q85=>
    some (!decide (q85=p2.num))
  ) fun t59=>
  if t59=true then
   some (-1)
  else
   Option.bind (Sh.mk [] (Sh.len q56) 24) fun l64=>
   Option.bind (BS N p0 q56 N 0 l64) fun l69=>
   Option.bind (Sh.sl p2.kids 1 (Sh.len p2.kids)) fun l72=>
   Option.bind (DL N rec_impl_signatures_typeOf p0 s0 l72 l69) fun q73=>
   some q73
 else
  Option.bind (Sh.mk 0 (Sh.len p2.kids) 8) fun l87=>
  Sh.cont (BT s0 p0 p2 rec_impl_signatures_typeOf N 0 l87) (id) fun l92=>
  Option.bind (Av N p0 p2.op p2.num l92) fun q95=>
  if (!q95.2)=true then
   some (-1)
  else
   some q95.1
def A9 (N:Nat):Nat→(List Int)→A1→AD→Option (Int)
 | 0,_,_,_=>none
 | n+1,s0,p0,p2=>Al N (A9 N n) s0 p0 p2
def Gh (N:Nat) (s0:(List Int)) (p0:A1) (p2:AD):Option (Int):=A9 N N s0 p0 p2
def Kf (N:Nat) (p0:AN) (p1:(List Int)) (p2:AD):Option (Int):=
 Option.bind (
  Option.bind (GB N p0) fun q13=>
  if (!q13)=true then
   some true
  else
   Option.bind (HM N p2) fun q15=>
   if (decide (q15 < 0))=true then
    some true
   else
    Option.bind (Fy N p0.decls p1) fun q17=>
    some (!q17)
 ) fun t4=>
 if t4=true then
  some (-1)
 else
  Option.bind (I7 N p0) fun q9=>
  Option.bind (BW p1) fun q10=>
  Option.bind (Gh N q10 q9 p2) fun q11=>
  some q11
def Ci (N:Nat) (p0:AN):Nat→Int→Option ((Bool) ⊕ (Unit))
 | 0,_=>none
 | n+1,t11=>
  if (decide (t11 < (Sh.len p0.funcs)))=true then
   Option.bind (Sh.get p0.funcs t11) fun c19=>
   Option.bind (Kf N p0 c19.params c19.body) fun q21=>
   if (!decide (q21=c19.result))=true then
    some (Sum.inl false)
   else
    Ci N p0 n (Sh.w (t11+1))
  else
   some (Sum.inr ())
def Ce (N:Nat) (p0:AN):Option (Bool):=
 Option.bind (GB N p0) fun q4=>
 if (!q4)=true then
  some false
 else
  Sh.cont (Ci N p0 N 0) (id) fun ()=>
  some true
def Ee (p0:(List AD)) (p1:(List AD)) (rec_laws_eqExpr:AD→AD→Option (Bool)):Nat→Int→Option ((Bool) ⊕ (Unit))
 | 0,_=>none
 | n+1,i10=>
  if (decide (i10 < (Sh.len p0)))=true then
   Option.bind (Sh.get p0 i10) fun c18=>
   Option.bind (Sh.get p1 i10) fun c19=>
   Option.bind (rec_laws_eqExpr c18 c19) fun q20=>
   if (!q20)=true then
    some (Sum.inl false)
   else
    Ee p0 p1 rec_laws_eqExpr n (Sh.w (i10+1))
  else
   some (Sum.inr ())
def J3 (N:Nat) (rec_laws_eqExpr:AD→AD→Option (Bool)) (p0:(List AD)) (p1:(List AD)):Option (Bool):=
 if (!decide ((Sh.len p0)=(Sh.len p1)))=true then
  some false
 else
  Sh.cont (Ee p0 p1 rec_laws_eqExpr N 0) (id) fun ()=>
  some true
def I4 (N:Nat) (rec_laws_eqExpr:AD→AD→Option (Bool)) (p0:AD) (p1:AD):Option (Bool):=
 if (!decide (p0.op=p1.op))=true then
  some false
 else
 if (!decide (p0.num=p1.num))=true then
  some false
 else
  Option.bind (J3 N rec_laws_eqExpr p0.kids p1.kids) fun q16=>
  if (!q16)=true then
   some false
  else
   some true
def Fz (N:Nat):Nat→AD→AD→Option (Bool)
 | 0,_,_=>none
 | n+1,p0,p1=>I4 N (Fz N n) p0 p1
def KY (N:Nat) (p0:AD) (p1:AD):Option (Bool):=Fz N N p0 p1
def Iz (N:Nat) (p0:Ah) (p1:Ah):Option (Bool):=
 Option.bind (Hw N p0.params p1.params) fun q4=>
 if (!q4)=true then
  some false
 else
 if (!decide (p0.result=p1.result))=true then
  some false
 else
  Option.bind (KY N p0.body p1.body) fun q17=>
  if (!q17)=true then
   some false
  else
   some true
def Ei (N:Nat) (p0:(List Ah)) (p1:(List Ah)):Nat→Int→Option ((Bool) ⊕ (Unit))
 | 0,_=>none
 | n+1,i10=>
  if (decide (i10 < (Sh.len p0)))=true then
   Option.bind (Sh.get p0 i10) fun c18=>
   Option.bind (Sh.get p1 i10) fun c19=>
   Option.bind (Iz N c18 c19) fun q20=>
   if (!q20)=true then
    some (Sum.inl false)
   else
    Ei N p0 p1 n (Sh.w (i10+1))
  else
   some (Sum.inr ())
def IL (N:Nat) (p0:(List Ah)) (p1:(List Ah)):Option (Bool):=
 if (!decide ((Sh.len p0)=(Sh.len p1)))=true then
  some false
 else
  Sh.cont (Ei N p0 p1 N 0) (id) fun ()=>
  some true
def E0 (N:Nat) (p0:AN) (p1:AN):Option (Bool):=
 Option.bind (IP N p0.decls p1.decls) fun q4=>
 if (!q4)=true then
  some false
 else
  Option.bind (IL N p0.funcs p1.funcs) fun q11=>
  if (!q11)=true then
   some false
  else
   some true
end RC


namespace RC
end RC


namespace RC
end RC


namespace RC
def EA :Nat→Int→Int→(List Int)→Option (Int×(List Int))
 | 0,_,_,_=>none
 | n+1,k4,i5,l6=>
  if (decide (i5 < (Sh.len l6)))=true then
   Option.bind (Sh.get l6 i5) fun c16=>
   EA  n (Sh.w (k4+1)) (Sh.w (i5+1)) (Sh.put l6 i5 k4)
  else
   some (k4,l6)
def Gg (N:Nat) (s0:(List Int)) (p1:Int):Option (Int×(List Int)):=
 Option.bind (EA  N p1 0 s0) fun (k7,l8)=>
 some (k7,l8)
def EH (N:Nat):Nat→Int→Int→(List BP)→Option (Int×(List BP))
 | 0,_,_,_=>none
 | n+1,k4,i5,l6=>
  if (decide (i5 < (Sh.len l6)))=true then
   Option.bind (Sh.get l6 i5) fun c15=>
   Option.bind (Gg N c15.fields k4) fun q16=>
   EH N n q16.1 (Sh.w (i5+1)) (Sh.put l6 i5 (BP.mk q16.2))
  else
   some (k4,l6)
def Hf (N:Nat) (s0:(List BP)) (p1:Int):Option (Int×(List BP)):=
 Option.bind (EH N N p1 0 s0) fun (k7,l8)=>
 some (k7,l8)
def Dt (N:Nat):Nat→Int→Int→(List Ab)→Option (Int×(List Ab))
 | 0,_,_,_=>none
 | n+1,k4,i5,l6=>
  if (decide (i5 < (Sh.len l6)))=true then
   Option.bind (Sh.get l6 i5) fun c16=>
   Option.bind (Sh.get (Sh.put l6 i5 (Ab.mk k4 c16.to c16.cons)) i5) fun c19=>
   Option.bind (Sh.get (Sh.put (Sh.put l6 i5 (Ab.mk k4 c16.to c16.cons)) i5 (Ab.mk c19.from_ (Sh.w (k4+1)) c19.cons)) i5) fun c21=>
   Option.bind (Hf N c21.cons (Sh.w ((Sh.w (k4+1)) + 1))) fun q22=>
   Dt N n q22.1 (Sh.w (i5+1)) (Sh.put (Sh.put (Sh.put l6 i5 (Ab.mk k4 c16.to c16.cons)) i5 (Ab.mk c19.from_ (Sh.w (k4+1)) c19.cons)) i5 (Ab.mk c21.from_ c21.to q22.2))
  else
   some (k4,l6)
def G9 (N:Nat) (s0:(List Ab)) (p1:Int):Option (Int×(List Ab)):=
 Option.bind (Dt N N p1 0 s0) fun (k7,l8)=>
 some (k7,l8)
def EI (p0:(List Int)):Nat→Int→Int→Option ((Int) ⊕ (Int))
 | 0,_,_=>none
 | n+1,k4,i5=>
  if (decide (i5 < (Sh.len p0)))=true then
   Option.bind (Sh.get p0 i5) fun c15=>
   if (!decide (c15=k4))=true then
    some (Sum.inl (-1))
   else
    EI p0 n (Sh.w (k4+1)) (Sh.w (i5+1))
  else
   some (Sum.inr k4)
def Gj (N:Nat) (p0:(List Int)) (p1:Int):Option (Int):=
 Sh.cont (EI p0 N p1 0) (id) fun k6=>
 some k6
end RC


namespace RC
def CS (p0:(List Int)) (p1:Int):Nat→Bool→Int→(List Int)→Option (Bool×(List Int))
 | 0,_,_,_=>none
 | n+1,done6,i7,l8=>
  if (decide (i7 < (Sh.len p0)))=true then
   Option.bind (
    Option.bind (
     if (!done6)=true then
      Option.bind (Sh.get p0 i7) fun c43=>
      some (decide (p1≤c43))
     else
      some false
    ) fun t32=>
    if t32=true then
     Option.bind (
      Option.bind (Sh.get p0 i7) fun c39=>
      if (decide (p1 < c39))=true then
       Option.bind (Sh.app l8 [p1] 8) fun l41=>
       some l41
      else
       some l8
     ) fun l36=>
     some (true,l36)
    else
     some (done6,l8)
   ) fun (done26,l27)=>
   Option.bind (Sh.get p0 i7) fun c29=>
   Option.bind (Sh.app l27 [c29] 8) fun l30=>
   CS p0 p1 n done26 (Sh.w (i7+1)) l30
  else
   some (done6,l8)
def GG (N:Nat) (p0:(List Int)) (p1:Int):Option ((List Int)):=
 Option.bind (CS p0 p1 N false 0 []) fun (done9,l10)=>
 Option.bind (
  if (!done9)=true then
   Option.bind (Sh.app l10 [p1] 8) fun l19=>
   some l19
  else
   some l10
 ) fun l13=>
 some l13
end RC


namespace RC
def Ca (p0:AD) (rec_spec_calleesIn:AD→(List Int)→Option ((List Int))):Nat→(List Int)→Int→Option ((List Int))
 | 0,_,_=>none
 | n+1,list7,i8=>
  if (decide (i8 < (Sh.len p0.kids)))=true then
   Option.bind (Sh.get p0.kids i8) fun c16=>
   Option.bind (rec_spec_calleesIn c16 list7) fun q17=>
   Ca p0 rec_spec_calleesIn n q17 (Sh.w (i8+1))
  else
   some list7
def Hc (N:Nat) (rec_spec_calleesIn:AD→(List Int)→Option ((List Int))) (p0:AD) (p1:(List Int)):Option ((List Int)):=
 Option.bind (
  Option.bind (
   if (decide (p0.op=9))=true then
    some true
   else
    some (decide (p0.op=10))
  ) fun t19=>
  if t19=true then
   Option.bind (GG N p1 p0.num) fun q22=>
   some q22
  else
   some p1
 ) fun list3=>
 Option.bind (Ca p0 rec_spec_calleesIn N list3 0) fun list9=>
 some list9
def EB (N:Nat):Nat→AD→(List Int)→Option ((List Int))
 | 0,_,_=>none
 | n+1,p0,p1=>Hc N (EB N n) p0 p1
def G8 (N:Nat) (p0:AD) (p1:(List Int)):Option ((List Int)):=EB N N p0 p1
def FM (p0:(List Int)) (p1:Int):Nat→Int→Option ((Bool) ⊕ (Unit))
 | 0,_=>none
 | n+1,i4=>
  if (decide (i4 < (Sh.len p0)))=true then
   Option.bind (Sh.get p0 i4) fun c12=>
   if (decide (c12=p1))=true then
    some (Sum.inl true)
   else
    FM p0 p1 n (Sh.w (i4+1))
  else
   some (Sum.inr ())
def IZ (N:Nat) (p0:(List Int)) (p1:Int):Option (Bool):=
 Sh.cont (FM p0 p1 N 0) (id) fun ()=>
 some false
def CV (N:Nat) (q30:(List Int)):Nat→Int→(List Int)→Option ((List Int))
 | 0,_,_=>none
 | n+1,k33,l34=>
  if (decide (k33 < (Sh.len q30)))=true then
   Option.bind (Sh.get q30 k33) fun c41=>
   Option.bind (GG N l34 c41) fun q42=>
   CV N q30 n (Sh.w (k33+1)) q42
  else
   some l34
def CT (N:Nat) (p0:AN):Nat→Int→(List Int)→Option ((List Int))
 | 0,_,_=>none
 | n+1,i15,l16=>
  if (decide (i15 < (Sh.len p0.funcs)))=true then
   Option.bind (
    Option.bind (IZ N l16 i15) fun q26=>
    if q26=true then
     Option.bind (Sh.get p0.funcs i15) fun c29=>
     Option.bind (G8 N c29.body ([]:List Int)) fun q30=>
     Option.bind (CV N q30 N 0 l16) fun l35=>
     some l35
    else
     some l16
   ) fun l23=>
   CT N p0 n (Sh.w (i15+1)) l23
  else
   some l16
def Cc (N:Nat) (p0:AN):Nat→Int→(List Int)→Option ((List Int))
 | 0,_,_=>none
 | n+1,round5,l6=>
  if (decide (round5 < (Sh.len p0.funcs)))=true then
   Option.bind (CT N p0 N 0 l6) fun l17=>
   Cc N p0 n (Sh.w (round5+1)) l17
  else
   some l6
def GI (N:Nat) (p0:AN) (p1:Int):Option ((List Int)):=
 Option.bind (Cc N p0 N 0 [p1]) fun l7=>
 some l7
def Dq (N:Nat) (p0:AN) (p1:Int) (q11:(List Int)):Nat→Int→Option ((Bool) ⊕ (Unit))
 | 0,_=>none
 | n+1,i14=>
  if (decide (i14 < (Sh.len q11)))=true then
   Option.bind (Sh.get q11 i14) fun c22=>
   Option.bind (GI N p0 c22) fun q23=>
   Option.bind (IZ N q23 p1) fun q24=>
   if q24=true then
    some (Sum.inl false)
   else
    Dq N p0 p1 q11 n (Sh.w (i14+1))
  else
   some (Sum.inr ())
def Dy (N:Nat) (p0:AN) (p1:Int):Option (Bool):=
 Option.bind (B4 p1 1 (Sh.w ((Sh.len p0.funcs) - 1))) fun q4=>
 if (!q4)=true then
  some false
 else
  Option.bind (Sh.get p0.funcs p1) fun c10=>
  Option.bind (G8 N c10.body ([]:List Int)) fun q11=>
  Sh.cont (Dq N p0 p1 q11 N 0) (id) fun ()=>
  some true
def G5 (N:Nat) (p0:AN) (p1:Int):Option (Bool):=
 Option.bind (
  Option.bind (Bc N p0) fun q5=>
  if q5=true then
   Option.bind (Dy N p0 p1) fun q7=>
   some q7
  else
   some false
 ) fun t3=>
 some t3
def HU (s1:(List Bool)) (p0:AD):Option ((List Bool)):=
 Option.bind (
  if (decide (p0.op=9))=true then
   some true
  else
   some (decide (p0.op=10))
 ) fun t3=>
 if t3=true then
  Option.bind (Sh.get s1 p0.num) fun c6=>
  some (Sh.put s1 p0.num true)
 else
  some s1
def DZ (p0:AD) (rec_impl_walk_3:(List Bool)→AD→Option ((List Bool))):Nat→Int→(List Bool)→Option ((List Bool))
 | 0,_,_=>none
 | n+1,t6,l7=>
  if (decide (t6 < (Sh.len p0.kids)))=true then
   Option.bind (Sh.get p0.kids t6) fun c15=>
   Option.bind (rec_impl_walk_3 l7 c15) fun q16=>
   DZ p0 rec_impl_walk_3 n (Sh.w (t6+1)) q16
  else
   some l7
def JJ (N:Nat) (rec_impl_walk_3:(List Bool)→AD→Option ((List Bool))) (s1:(List Bool)) (p0:AD):Option ((List Bool)):=
 Option.bind (HU s1 p0) fun q3=>
 Option.bind (DZ p0 rec_impl_walk_3 N 0 q3) fun l8=>
 some l8
def FX (N:Nat):Nat→(List Bool)→AD→Option ((List Bool))
 | 0,_,_=>none
 | n+1,s1,p0=>JJ N (FX N n) s1 p0
def Mr (N:Nat) (s1:(List Bool)) (p0:AD):Option ((List Bool)):=FX N N s1 p0
def GF (N:Nat) (p0:AN) (p1:Int):Option ((List Bool)):=
 Option.bind (Sh.mk false (Sh.len p0.funcs) 1) fun l3=>
 Option.bind (Sh.get p0.funcs p1) fun c5=>
 Option.bind (Mr N l3 c5.body) fun q6=>
 some q6
def DB (p0:(List Bool)):Nat→Int→(List Int)→Option ((List Int))
 | 0,_,_=>none
 | n+1,t5,l6=>
  if (decide (t5 < (Sh.len p0)))=true then
   Option.bind (
    Option.bind (Sh.get p0 t5) fun c17=>
    if c17=true then
     Option.bind (Sh.app l6 [t5] 8) fun l20=>
     some l20
    else
     some l6
   ) fun l14=>
   DB p0 n (Sh.w (t5+1)) l14
  else
   some l6
def E3 (N:Nat) (p0:(List Bool)):Option ((List Int)):=
 Option.bind (DB p0 N 0 []) fun l7=>
 some l7
def HJ (N:Nat) (p0:AN) (p1:Int):Option ((List Int)):=
 Option.bind (
  Option.bind (Ce N p0) fun q11=>
  if (!q11)=true then
   some true
  else
  if (decide (p1 < 0))=true then
   some true
  else
   some (decide ((Sh.len p0.funcs)≤p1))
 ) fun t4=>
 if t4=true then
  some []
 else
  Option.bind (GF N p0 p1) fun q9=>
  Option.bind (E3 N q9) fun q10=>
  some q10
def CU (q27:(List Int)):Nat→Int→(List Bool)→(List Int)→Option ((List Bool)×(List Int))
 | 0,_,_,_=>none
 | n+1,t28,l29,l30=>
  if (decide (t28 < (Sh.len q27)))=true then
   Option.bind (
    Option.bind (Sh.get q27 t28) fun c43=>
    Option.bind (Sh.get l29 c43) fun c45=>
    if (!c45)=true then
     Option.bind (Sh.app l30 [c43] 8) fun l49=>
     some (Sh.put l29 c43 true,l49)
    else
     some (l29,l30)
   ) fun (l39,l40)=>
   CU q27 n (Sh.w (t28+1)) l39 l40
  else
   some (l29,l30)
def Du (N:Nat) (p0:AN):Nat→(List Bool)→(List Int)→Option ((List Bool))
 | 0,_,_=>none
 | n+1,l14,l15=>
  if (decide (0 < (Sh.len l15)))=true then
   Option.bind (Sh.get l15 0) fun c25=>
   Option.bind (GF N p0 c25) fun q26=>
   Option.bind (E3 N q26) fun q27=>
   Option.bind (CU q27 N 0 l14 l15) fun (l31,l32)=>
   Option.bind (Sh.sl l32 1 (Sh.len l32)) fun l34=>
   Du N p0 n l31 l34
  else
   some l14
def GK (N:Nat) (p0:AN) (p1:Int):Option ((List Int)):=
 Option.bind (
  Option.bind (Ce N p0) fun q51=>
  if (!q51)=true then
   some true
  else
  if (decide (p1 < 0))=true then
   some true
  else
   some (decide ((Sh.len p0.funcs)≤p1))
 ) fun t4=>
 if t4=true then
  some []
 else
  Option.bind (Sh.mk false (Sh.len p0.funcs) 1) fun l9=>
  Option.bind (Sh.get l9 p1) fun c11=>
  Option.bind (Du N p0 N (Sh.put l9 p1 true) [p1]) fun l16=>
  Option.bind (E3 N l16) fun q19=>
  some q19
def Ba (p0:(List Int)) (p1:Int):Nat→Int→Option ((Int) ⊕ (Unit))
 | 0,_=>none
 | n+1,t4=>
  if (decide (t4 < (Sh.len p0)))=true then
   Option.bind (Sh.get p0 t4) fun c13=>
   if (decide (p1=c13))=true then
    some (Sum.inl t4)
   else
    Ba p0 p1 n (Sh.w (t4+1))
  else
   some (Sum.inr ())
def F6 (N:Nat) (p0:(List Int)) (p1:Int):Option (Int):=
 Sh.cont (Ba p0 p1 N 0) (id) fun ()=>
 some (-1)
def EN (N:Nat) (p0:(List Int)) (p1:Int):Option (Bool):=
 Option.bind (F6 N p0 p1) fun q3=>
 some (decide (0≤q3))
def Dp (N:Nat) (p0:AN) (p1:Int) (q10:(List Int)):Nat→Int→Option ((Bool) ⊕ (Unit))
 | 0,_=>none
 | n+1,t11=>
  if (decide (t11 < (Sh.len q10)))=true then
   Option.bind (Sh.get q10 t11) fun c19=>
   Option.bind (GK N p0 c19) fun q21=>
   Option.bind (EN N q21 p1) fun q22=>
   if q22=true then
    some (Sum.inl false)
   else
    Dp N p0 p1 q10 n (Sh.w (t11+1))
  else
   some (Sum.inr ())
def EW (N:Nat) (p0:AN) (p1:Int):Option (Bool):=
 Option.bind (
  Option.bind (Ce N p0) fun q25=>
  if (!q25)=true then
   some true
  else
  if (decide (p1 < 1))=true then
   some true
  else
   some (decide ((Sh.len p0.funcs)≤p1))
 ) fun t4=>
 if t4=true then
  some false
 else
  Option.bind (HJ N p0 p1) fun q10=>
  Sh.cont (Dp N p0 p1 q10 N 0) (id) fun ()=>
  some true
end RC


namespace RC
def CJ (p0:(List Ab)):Option ((List Ab)):=
 Option.bind (Sh.app ([]:List Ab) p0 40) fun l6=>
 some l6
def B2 (p0:(List BP)):Option ((List BP)):=
 Option.bind (Sh.app ([]:List BP) p0 24) fun l6=>
 some l6
end RC


namespace RC
def DQ (cs:List BP):Nat→Int→List BP→Option (List BP)
 | 0,_,_=>none
 | n+1,i,q=>
  if decide (i < Sh.len cs)=true then
   Option.bind (Sh.get cs i) fun c=>
   Option.bind (BW c.fields) fun f=>
   Option.bind (Sh.get q i) fun _=>
   DQ cs n (Sh.w (i+1)) (Sh.put q i (BP.mk f))
  else some q
def DR (N:Nat) (m:Int):Nat→Int→List Ab→Option (List Ab)
 | 0,_,_=>none
 | n+1,t,l=>
  if decide (t < m)=true then
   Option.bind (Sh.get l t) fun d=>
   Option.bind (B2 d.cons) fun q21=>
   Option.bind (DQ d.cons N 0 q21) fun q=>
   DR N m n (Sh.w (t+1)) (Sh.put l t (Ab.mk d.from_ d.to q))
  else some l
def GW (N:Nat) (p0:List Ab):Option (List Ab):=
 Option.bind (CJ p0) fun q9=>
 Option.bind (DR N (Sh.len q9) N 0 q9) fun l=>
 some l
end RC


namespace RC
def DA (i5:Int) (p0:(List Ab)):Nat→Int→(List BP)→Option ((List BP))
 | 0,_,_=>none
 | n+1,k17,l18=>
  Option.bind (Sh.get p0 i5) fun c25=>
  if (decide (k17 < (Sh.len c25.cons)))=true then
   Option.bind (Sh.get c25.cons k17) fun c28=>
   Option.bind (Dk c28.fields) fun q29=>
   Option.bind (Sh.app l18 [(BP.mk q29)] 24) fun l30=>
   DA i5 p0 n (Sh.w (k17+1)) l30
  else
   some l18
def Dr (N:Nat) (p0:(List Ab)):Nat→Int→(List Ab)→Option ((List Ab))
 | 0,_,_=>none
 | n+1,i5,l6=>
  if (decide (i5 < (Sh.len p0)))=true then
   Option.bind (DA i5 p0 N 0 []) fun l19=>
   Option.bind (Sh.get p0 i5) fun c21=>
   Option.bind (Sh.app l6 [(Ab.mk c21.from_ c21.to l19)] 40) fun l22=>
   Dr N p0 n (Sh.w (i5+1)) l22
  else
   some l6
def HG (N:Nat) (p0:(List Ab)):Option ((List Ab)):=
 Option.bind (Dr N p0 N 0 []) fun l7=>
 some l7
def D9 (N:Nat) (p0:(List BP)):Nat→Int→Int→Option ((Int) ⊕ (Int))
 | 0,_,_=>none
 | n+1,k4,i5=>
  if (decide (i5 < (Sh.len p0)))=true then
   Option.bind (Sh.get p0 i5) fun c14=>
   Option.bind (Gj N c14.fields k4) fun q15=>
   if (decide (q15 < 0))=true then
    some (Sum.inl (-1))
   else
    D9 N p0 n q15 (Sh.w (i5+1))
  else
   some (Sum.inr k4)
def Hj (N:Nat) (p0:(List BP)) (p1:Int):Option (Int):=
 Sh.cont (D9 N p0 N p1 0) (id) fun k6=>
 some k6
def Dw (N:Nat) (p0:(List Ab)):Nat→Int→Int→Option ((Int) ⊕ (Int))
 | 0,_,_=>none
 | n+1,k4,i5=>
  if (decide (i5 < (Sh.len p0)))=true then
   Option.bind (Sh.get p0 i5) fun c15=>
   if (!decide (c15.from_=k4))=true then
    some (Sum.inl (-1))
   else
   if (!decide (c15.to=(Sh.w (k4+1))))=true then
    some (Sum.inl (-1))
   else
    Option.bind (Hj N c15.cons (Sh.w ((Sh.w (k4+1)) + 1))) fun q29=>
    if (decide (q29 < 0))=true then
     some (Sum.inl (-1))
    else
     Dw N p0 n q29 (Sh.w (i5+1))
  else
   some (Sum.inr k4)
def HK (N:Nat) (p0:(List Ab)) (p1:Int):Option (Int):=
 Sh.cont (Dw N p0 N p1 0) (id) fun k6=>
 some k6
end RC


namespace RC
def UJ (rec_spec_copyExprs:(List AD)→Option ((List AD))) (p0:AD):Option (AD):=
 Option.bind (rec_spec_copyExprs p0.kids) fun q3=>
 some (AD.mk p0.op p0.num q3)
def KE (p0:(List AD)) (rec_spec_copyExprs:(List AD)→Option ((List AD))):Nat→Int→(List AD)→Option ((List AD))
 | 0,_,_=>none
 | n+1,i5,l6=>
  if (decide (i5 < (Sh.len p0)))=true then
   Option.bind (Sh.get p0 i5) fun c14=>
   Option.bind (UJ rec_spec_copyExprs c14) fun q15=>
   Option.bind (Sh.app l6 [q15] 40) fun l16=>
   KE p0 rec_spec_copyExprs n (Sh.w (i5+1)) l16
  else
   some l6
def QF (N:Nat) (rec_spec_copyExprs:(List AD)→Option ((List AD))) (p0:(List AD)):Option ((List AD)):=
 Option.bind (KE p0 rec_spec_copyExprs N 0 []) fun l7=>
 some l7
def LR (N:Nat):Nat→(List AD)→Option ((List AD))
 | 0,_=>none
 | n+1,p0=>QF N (LR N n) p0
def So (N:Nat) (p0:(List AD)):Option ((List AD)):=LR N N p0
def RK (N:Nat) (p0:AD):Option (AD):=
 Option.bind (So N p0.kids) fun q3=>
 some (AD.mk p0.op p0.num q3)
def O0 (N:Nat) (p0:AN) (p1:(List AD)):Nat→Int→(List Ah)→Option ((AN×Bool) ⊕ ((List Ah)))
 | 0,_,_=>none
 | n+1,i6,l7=>
  if (decide (i6 < (Sh.len p0.funcs)))=true then
   Option.bind (Sh.get p1 i6) fun c17=>
   Option.bind (GU N c17) fun q18=>
   if (decide (q18 < 0))=true then
    some (Sum.inl ((AN.mk [] []),false))
   else
    Option.bind (Sh.get p0.funcs i6) fun c21=>
    Option.bind (Dk c21.params) fun q22=>
    Option.bind (RK N c17) fun q23=>
    Option.bind (Sh.app l7 [(Ah.mk q22 c21.result q23)] 72) fun l24=>
    O0 N p0 p1 n (Sh.w (i6+1)) l24
  else
   some (Sum.inr l7)
def Br (p0:AD) (p1:Int) (p2:Int) (rec_impl_shifted:AD→Int→Int→Option (AD)):Nat→Int→(List AD)→Option ((List AD))
 | 0,_,_=>none
 | n+1,t9,l10=>
  if (decide (t9 < (Sh.len p0.kids)))=true then
   Option.bind (Sh.get p0.kids t9) fun c19=>
   Option.bind (rec_impl_shifted c19 p1 p2) fun q20=>
   Option.bind (Sh.app l10 [q20] 40) fun l21=>
   Br p0 p1 p2 rec_impl_shifted n (Sh.w (t9+1)) l21
  else
   some l10
def G7 (N:Nat) (rec_impl_shifted:AD→Int→Int→Option (AD)) (p0:AD) (p1:Int) (p2:Int):Option (AD):=
 Option.bind (
  Option.bind (
   if (decide (p0.op=12))=true then
    some (decide (p1≤p0.num))
   else
    some false
  ) fun t25=>
  if t25=true then
   some (Sh.w (p0.num+p2))
  else
   some p0.num
 ) fun f3=>
 Option.bind (Br p0 p1 p2 rec_impl_shifted N 0 []) fun l11=>
 some (AD.mk p0.op f3 l11)
def Cq (N:Nat):Nat→AD→Int→Int→Option (AD)
 | 0,_,_,_=>none
 | n+1,p0,p1,p2=>G7 N (Cq N n) p0 p1 p2
def FH (N:Nat) (p0:AD) (p1:Int) (p2:Int):Option (AD):=Cq N N p0 p1 p2
def HF (N:Nat) (p0:AD):Option (AD):=
 Option.bind (FH N p0 0 0) fun q3=>
 some q3
def CB (N:Nat) (p0:AN):Nat→Int→(List Ah)→Option ((List Ah))
 | 0,_,_=>none
 | n+1,t6,l7=>
  if (decide (t6 < (Sh.len p0.funcs)))=true then
   Option.bind (Sh.get p0.funcs t6) fun c16=>
   Option.bind (BW c16.params) fun q17=>
   Option.bind (HF N c16.body) fun q18=>
   Option.bind (Sh.app l7 [(Ah.mk q17 c16.result q18)] 72) fun l19=>
   CB N p0 n (Sh.w (t6+1)) l19
  else
   some l7
def F5 (N:Nat) (p0:AN):Option (AN):=
 Option.bind (GW N p0.decls) fun q3=>
 Option.bind (CB N p0 N 0 []) fun l8=>
 some (AN.mk q3 l8)
def C5 (rec_laws_markExprS:(List AD)→Int→Option (Int×(List AD))):Nat→Int→Int→(List AD)→Option (Int×(List AD))
 | 0,_,_,_=>none
 | n+1,k4,i5,l6=>
  if (decide (i5 < (Sh.len l6)))=true then
   Option.bind (Sh.get l6 i5) fun c16=>
   Option.bind (Sh.get (Sh.put l6 i5 (AD.mk k4 c16.num c16.kids)) i5) fun c19=>
   Option.bind (Sh.get (Sh.put (Sh.put l6 i5 (AD.mk k4 c16.num c16.kids)) i5 (AD.mk c19.op (Sh.w (k4+1)) c19.kids)) i5) fun c21=>
   Option.bind (rec_laws_markExprS c21.kids (Sh.w ((Sh.w (k4+1)) + 1))) fun q22=>
   C5 rec_laws_markExprS n q22.1 (Sh.w (i5+1)) (Sh.put (Sh.put (Sh.put l6 i5 (AD.mk k4 c16.num c16.kids)) i5 (AD.mk c19.op (Sh.w (k4+1)) c19.kids)) i5 (AD.mk c21.op c21.num q22.2))
  else
   some (k4,l6)
def Ha (N:Nat) (rec_laws_markExprS:(List AD)→Int→Option (Int×(List AD))) (s0:(List AD)) (p1:Int):Option (Int×(List AD)):=
 Option.bind (C5 rec_laws_markExprS N p1 0 s0) fun (k7,l8)=>
 some (k7,l8)
def ED (N:Nat):Nat→(List AD)→Int→Option (Int×(List AD))
 | 0,_,_=>none
 | n+1,s0,p1=>Ha N (ED N n) s0 p1
def IU (N:Nat) (s0:(List AD)) (p1:Int):Option (Int×(List AD)):=ED N N s0 p1
def Dg (N:Nat):Nat→Int→Int→(List Ah)→Option (Int×(List Ah))
 | 0,_,_,_=>none
 | n+1,k4,i5,l6=>
  if (decide (i5 < (Sh.len l6)))=true then
   Option.bind (Sh.get l6 i5) fun c16=>
   Option.bind (Gg N c16.params k4) fun q17=>
   Option.bind (Sh.get (Sh.put l6 i5 (Ah.mk q17.2 c16.result c16.body)) i5) fun c20=>
   Option.bind (Sh.get (Sh.put (Sh.put l6 i5 (Ah.mk q17.2 c16.result c16.body)) i5 (Ah.mk c20.params q17.1 c20.body)) i5) fun c23=>
   Option.bind (Sh.get (Sh.put (Sh.put (Sh.put l6 i5 (Ah.mk q17.2 c16.result c16.body)) i5 (Ah.mk c20.params q17.1 c20.body)) i5 (Ah.mk c23.params c23.result (AD.mk (Sh.w (q17.1+1)) c23.body.num c23.body.kids))) i5) fun c26=>
   Option.bind (Sh.get (Sh.put (Sh.put (Sh.put (Sh.put l6 i5 (Ah.mk q17.2 c16.result c16.body)) i5 (Ah.mk c20.params q17.1 c20.body)) i5 (Ah.mk c23.params c23.result (AD.mk (Sh.w (q17.1+1)) c23.body.num c23.body.kids))) i5 (Ah.mk c26.params c26.result (AD.mk c26.body.op (Sh.w ((Sh.w (q17.1+1)) + 1)) c26.body.kids))) i5) fun c28=>
   Option.bind (IU N c28.body.kids (Sh.w ((Sh.w ((Sh.w (q17.1+1)) + 1)) + 1))) fun q29=>
   Dg N n q29.1 (Sh.w (i5+1)) (Sh.put (Sh.put (Sh.put (Sh.put (Sh.put l6 i5 (Ah.mk q17.2 c16.result c16.body)) i5 (Ah.mk c20.params q17.1 c20.body)) i5 (Ah.mk c23.params c23.result (AD.mk (Sh.w (q17.1+1)) c23.body.num c23.body.kids))) i5 (Ah.mk c26.params c26.result (AD.mk c26.body.op (Sh.w ((Sh.w (q17.1+1)) + 1)) c26.body.kids))) i5 (Ah.mk c28.params c28.result (AD.mk c28.body.op c28.body.num q29.2)))
  else
   some (k4,l6)
def G4 (N:Nat) (s0:(List Ah)) (p1:Int):Option (Int×(List Ah)):=
 Option.bind (Dg N N p1 0 s0) fun (k7,l8)=>
 some (k7,l8)
def Fa (N:Nat) (s0:(List Ab)) (s1:(List Ah)) (p1:Int):Option (Int×(List Ab)×(List Ah)):=
 Option.bind (G9 N s0 p1) fun q3=>
 Option.bind (G4 N s1 q3.1) fun q6=>
 some (q6.1,q3.2,q6.2)
def C2 (p0:(List AD)) (rec_laws_heldExprS:(List AD)→Int→Option (Int)):Nat→Int→Int→Option ((Int) ⊕ (Int))
 | 0,_,_=>none
 | n+1,k4,i5=>
  if (decide (i5 < (Sh.len p0)))=true then
   Option.bind (Sh.get p0 i5) fun c15=>
   if (!decide (c15.op=k4))=true then
    some (Sum.inl (-1))
   else
   if (!decide (c15.num=(Sh.w (k4+1))))=true then
    some (Sum.inl (-1))
   else
    Option.bind (rec_laws_heldExprS c15.kids (Sh.w ((Sh.w (k4+1)) + 1))) fun q29=>
    if (decide (q29 < 0))=true then
     some (Sum.inl (-1))
    else
     C2 p0 rec_laws_heldExprS n q29 (Sh.w (i5+1))
  else
   some (Sum.inr k4)
def Hd (N:Nat) (rec_laws_heldExprS:(List AD)→Int→Option (Int)) (p0:(List AD)) (p1:Int):Option (Int):=
 Sh.cont (C2 p0 rec_laws_heldExprS N p1 0) (id) fun k6=>
 some k6
def EE (N:Nat):Nat→(List AD)→Int→Option (Int)
 | 0,_,_=>none
 | n+1,p0,p1=>Hd N (EE N n) p0 p1
def IV (N:Nat) (p0:(List AD)) (p1:Int):Option (Int):=EE N N p0 p1
def Dx (N:Nat) (p0:(List Ah)):Nat→Int→Int→Option ((Int) ⊕ (Int))
 | 0,_,_=>none
 | n+1,k4,i5=>
  if (decide (i5 < (Sh.len p0)))=true then
   Option.bind (Sh.get p0 i5) fun c14=>
   Option.bind (Gj N c14.params k4) fun q15=>
   if (decide (q15 < 0))=true then
    some (Sum.inl (-1))
   else
   if (!decide (c14.result=q15))=true then
    some (Sum.inl (-1))
   else
   if (!decide (c14.body.op=(Sh.w (q15+1))))=true then
    some (Sum.inl (-1))
   else
   if (!decide (c14.body.num=(Sh.w ((Sh.w (q15+1)) + 1))))=true then
    some (Sum.inl (-1))
   else
    Option.bind (IV N c14.body.kids (Sh.w ((Sh.w ((Sh.w (q15+1)) + 1)) + 1))) fun q42=>
    if (decide (q42 < 0))=true then
     some (Sum.inl (-1))
    else
     Dx N p0 n q42 (Sh.w (i5+1))
  else
   some (Sum.inr k4)
def HB (N:Nat) (p0:(List Ah)) (p1:Int):Option (Int):=
 Sh.cont (Dx N p0 N p1 0) (id) fun k6=>
 some k6
def FY (N:Nat) (p0:AN) (p1:Int):Option (Int):=
 Option.bind (HK N p0.decls p1) fun q3=>
 if (decide (q3 < 0))=true then
  some (-1)
 else
  Option.bind (HB N p0.funcs q3) fun q9=>
  if (decide (q9 < 0))=true then
   some (-1)
  else
   some q9
end RC



namespace RC
def E5 (N:Nat) (p0:List AD) (p2:Int):Nat→AD→Option AD
 | 0,b=>some b
 | i+1,b=>
  Option.bind (Sh.get p0 (i:Int)) fun x=>
  Option.bind (FH N x p2 (i:Int)) fun q=>
  E5 N p0 p2 i (AD.mk 13 0 [q,b])
def I5 (N:Nat) (s0:List AD) (p0:List AD) (p1_0:Int) (p1_1:Int) (p2:Int):Option AD:=
 if p0.length≤1048576 then E5 N p0 p2 p0.length (AD.mk p1_0 p1_1 s0) else none
theorem PF {N:Nat} {p0:List AD} {p2:Int} :∀(n:Nat) {b r:AD},E5 N p0 p2 n b=some r→
  ∃bs:Nat→AD,bs n=b∧bs 0=r∧∀i,i < n→∃x q,Sh.get p0 (i:Int)=some x∧FH N x p2 (i:Int)=some q∧bs i=AD.mk 13 0 [q,bs (i+1)]
 | 0,b,r,h=>by
  rw[E5] at h;cases h
  exact⟨fun _=>b,rfl,rfl,fun i hi=>by omega⟩
 | n+1,b,r,h=>by
  rw[E5] at h
  obtain⟨x,h1,h⟩:=Sh.bind_some h
  obtain⟨q,h2,h⟩:=Sh.bind_some h
  obtain⟨bs,e1,e2,e3⟩:=PF n h
  refine⟨fun i=>if i=n+1 then b else bs i,by simp,by simp[e2],fun i hi=>?_⟩
  by_cases hin:i=n
  ·subst hin
   refine⟨x,q,h1,h2,?_⟩
   simp[e1]
  ·obtain⟨x',q',g1,g2,g3⟩:=e3 i (by omega)
   refine⟨x',q',g1,g2,?_⟩
   have n1:¬ i=n+1:=by omega
   have n2:¬ i+1=n+1:=by omega
   simp only[n1,n2,if_false];exact g3
end RC


namespace RC
def IM (N:Nat) (p0:AN) (p1:AD) (p2:Int) (p3:Int):Option (Int):=
 if (decide (p2=0))=true then
  some p3
 else
 if (decide (p1.op=13))=true then
  some (Sh.w (p3+1))
 else
 if (decide (p1.op=8))=true then
  Option.bind (Ho N p0.decls p1.num) fun q14=>
  Option.bind (Sh.get q14 (Sh.w (p2 - 1))) fun c15=>
  Option.bind (CP N p0.decls c15) fun q16=>
  some (Sh.w (p3+(Sh.len q16)))
 else
  some p3
def DY (p0:(List AD)) (p1:Int) (p2:Int) (rec_spec_shift:AD→Int→Int→Option (AD)):Nat→Int→(List AD)→Option ((List AD))
 | 0,_,_=>none
 | n+1,i5,l6=>
  if (decide (i5 < (Sh.len p0)))=true then
   Option.bind (Sh.get p0 i5) fun c14=>
   Option.bind (rec_spec_shift c14 p1 p2) fun q15=>
   Option.bind (Sh.app l6 [q15] 40) fun l16=>
   DY p0 p1 p2 rec_spec_shift n (Sh.w (i5+1)) l16
  else
   some l6
def JG (N:Nat) (rec_spec_shift:AD→Int→Int→Option (AD)) (p0:(List AD)) (p1:Int) (p2:Int):Option ((List AD)):=
 Option.bind (DY p0 p1 p2 rec_spec_shift N 0 []) fun l7=>
 some l7
def J1 (N:Nat) (rec_spec_shift:AD→Int→Int→Option (AD)) (p0:AD) (p1:Int) (p2:Int):Option (AD):=
 Option.bind (
  Option.bind (
   if (decide (p0.op=12))=true then
    some (decide (p1≤p0.num))
   else
    some false
  ) fun t9=>
  if t9=true then
   some (Sh.w (p0.num+p2))
  else
   some p0.num
 ) fun num4=>
 Option.bind (JG N rec_spec_shift p0.kids p1 p2) fun q7=>
 some (AD.mk p0.op num4 q7)
def Fs (N:Nat):Nat→AD→Int→Int→Option (AD)
 | 0,_,_,_=>none
 | n+1,p0,p1,p2=>J1 N (Fs N n) p0 p1 p2
def KC (N:Nat) (p0:AD) (p1:Int) (p2:Int):Option (AD):=Fs N N p0 p1 p2
def Fm (N:Nat) (p0:(List AD)) (p2:Int):Nat→Int→Int→Int→(List AD)→Option (Int×Int×(List AD))
 | 0,_,_,_,_=>none
 | n+1,k5,f6,f7,f8=>
  if (decide (0≤k5))=true then
   Option.bind (Sh.get p0 k5) fun c18=>
   Option.bind (KC N c18 p2 k5) fun q19=>
   Fm N p0 p2 n (Sh.w (k5 - 1)) 13 0 [q19,(AD.mk f6 f7 f8)]
  else
   some (f6,f7,f8)
def LA (N:Nat) (p0:(List AD)) (p1:AD) (p2:Int):Option (AD):=
 Option.bind (Fm N p0 p2 N (Sh.w ((Sh.len p0) - 1)) p1.op p1.num p1.kids) fun (f9,f10,f11)=>
 some (AD.mk f9 f10 f11)
def CW (p0:(List AD)) (rec_spec_copyExpr_5:AD→Option (AD)):Nat→Int→(List AD)→Option ((List AD))
 | 0,_,_=>none
 | n+1,i5,l6=>
  if (decide (i5 < (Sh.len p0)))=true then
   Option.bind (Sh.get p0 i5) fun c14=>
   Option.bind (rec_spec_copyExpr_5 c14) fun q15=>
   Option.bind (Sh.app l6 [q15] 40) fun l16=>
   CW p0 rec_spec_copyExpr_5 n (Sh.w (i5+1)) l16
  else
   some l6
def HZ (N:Nat) (rec_spec_copyExpr_5:AD→Option (AD)) (p0:(List AD)):Option ((List AD)):=
 Option.bind (CW p0 rec_spec_copyExpr_5 N 0 []) fun l7=>
 some l7
def Gu (N:Nat) (rec_spec_copyExpr_5:AD→Option (AD)) (p0:AD):Option (AD):=
 Option.bind (HZ N rec_spec_copyExpr_5 p0.kids) fun q3=>
 some (AD.mk p0.op p0.num q3)
def Di (N:Nat):Nat→AD→Option (AD)
 | 0,_=>none
 | n+1,p0=>Gu N (Di N n) p0
def Hs (N:Nat) (p0:AD):Option (AD):=Di N N p0
def CE (N:Nat) (p0:AN) (p1:(List AD)):Nat→Int→(List Ah)→Option ((AN×Bool) ⊕ ((List Ah)))
 | 0,_,_=>none
 | n+1,i6,l7=>
  if (decide (i6 < (Sh.len p0.funcs)))=true then
   Option.bind (Sh.get p1 i6) fun c17=>
   Option.bind (GU N c17) fun q18=>
   if (decide (q18 < 0))=true then
    some (Sum.inl ((AN.mk [] []),false))
   else
    Option.bind (Sh.get p0.funcs i6) fun c21=>
    Option.bind (Dk c21.params) fun q22=>
    Option.bind (Hs N c17) fun q23=>
    Option.bind (Sh.app l7 [(Ah.mk q22 c21.result q23)] 72) fun l24=>
    CE N p0 p1 n (Sh.w (i6+1)) l24
  else
   some (Sum.inr l7)
def F3 (N:Nat) (p0:AN) (p1:(List AD)):Option (AN×Bool):=
 Option.bind (HG N p0.decls) fun q3=>
 Sh.cont (CE N p0 p1 N 0 []) (id) fun l8=>
 some ((AN.mk q3 l8),true)
end RC


namespace RC
def DX (N:Nat) (p0:AN) (p1:Int) (p2:AD) (p3:Int) (rec_spec_inline:AN→Int→AD→Int→Option (AD)):Nat→Int→(List AD)→Option ((List AD))
 | 0,_,_=>none
 | n+1,k5,l6=>
  if (decide (k5 < (Sh.len p2.kids)))=true then
   Option.bind (Sh.get p2.kids k5) fun c24=>
   Option.bind (IM N p0 p2 k5 p3) fun q25=>
   Option.bind (rec_spec_inline p0 p1 c24 q25) fun q26=>
   Option.bind (Sh.app l6 [q26] 40) fun l27=>
   DX N p0 p1 p2 p3 rec_spec_inline n (Sh.w (k5+1)) l27
  else
   some l6
def JY (N:Nat) (rec_spec_inline:AN→Int→AD→Int→Option (AD)) (p0:AN) (p1:Int) (p2:AD) (p3:Int):Option (AD):=
 Option.bind (DX N p0 p1 p2 p3 rec_spec_inline N 0 []) fun l7=>
 Option.bind (
  if (decide (p2.op=9))=true then
   some (decide (p2.num=p1))
  else
   some false
 ) fun t11=>
 if t11=true then
  Option.bind (Sh.get p0.funcs p1) fun c15=>
  Option.bind (KC N c15.body 0 p3) fun q16=>
  Option.bind (LA N l7 q16 p3) fun q17=>
  some q17
 else
  some (AD.mk p2.op p2.num l7)
def Ex (N:Nat):Nat→AN→Int→AD→Int→Option (AD)
 | 0,_,_,_,_=>none
 | n+1,p0,p1,p2,p3=>JY N (Ex N n) p0 p1 p2 p3
def MV (N:Nat) (p0:AN) (p1:Int) (p2:AD) (p3:Int):Option (AD):=Ex N N p0 p1 p2 p3
def Ea (N:Nat) (p0:AN) (p1:Int):Nat→Int→(List AD)→Option ((List AD))
 | 0,_,_=>none
 | n+1,i11,l12=>
  if (decide (i11 < (Sh.len p0.funcs)))=true then
   Option.bind (Sh.get p0.funcs i11) fun c21=>
   Option.bind (MV N p0 p1 c21.body (Sh.len c21.params)) fun q22=>
   Option.bind (Sh.app l12 [q22] 40) fun l23=>
   Ea N p0 p1 n (Sh.w (i11+1)) l23
  else
   some l12
def FK (N:Nat) (p0:AN) (p1:Int):Option (AN×Bool):=
 Option.bind (
  Option.bind (Bc N p0) fun q24=>
  if (!q24)=true then
   some true
  else
   Option.bind (Dy N p0 p1) fun q26=>
   some (!q26)
 ) fun t4=>
 if t4=true then
  some ((AN.mk [] []),false)
 else
  Option.bind (Ea N p0 p1 N 0 []) fun l13=>
  Option.bind (F3 N p0 l13) fun q16=>
  some (q16.1,q16.2)
def JC (N:Nat) (s0_0:Int) (s1_0:(List Ab)) (s1_1:(List Ah)) (s2:(List AD)) (p0_0:Int) (p0_1:Int) (p1:Int):Option (AD):=
 Option.bind (
  if (!decide (p0_0=9))=true then
   some true
  else
   some (!decide (p0_1=s0_0))
 ) fun t4=>
 if t4=true then
  some (AD.mk p0_0 p0_1 s2)
 else
  Option.bind (Sh.get s1_1 s0_0) fun c9=>
  Option.bind (FH N c9.body 0 p1) fun q10=>
  Option.bind (I5 N q10.kids s2 q10.op q10.num p1) fun q11=>
  some q11
def Bs (N:Nat) (s0:(List AD)) (s2_0:(List Ab)) (s2_1:(List Ah)) (p0:(List Ab)) (p1_0:Int) (p1_1:Int) (p2:Int) (rec_impl_rewriteExpr_3:(List AD)→Int→(List Ab)→(List Ah)→(List Ab)→Int→Int→Int→Option (AD×Int)):Nat→Int→(List AD)→Int→Option ((List AD)×Int)
 | 0,_,_,_=>none
 | n+1,t4,l5,f6=>
  if (decide (t4 < (Sh.len s0)))=true then
   Option.bind (
    Option.bind (
     if (decide (p1_0=13))=true then
      some (decide (t4=1))
     else
      some false
    ) fun t25=>
    if t25=true then
     some (Sh.w (p2+1))
    else
     Option.bind (
      if (decide (p1_0=8))=true then
       some (decide (0 < t4))
      else
       some false
     ) fun t29=>
     if t29=true then
      Option.bind (Gt N p0 p1_1) fun q32=>
      Option.bind (Sh.get q32 (Sh.w (t4 - 1))) fun c33=>
      Option.bind (DK N p0 c33) fun q34=>
      some (Sh.w (p2+(Sh.len q34)))
     else
      some p2
   ) fun scope19=>
   Option.bind (Sh.get l5 t4) fun c21=>
   Option.bind (rec_impl_rewriteExpr_3 c21.kids f6 s2_0 s2_1 p0 c21.op c21.num scope19) fun q22=>
   Bs N s0 s2_0 s2_1 p0 p1_0 p1_1 p2 rec_impl_rewriteExpr_3 n (Sh.w (t4+1)) (Sh.put l5 t4 q22.1) q22.2
  else
   some (l5,f6)
def F8 (N:Nat) (rec_impl_rewriteExpr_3:(List AD)→Int→(List Ab)→(List Ah)→(List Ab)→Int→Int→Int→Option (AD×Int)) (s0:(List AD)) (s1_0:Int) (s2_0:(List Ab)) (s2_1:(List Ah)) (p0:(List Ab)) (p1_0:Int) (p1_1:Int) (p2:Int):Option (AD×Int):=
 Option.bind (Bs N s0 s2_0 s2_1 p0 p1_0 p1_1 p2 rec_impl_rewriteExpr_3 N 0 s0 s1_0) fun (l7,f8)=>
 Option.bind (JC N f8 s2_0 s2_1 l7 p1_0 p1_1 p2) fun q11=>
 some (q11,f8)
def CD (N:Nat):Nat→(List AD)→Int→(List Ab)→(List Ah)→(List Ab)→Int→Int→Int→Option (AD×Int)
 | 0,_,_,_,_,_,_,_,_=>none
 | n+1,s0,s1_0,s2_0,s2_1,p0,p1_0,p1_1,p2=>F8 N (CD N n) s0 s1_0 s2_0 s2_1 p0 p1_0 p1_1 p2
def IA (N:Nat) (s0:(List AD)) (s1_0:Int) (s2_0:(List Ab)) (s2_1:(List Ah)) (p0:(List Ab)) (p1_0:Int) (p1_1:Int) (p2:Int):Option (AD×Int):=CD N N s0 s1_0 s2_0 s2_1 p0 p1_0 p1_1 p2
def Cb (N:Nat) (s1_0:(List Ab)) (s1_1:(List Ah)) (p0:AN) (q3:AN):Nat→Int→Int→(List Ah)→Option ((AN×Bool×Int) ⊕ (Int×(List Ah)))
 | 0,_,_,_=>none
 | n+1,t6,f7,l8=>
  if (decide (t6 < (Sh.len q3.funcs)))=true then
   Option.bind (Sh.get l8 t6) fun c19=>
   Option.bind (IA N c19.body.kids f7 s1_0 s1_1 p0.decls c19.body.op c19.body.num (Sh.len c19.params)) fun q20=>
   Option.bind (Sh.get (Sh.put l8 t6 (Ah.mk c19.params c19.result q20.1)) t6) fun c23=>
   Option.bind (HM N c23.body) fun q24=>
   if (decide (q24 < 0))=true then
    some (Sum.inl ((AN.mk [] []),false,q20.2))
   else
    Cb N s1_0 s1_1 p0 q3 n (Sh.w (t6+1)) q20.2 (Sh.put l8 t6 (Ah.mk c19.params c19.result q20.1))
  else
   some (Sum.inr (f7,l8))
def HT (N:Nat) (s0_0:Int) (s1_0:(List Ab)) (s1_1:(List Ah)) (p0:AN):Option (AN×Bool×Int):=
 Option.bind (F5 N p0) fun q3=>
 Sh.cont (Cb N s1_0 s1_1 p0 q3 N 0 s0_0 q3.funcs) (id) fun (f9,l10)=>
 some ((AN.mk q3.decls l10),true,f9)
def D5 (N:Nat) (p0:AN) (p1:Int):Option (AN×Bool):=
 Option.bind (EW N p0 p1) fun q4=>
 if (!q4)=true then
  some ((AN.mk [] []),false)
 else
  Option.bind (HT N p1 p0.decls p0.funcs p0) fun q10=>
  some (q10.1,q10.2.1)
def GV (N:Nat) (p0:AN) (p1:Int):Option (Bool):=
 Option.bind (HA N p0 1048576) fun q4=>
 if (decide (q4 < 0))=true then
  some true
 else
  Option.bind (E1 N p0) fun q10=>
  Option.bind (FK N q10 p1) fun q11=>
  Option.bind (E1 N p0) fun q13=>
  Option.bind (D5 N q13 p1) fun q15=>
  Option.bind (
   Option.bind (E0 N q15.1 q11.1) fun q87=>
   if (!q87)=true then
    some true
   else
    some (q15.2 != q11.2)
  ) fun t18=>
  if t18=true then
   some false
  else
   Option.bind (E1 N p0) fun q24=>
   Option.bind (E0 N q13 q24) fun q25=>
   if (!q25)=true then
    some false
   else
    Option.bind (Fa N q13.decls q13.funcs 1) fun q32=>
    Option.bind (
     if (decide (q32.1 < 0))=true then
      some true
     else
      Option.bind (E0 N q15.1 q11.1) fun q85=>
      if (!q85)=true then
       some true
      else
       some (q15.2 != q11.2)
    ) fun t37=>
    if t37=true then
     some false
    else
     Option.bind (Fa N q15.1.decls q15.1.funcs 1) fun q43=>
     Option.bind (FY N (AN.mk q43.2.1 q43.2.2) 1) fun q48=>
     if (decide (q48 < 0))=true then
      some false
     else
     if (!decide (q48=q43.1))=true then
      some false
     else
      Option.bind (E1 N p0) fun q60=>
      Option.bind (D5 N q60 p1) fun q61=>
      Option.bind (
       Option.bind (E0 N q61.1 q11.1) fun q82=>
       if (!q82)=true then
        some true
       else
        some (q61.2 != q11.2)
      ) fun t64=>
      if t64=true then
       some false
      else
       Option.bind (FY N (AN.mk q43.2.1 q43.2.2) 1) fun q70=>
       if (decide (q70 < 0))=true then
        some false
       else
       if (!decide (q70=q43.1))=true then
        some false
       else
        some true
end RC

