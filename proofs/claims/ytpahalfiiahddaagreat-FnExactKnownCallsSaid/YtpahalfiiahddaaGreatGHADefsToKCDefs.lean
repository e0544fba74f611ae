import Derived.Test.YtpahalfiiahddaaGreatGAbsXToSSDefs
import Derived.Test.YtpahalfiiahddaaGreatSufC
import Derived.Test.YtpahalfiiahddaaGreatSufF
namespace RC
def HD (p0:(List Int)) (p1:Int):Option (Int):=
 if (decide ((Sh.w (p1 - (Sh.len p0))) < 0))=true then
  some (-1)
 else
  some (Sh.w (p1 - (Sh.len p0)))
def Dz (p0:(List Int)):Nat→Int→(List Int)→Option ((List Int))
 | 0,_,_=>none
 | n+1,i6,l7=>
  if (decide (i6 < (Sh.len p0)))=true then
   Option.bind (Sh.get p0 i6) fun c15=>
   Option.bind (Sh.get l7 i6) fun c16=>
   Dz p0 n (Sh.w (i6+1)) (Sh.put l7 i6 c15)
  else
   some l7
def HC (N:Nat) (p0:(List Int)):Option ((List Int)):=
 Option.bind (Sh.mk 0 (Sh.len p0) 8) fun l3=>
 Option.bind (Dz p0 N 0 l3) fun l8=>
 some l8
def CJ (p0:Int) (p1:Int) (p2:Int):Option (Bool):=
 Option.bind (
  if (decide (p1≤p0))=true then
   some (decide (p0≤p2))
  else
   some false
 ) fun t3=>
 some t3
def Pz (p0:(List Int)):Nat→Int→Option ((Bool) ⊕ (Unit))
 | 0,_=>none
 | n+1,i4=>
  if (decide (i4 < (Sh.len p0)))=true then
   Option.bind (Sh.get p0 i4) fun c12=>
   if (!decide (c12=0))=true then
    some (Sum.inl false)
   else
    Pz p0 n (Sh.w (i4+1))
  else
   some (Sum.inr ())
def Bi (p0:(List Int)):Option ((List Int)):=
 Option.bind (Sh.app ([]:List Int) p0 8) fun l6=>
 some l6
def D2 (p0:(List Int)) (p1:(List Int)):Nat→Int→Option ((Bool) ⊕ (Unit))
 | 0,_=>none
 | n+1,i10=>
  if (decide (i10 < (Sh.len p0)))=true then
   Option.bind (Sh.get p0 i10) fun c18=>
   Option.bind (Sh.get p1 i10) fun c19=>
   if (!decide (c18=c19))=true then
    some (Sum.inl false)
   else
    D2 p0 p1 n (Sh.w (i10+1))
  else
   some (Sum.inr ())
def HH (N:Nat) (p0:(List Int)) (p1:(List Int)):Option (Bool):=
 if (!decide ((Sh.len p0)=(Sh.len p1)))=true then
  some false
 else
  Sh.cont (D2 p0 p1 N 0) (id) fun ()=>
  some true
end RC


namespace RC
def JO (p0:Ba) (p1:Int):Option (Int):=
 Option.bind (HD p0.fields p1) fun q3=>
 if (decide (q3 < 0))=true then
  some (-1)
 else
  some q3
def EY (p0:(List Ba)):Nat→Int→Int→Option ((Int) ⊕ (Int))
 | 0,_,_=>none
 | n+1,left9,i10=>
  if (decide (i10 < (Sh.len p0)))=true then
   Option.bind (Sh.get p0 i10) fun c19=>
   Option.bind (JO c19 left9) fun q20=>
   if (decide (q20 < 0))=true then
    some (Sum.inl (-1))
   else
    EY p0 n q20 (Sh.w (i10+1))
  else
   some (Sum.inr left9)
def IL (N:Nat) (p0:(List Ba)) (p1:Int):Option (Int):=
 if (decide ((Sh.w (p1 - (Sh.len p0))) < 0))=true then
  some (-1)
 else
  Sh.cont (EY p0 N (Sh.w (p1 - (Sh.len p0))) 0) (id) fun left11=>
  some left11
def IT (N:Nat) (p0:Ah) (p1:Int):Option (Int):=
 Option.bind (IL N p0.cons p1) fun q3=>
 if (decide (q3 < 0))=true then
  some (-1)
 else
  some q3
def EH (N:Nat) (p0:(List Ah)):Nat→Int→Int→Option ((Int) ⊕ (Int))
 | 0,_,_=>none
 | n+1,left9,i10=>
  if (decide (i10 < (Sh.len p0)))=true then
   Option.bind (Sh.get p0 i10) fun c19=>
   Option.bind (IT N c19 left9) fun q20=>
   if (decide (q20 < 0))=true then
    some (Sum.inl (-1))
   else
    EH N p0 n q20 (Sh.w (i10+1))
  else
   some (Sum.inr left9)
def He (N:Nat) (p0:(List Ah)) (p1:Int):Option (Int):=
 if (decide ((Sh.w (p1 - (Sh.len p0))) < 0))=true then
  some (-1)
 else
  Sh.cont (EH N p0 N (Sh.w (p1 - (Sh.len p0))) 0) (id) fun left11=>
  some left11
def JG (N:Nat) (p0:Ba):Option (Ba):=
 Option.bind (HC N p0.fields) fun q4=>
 some (Ba.mk q4)
def Ee (N:Nat) (p0:(List Ba)):Nat→Int→(List Ba)→Option ((List Ba))
 | 0,_,_=>none
 | n+1,i6,l7=>
  if (decide (i6 < (Sh.len p0)))=true then
   Option.bind (Sh.get p0 i6) fun c15=>
   Option.bind (JG N c15) fun q16=>
   Option.bind (Sh.get l7 i6) fun c17=>
   Ee N p0 n (Sh.w (i6+1)) (Sh.put l7 i6 q16)
  else
   some l7
def IJ (N:Nat) (p0:(List Ba)):Option ((List Ba)):=
 Option.bind (Sh.mk (Ba.mk []) (Sh.len p0) 24) fun l3=>
 Option.bind (Ee N p0 N 0 l3) fun l8=>
 some l8
def IG (N:Nat) (p0:Ah):Option (Ah):=
 Option.bind (IJ N p0.cons) fun q6=>
 some (Ah.mk p0.from_ p0.to q6)
def EF (N:Nat) (p0:(List Ah)):Nat→Int→(List Ah)→Option ((List Ah))
 | 0,_,_=>none
 | n+1,i6,l7=>
  if (decide (i6 < (Sh.len p0)))=true then
   Option.bind (Sh.get p0 i6) fun c15=>
   Option.bind (IG N c15) fun q16=>
   Option.bind (Sh.get l7 i6) fun c17=>
   EF N p0 n (Sh.w (i6+1)) (Sh.put l7 i6 q16)
  else
   some l7
def Hd (N:Nat) (p0:(List Ah)):Option ((List Ah)):=
 Option.bind (Sh.mk (Ah.mk 0 0 []) (Sh.len p0) 40) fun l3=>
 Option.bind (EF N p0 N 0 l3) fun l8=>
 some l8
def Dk (p0:(List Ah)) (p1:(List Int)):Nat→Int→Option ((Bool) ⊕ (Unit))
 | 0,_=>none
 | n+1,i4=>
  if (decide (i4 < (Sh.len p1)))=true then
   Option.bind (Sh.get p1 i4) fun c12=>
   Option.bind (CJ c12 0 (Sh.len p0)) fun q13=>
   if (!q13)=true then
    some (Sum.inl false)
   else
    Dk p0 p1 n (Sh.w (i4+1))
  else
   some (Sum.inr ())
def F7 (N:Nat) (p0:(List Ah)) (p1:(List Int)):Option (Bool):=
 Sh.cont (Dk p0 p1 N 0) (id) fun ()=>
 some true
def DR (N:Nat) (c3:Ah) (p0:(List Ah)):Nat→Int→Option ((Bool) ⊕ (Unit))
 | 0,_=>none
 | n+1,i15=>
  if (decide (i15 < (Sh.len c3.cons)))=true then
   Option.bind (
    Option.bind (Sh.get c3.cons i15) fun c27=>
    if (decide (3 < (Sh.len c27.fields)))=true then
     some true
    else
     Option.bind (F7 N p0 c27.fields) fun q29=>
     some (!q29)
   ) fun t23=>
   if t23=true then
    some (Sum.inl false)
   else
    DR N c3 p0 n (Sh.w (i15+1))
  else
   some (Sum.inr ())
def DP (c3:Ah) (p0:(List Ah)) (p1:Int):Nat→Int→Option ((Bool) ⊕ (Unit))
 | 0,_=>none
 | n+1,i34=>
  if (decide (i34 < p1))=true then
   Option.bind (
    Option.bind (Sh.get p0 i34) fun c51=>
    if (decide ((Sh.len c51.cons)=0))=true then
     if (decide (c51.from_=c3.from_))=true then
      some (decide (c51.to=c3.to))
     else
      some false
    else
     some false
   ) fun t47=>
   if t47=true then
    some (Sum.inl false)
   else
    DP c3 p0 p1 n (Sh.w (i34+1))
  else
   some (Sum.inr ())
def GX (N:Nat) (p0:(List Ah)) (p1:Int):Option (Bool):=
 Option.bind (Sh.get p0 p1) fun c3=>
 if (decide (0 < (Sh.len c3.cons)))=true then
  Option.bind (
   if (decide (3 < (Sh.len c3.cons)))=true then
    some true
   else
   if (!decide (c3.from_=0))=true then
    some true
   else
    some (!decide (c3.to=0))
  ) fun t9=>
  if t9=true then
   some false
  else
   Sh.cont (DR N c3 p0 N 0) (id) fun ()=>
   some true
 else
  Sh.cont (DP c3 p0 p1 N 0) (id) fun ()=>
  Option.bind (
   Option.bind (CJ c3.from_ 0 (Sh.len p0)) fun q39=>
   if q39=true then
    Option.bind (CJ c3.to 0 (Sh.len p0)) fun q41=>
    some q41
   else
    some false
  ) fun t37=>
  some t37
def DB (N:Nat) (p0:(List Ah)):Nat→Int→Option ((Bool) ⊕ (Unit))
 | 0,_=>none
 | n+1,i8=>
  if (decide (i8 < (Sh.len p0)))=true then
   Option.bind (GX N p0 i8) fun q16=>
   if (!q16)=true then
    some (Sum.inl false)
   else
    DB N p0 n (Sh.w (i8+1))
  else
   some (Sum.inr ())
def GA (N:Nat) (p0:(List Ah)):Option (Bool):=
 if (decide (4 < (Sh.len p0)))=true then
  some false
 else
  Sh.cont (DB N p0 N 0) (id) fun ()=>
  some true
def Cw (N:Nat) (p0:Ag):Nat→Int→Option ((Bool) ⊕ (Unit))
 | 0,_=>none
 | n+1,i10=>
  if (decide (i10 < (Sh.len p0.funcs)))=true then
   Option.bind (Sh.get p0.funcs i10) fun c22=>
   Option.bind (
    if (decide (3 < (Sh.len c22.params)))=true then
     some true
    else
     Option.bind (F7 N p0.decls c22.params) fun q29=>
     if (!q29)=true then
      some true
     else
      Option.bind (CJ c22.result 0 (Sh.len p0.decls)) fun q31=>
      some (!q31)
   ) fun t24=>
   if t24=true then
    some (Sum.inl false)
   else
    Cw N p0 n (Sh.w (i10+1))
  else
   some (Sum.inr ())
def Fb (N:Nat) (p0:Ag):Option (Bool):=
 Option.bind (
  Option.bind (GA N p0.decls) fun q32=>
  if (!q32)=true then
   some true
  else
   Option.bind (CJ (Sh.len p0.funcs) 1 4) fun q34=>
   some (!q34)
 ) fun t4=>
 if t4=true then
  some false
 else
  Sh.cont (Cw N p0 N 0) (id) fun ()=>
  Option.bind (
   Option.bind (Sh.get p0.funcs 0) fun c15=>
   if (decide ((Sh.len c15.params)=0))=true then
    some (decide (c15.result=0))
   else
    some false
  ) fun t13=>
  some t13
def DJ (p0:(List Ah)) (p1:Int):Nat→Int→Int→Option (Int)
 | 0,_,_=>none
 | n+1,n5,i6=>
  if (decide (i6 < p1))=true then
   Option.bind (Sh.get p0 i6) fun c14=>
   DJ p0 p1 n (Sh.w (n5+(Sh.len c14.cons))) (Sh.w (i6+1))
  else
   some n5
def FP (N:Nat) (p0:(List Ah)) (p1:Int):Option (Int):=
 Option.bind (DJ p0 p1 N 0 0) fun n7=>
 some n7
def Cf (N:Nat) (p0:(List Ah)) (p1:Int):Nat→Int→Option ((Int) ⊕ (Unit))
 | 0,_=>none
 | n+1,i4=>
  if (decide (i4 < (Sh.len p0)))=true then
   Option.bind (FP N p0 i4) fun q12=>
   Option.bind (Sh.get p0 i4) fun c14=>
   Option.bind (CJ p1 q12 (Sh.w ((Sh.w (q12+(Sh.len c14.cons))) - 1))) fun q15=>
   if q15=true then
    some (Sum.inl (Sh.w (i4+1)))
   else
    Cf N p0 p1 n (Sh.w (i4+1))
  else
   some (Sum.inr ())
def El (N:Nat) (p0:(List Ah)) (p1:Int):Option (Int):=
 Sh.cont (Cf N p0 p1 N 0) (id) fun ()=>
 some (-1)
def C4 (N:Nat) (p0:(List Ah)) (p1:Int):Option ((List Int)):=
 Option.bind (El N p0 p1) fun q3=>
 if (decide (q3 < 1))=true then
  some []
 else
  Option.bind (Sh.get p0 (Sh.w (q3 - 1))) fun c9=>
  Option.bind (FP N p0 (Sh.w (q3 - 1))) fun q10=>
  Option.bind (Sh.get c9.cons (Sh.w (p1 - q10))) fun c11=>
  some c11.fields
def D3 (N:Nat) (p0:(List Ah)) (p1:Int):Nat→Int→(List Int)→Option ((List Int))
 | 0,_,_=>none
 | n+1,i12,l13=>
  Option.bind (Sh.get p0 (Sh.w (p1 - 1))) fun c19=>
  if (decide (i12 < (Sh.len c19.cons)))=true then
   Option.bind (FP N p0 (Sh.w (p1 - 1))) fun q22=>
   Option.bind (Sh.app l13 [Sh.w (q22+i12)] 8) fun l23=>
   D3 N p0 p1 n (Sh.w (i12+1)) l23
  else
   some l13
def IX (N:Nat) (p0:(List Ah)) (p1:Int):Option ((List Int)):=
 Option.bind (CJ p1 1 (Sh.len p0)) fun q5=>
 if (!q5)=true then
  some []
 else
  Option.bind (D3 N p0 p1 N 0 []) fun l14=>
  some l14
def Fe (p0:(List Ah)) (p1:Int):Option (Bool):=
 Option.bind (
  if (decide (0≤p1))=true then
   some (decide (p1≤(Sh.len p0)))
  else
   some false
 ) fun t3=>
 some t3
def Dg (p0:(List Ah)) (p1:(List Int)):Nat→Int→Option ((Bool) ⊕ (Unit))
 | 0,_=>none
 | n+1,t4=>
  if (decide (t4 < (Sh.len p1)))=true then
   Option.bind (Sh.get p1 t4) fun c12=>
   Option.bind (Fe p0 c12) fun q14=>
   if (!q14)=true then
    some (Sum.inl false)
   else
    Dg p0 p1 n (Sh.w (t4+1))
  else
   some (Sum.inr ())
def FN (N:Nat) (p0:(List Ah)) (p1:(List Int)):Option (Bool):=
 Sh.cont (Dg p0 p1 N 0) (id) fun ()=>
 some true
def CZ (c16:Ah) (l28:(List Ah)):Nat→Int→Option ((Bool) ⊕ (Unit))
 | 0,_=>none
 | n+1,t29=>
  if (decide (t29 < (Sh.len l28)))=true then
   Option.bind (Sh.get l28 t29) fun c36=>
   Option.bind (
    if (decide ((Sh.len c16.cons)=0))=true then
     if (decide ((Sh.len c36.cons)=0))=true then
      if (decide (c36.from_=c16.from_))=true then
       some (decide (c36.to=c16.to))
      else
       some false
     else
      some false
    else
     some false
   ) fun t38=>
   if t38=true then
    some (Sum.inl false)
   else
    CZ c16 l28 n (Sh.w (t29+1))
  else
   some (Sum.inr ())
def Ca (N:Nat) (c16:Ah) (p0:(List Ah)):Nat→Int→Option ((Bool) ⊕ (Unit))
 | 0,_=>none
 | n+1,t25=>
  if (decide (t25 < (Sh.len c16.cons)))=true then
   Option.bind (Sh.get c16.cons t25) fun c50=>
   Option.bind (
    if (decide (3 < (Sh.len c50.fields)))=true then
     some true
    else
     Option.bind (FN N p0 c50.fields) fun q57=>
     some (!q57)
   ) fun t52=>
   if t52=true then
    some (Sum.inl false)
   else
    Ca N c16 p0 n (Sh.w (t25+1))
  else
   some (Sum.inr ())
def C9 (N:Nat) (p0:(List Ah)):Nat→Int→Option ((Bool) ⊕ (Unit))
 | 0,_=>none
 | n+1,t8=>
  if (decide (t8 < (Sh.len p0)))=true then
   Option.bind (Sh.get p0 t8) fun c16=>
   Option.bind (
    Option.bind (Fe p0 c16.from_) fun q58=>
    if (!q58)=true then
     some true
    else
     Option.bind (Fe p0 c16.to) fun q60=>
     if (!q60)=true then
      some true
     else
     if (decide (3 < (Sh.len c16.cons)))=true then
      some true
     else
     if (decide (0 < (Sh.len c16.cons)))=true then
      if (!decide (c16.from_=0))=true then
       some true
      else
       some (!decide (c16.to=0))
     else
      some false
   ) fun t19=>
   if t19=true then
    some (Sum.inl false)
   else
    Sh.cont (Ca N c16 p0 N 0) (fun x=>Sum.inl x) fun ()=>
    Option.bind (Sh.sl p0 0 t8) fun l28=>
    Sh.cont (CZ c16 l28 N 0) (fun x=>Sum.inl x) fun ()=>
    C9 N p0 n (Sh.w (t8+1))
  else
   some (Sum.inr ())
def GF (N:Nat) (p0:(List Ah)):Option (Bool):=
 if (decide (4 < (Sh.len p0)))=true then
  some false
 else
  Sh.cont (C9 N p0 N 0) (id) fun ()=>
  some true
def C0 (c18:BV):Nat→Int→Option ((Bool) ⊕ (Unit))
 | 0,_=>none
 | n+1,t26=>
  if (decide (t26 < (Sh.len c18.Ec)))=true then
   Option.bind (Sh.get c18.Ec t26) fun c33=>
   Option.bind (
    if (decide (c33 < 0))=true then
     some true
    else
    if (decide ((Sh.len c18.params)≤c33))=true then
     some true
    else
     Option.bind (Sh.get c18.params c33) fun c41=>
     if (decide (c41=0))=true then
      some true
     else
     if (decide (0 < t26))=true then
      Option.bind (Sh.get c18.Ec (Sh.w (t26 - 1))) fun c44=>
      some (decide (c33≤c44))
     else
      some false
   ) fun t35=>
   if t35=true then
    some (Sum.inl false)
   else
    C0 c18 n (Sh.w (t26+1))
  else
   some (Sum.inr ())
def Cz (N:Nat) (p0:(List Ah)) (p1:(List BV)):Nat→Int→Option ((Bool) ⊕ (Unit))
 | 0,_=>none
 | n+1,t10=>
  if (decide (t10 < (Sh.len p1)))=true then
   Option.bind (Sh.get p1 t10) fun c18=>
   Option.bind (
    if (decide (3 < (Sh.len c18.params)))=true then
     some true
    else
     Option.bind (FN N p0 c18.params) fun q46=>
     if (!q46)=true then
      some true
     else
      Option.bind (Fe p0 c18.result) fun q48=>
      some (!q48)
   ) fun t21=>
   if t21=true then
    some (Sum.inl false)
   else
    Sh.cont (C0 c18 N 0) (fun x=>Sum.inl x) fun ()=>
    Cz N p0 p1 n (Sh.w (t10+1))
  else
   some (Sum.inr ())
def GV (N:Nat) (p0:(List Ah)) (p1:(List BV)):Option (Bool):=
 Option.bind (
  Option.bind (GF N p0) fun q49=>
  if (!q49)=true then
   some true
  else
  if (decide ((Sh.len p1) < 1))=true then
   some true
  else
  if (decide (4 < (Sh.len p1)))=true then
   some true
  else
   Option.bind (Sh.get p1 0) fun c53=>
   if (decide (0 < (Sh.len c53.params)))=true then
    some true
   else
    some (!decide (c53.result=0))
 ) fun t4=>
 if t4=true then
  some false
 else
  Sh.cont (Cz N p0 p1 N 0) (id) fun ()=>
  some true
def DK (p0:(List Ah)):Nat→Int→Int→Option (Int)
 | 0,_,_=>none
 | n+1,n5,t6=>
  if (decide (t6 < (Sh.len p0)))=true then
   Option.bind (Sh.get p0 t6) fun c15=>
   DK p0 n (Sh.w (n5+(Sh.len c15.cons))) (Sh.w (t6+1))
  else
   some n5
def Gz (N:Nat) (p0:(List Ah)):Option (Int):=
 Option.bind (DK p0 N 0 0) fun n7=>
 some n7
def D0 (c14:Ah) (q10:Int):Nat→Int→(List Int)→Option ((List Int))
 | 0,_,_=>none
 | n+1,t15,l16=>
  if (decide (t15 < (Sh.len c14.cons)))=true then
   Option.bind (Sh.app l16 [Sh.w (q10+t15)] 8) fun l25=>
   D0 c14 q10 n (Sh.w (t15+1)) l25
  else
   some l16
def E6 (N:Nat) (p0:(List Ah)) (p1:Int):Option ((List Int)):=
 Option.bind (
  if (decide (p1 < 1))=true then
   some true
  else
   some (decide ((Sh.len p0) < p1))
 ) fun t4=>
 if t4=true then
  some []
 else
  Option.bind (Sh.sl p0 0 (Sh.w (p1 - 1))) fun l9=>
  Option.bind (Gz N l9) fun q10=>
  Option.bind (Sh.get p0 (Sh.w (p1 - 1))) fun c14=>
  Option.bind (D0 c14 q10 N 0 []) fun l17=>
  some l17
def Dw (p0:(List Ah)):Nat→Int→Int→Option ((Int×Ba) ⊕ (Unit))
 | 0,_,_=>none
 | n+1,c4,t5=>
  if (decide (t5 < (Sh.len p0)))=true then
   Option.bind (Sh.get p0 t5) fun c13=>
   Option.bind (
    if (decide (0≤c4))=true then
     some (decide (c4 < (Sh.len c13.cons)))
    else
     some false
   ) fun t16=>
   if t16=true then
    Option.bind (Sh.get c13.cons c4) fun c20=>
    some (Sum.inl (Sh.w (t5+1),c20))
   else
    Dw p0 n (Sh.w (c4 - (Sh.len c13.cons))) (Sh.w (t5+1))
  else
   some (Sum.inr ())
def GH (N:Nat) (p0:(List Ah)) (p1:Int):Option (Int×Ba):=
 Sh.cont (Dw p0 N p1 0) (id) fun ()=>
 some (-1,(Ba.mk []))
def C6 (N:Nat) (p0:(List Ah)) (p1:Int):Option ((List Int)):=
 Option.bind (GH N p0 p1) fun q3=>
 some q3.2.fields
def JN (N:Nat) (p0:Ba) (p1:Ba):Option (Bool):=
 Option.bind (HH N p0.fields p1.fields) fun q4=>
 if (!q4)=true then
  some false
 else
  some true
def Eb (N:Nat) (p0:(List Ba)) (p1:(List Ba)):Nat→Int→Option ((Bool) ⊕ (Unit))
 | 0,_=>none
 | n+1,i10=>
  if (decide (i10 < (Sh.len p0)))=true then
   Option.bind (Sh.get p0 i10) fun c18=>
   Option.bind (Sh.get p1 i10) fun c19=>
   Option.bind (JN N c18 c19) fun q20=>
   if (!q20)=true then
    some (Sum.inl false)
   else
    Eb N p0 p1 n (Sh.w (i10+1))
  else
   some (Sum.inr ())
def IV (N:Nat) (p0:(List Ba)) (p1:(List Ba)):Option (Bool):=
 if (!decide ((Sh.len p0)=(Sh.len p1)))=true then
  some false
 else
  Sh.cont (Eb N p0 p1 N 0) (id) fun ()=>
  some true
def H6 (N:Nat) (p0:Ah) (p1:Ah):Option (Bool):=
 if (!decide (p0.from_=p1.from_))=true then
  some false
 else
 if (!decide (p0.to=p1.to))=true then
  some false
 else
  Option.bind (IV N p0.cons p1.cons) fun q16=>
  if (!q16)=true then
   some false
  else
   some true
def ED (N:Nat) (p0:(List Ah)) (p1:(List Ah)):Nat→Int→Option ((Bool) ⊕ (Unit))
 | 0,_=>none
 | n+1,i10=>
  if (decide (i10 < (Sh.len p0)))=true then
   Option.bind (Sh.get p0 i10) fun c18=>
   Option.bind (Sh.get p1 i10) fun c19=>
   Option.bind (H6 N c18 c19) fun q20=>
   if (!q20)=true then
    some (Sum.inl false)
   else
    ED N p0 p1 n (Sh.w (i10+1))
  else
   some (Sum.inr ())
def HU (N:Nat) (p0:(List Ah)) (p1:(List Ah)):Option (Bool):=
 if (!decide ((Sh.len p0)=(Sh.len p1)))=true then
  some false
 else
  Sh.cont (ED N p0 p1 N 0) (id) fun ()=>
  some true
end RC


namespace RC
end RC


namespace RC
def Dc (p0:(List AK)) (rec_laws_szExpr:AK→Int→Option (Int)):Nat→Int→Int→Option ((Int) ⊕ (Int))
 | 0,_,_=>none
 | n+1,left9,i10=>
  if (decide (i10 < (Sh.len p0)))=true then
   Option.bind (Sh.get p0 i10) fun c19=>
   Option.bind (rec_laws_szExpr c19 left9) fun q20=>
   if (decide (q20 < 0))=true then
    some (Sum.inl (-1))
   else
    Dc p0 rec_laws_szExpr n q20 (Sh.w (i10+1))
  else
   some (Sum.inr left9)
def Hc (N:Nat) (rec_laws_szExpr:AK→Int→Option (Int)) (p0:(List AK)) (p1:Int):Option (Int):=
 if (decide ((Sh.w (p1 - (Sh.len p0))) < 0))=true then
  some (-1)
 else
  Sh.cont (Dc p0 rec_laws_szExpr N (Sh.w (p1 - (Sh.len p0))) 0) (id) fun left11=>
  some left11
def H5 (N:Nat) (rec_laws_szExpr:AK→Int→Option (Int)) (p0:AK) (p1:Int):Option (Int):=
 Option.bind (Hc N rec_laws_szExpr p0.kids p1) fun q3=>
 if (decide (q3 < 0))=true then
  some (-1)
 else
  some q3
def GB (N:Nat):Nat→AK→Int→Option (Int)
 | 0,_,_=>none
 | n+1,p0,p1=>H5 N (GB N n) p0 p1
def Ji (N:Nat) (p0:AK) (p1:Int):Option (Int):=GB N N p0 p1
def Ih (N:Nat) (p0:Av) (p1:Int):Option (Int):=
 Option.bind (HD p0.params p1) fun q3=>
 if (decide (q3 < 0))=true then
  some (-1)
 else
  Option.bind (Ji N p0.body q3) fun q9=>
  if (decide (q9 < 0))=true then
   some (-1)
  else
   some q9
def EJ (N:Nat) (p0:(List Av)):Nat→Int→Int→Option ((Int) ⊕ (Int))
 | 0,_,_=>none
 | n+1,left9,i10=>
  if (decide (i10 < (Sh.len p0)))=true then
   Option.bind (Sh.get p0 i10) fun c19=>
   Option.bind (Ih N c19 left9) fun q20=>
   if (decide (q20 < 0))=true then
    some (Sum.inl (-1))
   else
    EJ N p0 n q20 (Sh.w (i10+1))
  else
   some (Sum.inr left9)
def Hf (N:Nat) (p0:(List Av)) (p1:Int):Option (Int):=
 if (decide ((Sh.w (p1 - (Sh.len p0))) < 0))=true then
  some (-1)
 else
  Sh.cont (EJ N p0 N (Sh.w (p1 - (Sh.len p0))) 0) (id) fun left11=>
  some left11
def Gh (N:Nat) (p0:Ag) (p1:Int):Option (Int):=
 Option.bind (He N p0.decls p1) fun q3=>
 if (decide (q3 < 0))=true then
  some (-1)
 else
  Option.bind (Hf N p0.funcs q3) fun q9=>
  if (decide (q9 < 0))=true then
   some (-1)
  else
   some q9
def D6 (p0:(List AK)) (rec_laws_toExpr:AK→Option (AK)):Nat→Int→(List AK)→Option ((List AK))
 | 0,_,_=>none
 | n+1,i6,l7=>
  if (decide (i6 < (Sh.len p0)))=true then
   Option.bind (Sh.get p0 i6) fun c15=>
   Option.bind (rec_laws_toExpr c15) fun q16=>
   Option.bind (Sh.get l7 i6) fun c17=>
   D6 p0 rec_laws_toExpr n (Sh.w (i6+1)) (Sh.put l7 i6 q16)
  else
   some l7
def I8 (N:Nat) (rec_laws_toExpr:AK→Option (AK)) (p0:(List AK)):Option ((List AK)):=
 Option.bind (Sh.mk (AK.mk 0 0 []) (Sh.len p0) 40) fun l3=>
 Option.bind (D6 p0 rec_laws_toExpr N 0 l3) fun l8=>
 some l8
def IC (N:Nat) (rec_laws_toExpr:AK→Option (AK)) (p0:AK):Option (AK):=
 Option.bind (I8 N rec_laws_toExpr p0.kids) fun q6=>
 some (AK.mk p0.op p0.num q6)
def FO (N:Nat):Nat→AK→Option (AK)
 | 0,_=>none
 | n+1,p0=>IC N (FO N n) p0
def Jm (N:Nat) (p0:AK):Option (AK):=FO N N p0
def IW (N:Nat) (p0:Av):Option (Av):=
 Option.bind (HC N p0.params) fun q4=>
 Option.bind (Jm N p0.body) fun q7=>
 some (Av.mk q4 p0.result q7)
def EI (N:Nat) (p0:(List Av)):Nat→Int→(List Av)→Option ((List Av))
 | 0,_,_=>none
 | n+1,i6,l7=>
  if (decide (i6 < (Sh.len p0)))=true then
   Option.bind (Sh.get p0 i6) fun c15=>
   Option.bind (IW N c15) fun q16=>
   Option.bind (Sh.get l7 i6) fun c17=>
   EI N p0 n (Sh.w (i6+1)) (Sh.put l7 i6 q16)
  else
   some l7
def HY (N:Nat) (p0:(List Av)):Option ((List Av)):=
 Option.bind (Sh.mk (Av.mk [] 0 (AK.mk 0 0 [])) (Sh.len p0) 72) fun l3=>
 Option.bind (EI N p0 N 0 l3) fun l8=>
 some l8
def EZ (N:Nat) (p0:Ag):Option (Ag):=
 Option.bind (Hd N p0.decls) fun q4=>
 Option.bind (HY N p0.funcs) fun q6=>
 some (Ag.mk q4 q6)
def CS (p0:AK) (rec_spec_nodesLeft:AK→Int→Option (Int)):Nat→Int→Int→Option ((Int) ⊕ (Int))
 | 0,_,_=>none
 | n+1,left9,i10=>
  if (decide (i10 < (Sh.len p0.kids)))=true then
   Option.bind (Sh.get p0.kids i10) fun c19=>
   Option.bind (rec_spec_nodesLeft c19 left9) fun q20=>
   if (decide (q20 < 0))=true then
    some (Sum.inl (-1))
   else
    CS p0 rec_spec_nodesLeft n q20 (Sh.w (i10+1))
  else
   some (Sum.inr left9)
def Gr (N:Nat) (rec_spec_nodesLeft:AK→Int→Option (Int)) (p0:AK) (p1:Int):Option (Int):=
 if (decide (p1 < 1))=true then
  some (-1)
 else
  Sh.cont (CS p0 rec_spec_nodesLeft N (Sh.w (p1 - 1)) 0) (id) fun left11=>
  some left11
def Di (N:Nat):Nat→AK→Int→Option (Int)
 | 0,_,_=>none
 | n+1,p0,p1=>Gr N (Di N n) p0 p1
def JU (N:Nat) (p0:AK) (p1:Int):Option (Int):=Di N N p0 p1
def Gl (N:Nat) (p0:AK):Option (Int):=
 Option.bind (JU N p0 30) fun q3=>
 if (decide (q3 < 0))=true then
  some (-1)
 else
  some (Sh.w (30 - q3))
def EC (p0:Ag) (p1:(List Int)) (p2:(List AK)) (p3:Int) (rec_spec_typeOf:Ag→(List Int)→AK→Option (Int)):Nat→Int→Option ((Bool) ⊕ (Unit))
 | 0,_=>none
 | n+1,i10=>
  if (decide (i10 < p3))=true then
   Option.bind (Sh.get p2 i10) fun c18=>
   Option.bind (rec_spec_typeOf p0 p1 c18) fun q19=>
   if (!decide (q19=0))=true then
    some (Sum.inl false)
   else
    EC p0 p1 p2 p3 rec_spec_typeOf n (Sh.w (i10+1))
  else
   some (Sum.inr ())
def Gj (N:Nat) (rec_spec_typeOf:Ag→(List Int)→AK→Option (Int)) (p0:Ag) (p1:(List Int)) (p2:(List AK)) (p3:Int):Option (Bool):=
 if (!decide ((Sh.len p2)=p3))=true then
  some false
 else
  Sh.cont (EC p0 p1 p2 p3 rec_spec_typeOf N 0) (id) fun ()=>
  some true
def Et (p0:Ag) (p1:(List Int)) (p2:(List AK)) (p3:(List Int)) (rec_spec_typeOf:Ag→(List Int)→AK→Option (Int)):Nat→Int→Option ((Bool) ⊕ (Unit))
 | 0,_=>none
 | n+1,i10=>
  if (decide (i10 < (Sh.len p3)))=true then
   Option.bind (Sh.get p2 i10) fun c18=>
   Option.bind (rec_spec_typeOf p0 p1 c18) fun q19=>
   Option.bind (Sh.get p3 i10) fun c20=>
   if (!decide (q19=c20))=true then
    some (Sum.inl false)
   else
    Et p0 p1 p2 p3 rec_spec_typeOf n (Sh.w (i10+1))
  else
   some (Sum.inr ())
def G8 (N:Nat) (rec_spec_typeOf:Ag→(List Int)→AK→Option (Int)) (p0:Ag) (p1:(List Int)) (p2:(List AK)) (p3:(List Int)):Option (Bool):=
 if (!decide ((Sh.len p2)=(Sh.len p3)))=true then
  some false
 else
  Sh.cont (Et p0 p1 p2 p3 rec_spec_typeOf N 0) (id) fun ()=>
  some true
def Du (p0:(List Int)):Option ((List Int)):=
 Option.bind (Sh.app ([]:List Int) p0 8) fun l3=>
 some l3
def Fm (p0:(List Int)) (p1:(List Int)):Option ((List Int)):=
 Option.bind (Du p0) fun q3=>
 Option.bind (Sh.app q3 p1 8) fun l4=>
 some l4
def C2 (N:Nat) (p0:Ag) (p1:(List Int)) (p2:AK) (q15:Int) (q3:(List Int)) (rec_spec_typeOf:Ag→(List Int)→AK→Option (Int)):Nat→Int→Option ((Int) ⊕ (Unit))
 | 0,_=>none
 | n+1,i18=>
  if (decide (i18 < (Sh.len q3)))=true then
   Option.bind (Sh.get q3 i18) fun c26=>
   Option.bind (C4 N p0.decls c26) fun q27=>
   Option.bind (Fm p1 q27) fun q28=>
   Option.bind (Sh.get p2.kids (Sh.w (1+i18))) fun c29=>
   Option.bind (rec_spec_typeOf p0 q28 c29) fun q30=>
   if (!decide (q30=q15))=true then
    some (Sum.inl (-1))
   else
    C2 N p0 p1 p2 q15 q3 rec_spec_typeOf n (Sh.w (i18+1))
  else
   some (Sum.inr ())
def Hk (N:Nat) (rec_spec_typeOf:Ag→(List Int)→AK→Option (Int)) (p0:Ag) (p1:(List Int)) (p2:AK):Option (Int):=
 Option.bind (IX N p0.decls p2.num) fun q3=>
 Option.bind (
  if (decide ((Sh.len q3)=0))=true then
   some true
  else
  if (!decide ((Sh.len p2.kids)=(Sh.w (1+(Sh.len q3)))))=true then
   some true
  else
   Option.bind (Sh.get p2.kids 0) fun c37=>
   Option.bind (rec_spec_typeOf p0 p1 c37) fun q38=>
   some (!decide (q38=p2.num))
 ) fun t6=>
 if t6=true then
  some (-1)
 else
  Option.bind (Sh.get q3 0) fun c11=>
  Option.bind (C4 N p0.decls c11) fun q12=>
  Option.bind (Fm p1 q12) fun q13=>
  Option.bind (Sh.get p2.kids 1) fun c14=>
  Option.bind (rec_spec_typeOf p0 q13 c14) fun q15=>
  Sh.cont (C2 N p0 p1 p2 q15 q3 rec_spec_typeOf N 1) (id) fun ()=>
  some q15
def DY (p0:(List Ah)) (p1:Int) (p2:Int):Nat→Int→Option ((Int) ⊕ (Unit))
 | 0,_=>none
 | n+1,i4=>
  if (decide (i4 < (Sh.len p0)))=true then
   Option.bind (
    Option.bind (Sh.get p0 i4) fun c16=>
    if (decide ((Sh.len c16.cons)=0))=true then
     if (decide (c16.from_=p1))=true then
      some (decide (c16.to=p2))
     else
      some false
    else
     some false
   ) fun t12=>
   if t12=true then
    some (Sum.inl (Sh.w (i4+1)))
   else
    DY p0 p1 p2 n (Sh.w (i4+1))
  else
   some (Sum.inr ())
def Hg (N:Nat) (p0:(List Ah)) (p1:Int) (p2:Int):Option (Int):=
 Sh.cont (DY p0 p1 p2 N 0) (id) fun ()=>
 some (-1)
def Ex (N:Nat) (rec_spec_typeOf:Ag→(List Int)→AK→Option (Int)) (p0:Ag) (p1:(List Int)) (p2:AK):Option (Int):=
 Option.bind (CJ p2.num 0 (Sh.w ((Sh.len p0.funcs) - 1))) fun q4=>
 if (!q4)=true then
  some (-1)
 else
  Option.bind (Sh.get p0.funcs p2.num) fun c10=>
  if (decide (p2.op=9))=true then
   Option.bind (G8 N rec_spec_typeOf p0 p1 p2.kids c10.params) fun q17=>
   if (!q17)=true then
    some (-1)
   else
    some c10.result
  else
   Option.bind (
    if (decide ((Sh.len c10.params)=0))=true then
     some true
    else
     Option.bind (Sh.sl c10.params 0 (Sh.w ((Sh.len c10.params) - 1))) fun l33=>
     Option.bind (G8 N rec_spec_typeOf p0 p1 p2.kids l33) fun q34=>
     some (!q34)
   ) fun t25=>
   if t25=true then
    some (-1)
   else
    Option.bind (Sh.get c10.params (Sh.w ((Sh.len c10.params) - 1))) fun c30=>
    Option.bind (Hg N p0.decls c30 c10.result) fun q31=>
    some q31
def HT (p0:(List Ah)) (p1:Int):Option (Bool):=
 Option.bind (
  Option.bind (CJ p1 1 (Sh.len p0)) fun q5=>
  if q5=true then
   Option.bind (Sh.get p0 (Sh.w (p1 - 1))) fun c7=>
   some (decide ((Sh.len c7.cons)=0))
  else
   some false
 ) fun t3=>
 some t3
def Bd (N:Nat) (rec_spec_typeOf:Ag→(List Int)→AK→Option (Int)) (p0:Ag) (p1:(List Int)) (p2:AK):Option (Int):=
 Sh.cont (
  if (decide (p2.op=0))=true then
   Option.bind (
    if (decide ((Sh.len p2.kids)=0))=true then
     Option.bind (CJ p2.num (-999) 999) fun q15=>
     some q15
    else
     some false
   ) fun t10=>
   if t10=true then
    some (Sum.inl 0)
   else
    some (Sum.inr ())
  else
  if (decide (p2.op=12))=true then
   Option.bind (
    if (decide ((Sh.len p2.kids)=0))=true then
     Option.bind (CJ p2.num 0 (Sh.w ((Sh.len p1) - 1))) fun q25=>
     some q25
    else
     some false
   ) fun t19=>
   if t19=true then
    Option.bind (Sh.get p1 p2.num) fun c23=>
    some (Sum.inl c23)
   else
    some (Sum.inr ())
  else
   Option.bind (
    if (decide (p2.op=1))=true then
     some true
    else
    if (decide (p2.op=2))=true then
     some true
    else
    if (decide (p2.op=3))=true then
     some true
    else
     some (decide (p2.op=4))
   ) fun t27=>
   if t27=true then
    Option.bind (
     if (decide (p2.num=0))=true then
      Option.bind (Gj N rec_spec_typeOf p0 p1 p2.kids 2) fun q36=>
      some q36
     else
      some false
    ) fun t31=>
    if t31=true then
     some (Sum.inl 0)
    else
     some (Sum.inr ())
   else
   if (decide (p2.op=5))=true then
    Option.bind (
     if (decide (p2.num=0))=true then
      Option.bind (Gj N rec_spec_typeOf p0 p1 p2.kids 1) fun q45=>
      some q45
     else
      some false
    ) fun t40=>
    if t40=true then
     some (Sum.inl 0)
    else
     some (Sum.inr ())
   else
   if (decide (p2.op=6))=true then
    Option.bind (
     Option.bind (El N p0.decls p2.num) fun q54=>
     if (decide (0 < q54))=true then
      Option.bind (C4 N p0.decls p2.num) fun q56=>
      Option.bind (G8 N rec_spec_typeOf p0 p1 p2.kids q56) fun q57=>
      some q57
     else
      some false
    ) fun t49=>
    if t49=true then
     Option.bind (El N p0.decls p2.num) fun q53=>
     some (Sum.inl q53)
    else
     some (Sum.inr ())
   else
   if (decide (p2.op=13))=true then
    Option.bind (
     if (decide (p2.num=0))=true then
      some (decide ((Sh.len p2.kids)=2))
     else
      some false
    ) fun t61=>
    if t61=true then
     Option.bind (Sh.get p2.kids 0) fun c65=>
     Option.bind (rec_spec_typeOf p0 p1 c65) fun q66=>
     if (decide (0≤q66))=true then
      Option.bind (Fm p1 [q66]) fun q70=>
      Option.bind (Sh.get p2.kids 1) fun c71=>
      Option.bind (rec_spec_typeOf p0 q70 c71) fun q72=>
      some (Sum.inl q72)
     else
      some (Sum.inr ())
    else
     some (Sum.inr ())
   else
   if (decide (p2.op=7))=true then
    Option.bind (
     if (decide (p2.num=0))=true then
      if (decide ((Sh.len p2.kids)=3))=true then
       Option.bind (Sh.get p2.kids 0) fun c90=>
       Option.bind (rec_spec_typeOf p0 p1 c90) fun q91=>
       some (decide (q91=0))
      else
       some false
     else
      some false
    ) fun t77=>
    if t77=true then
     Option.bind (Sh.get p2.kids 1) fun c81=>
     Option.bind (rec_spec_typeOf p0 p1 c81) fun q82=>
     Option.bind (Sh.get p2.kids 2) fun c84=>
     Option.bind (rec_spec_typeOf p0 p1 c84) fun q85=>
     if (decide (q85=q82))=true then
      some (Sum.inl q82)
     else
      some (Sum.inr ())
    else
     some (Sum.inr ())
   else
   if (decide (p2.op=8))=true then
    Option.bind (Hk N rec_spec_typeOf p0 p1 p2) fun q95=>
    some (Sum.inl q95)
   else
    Option.bind (
     if (decide (p2.op=9))=true then
      some true
     else
      some (decide (p2.op=10))
    ) fun t97=>
    if t97=true then
     Option.bind (Ex N rec_spec_typeOf p0 p1 p2) fun q101=>
     some (Sum.inl q101)
    else
    if (decide (p2.op=11))=true then
     Option.bind (
      if (decide (p2.num=0))=true then
       some (decide ((Sh.len p2.kids)=2))
      else
       some false
     ) fun t105=>
     if t105=true then
      Option.bind (Sh.get p2.kids 0) fun c109=>
      Option.bind (rec_spec_typeOf p0 p1 c109) fun q110=>
      Option.bind (
       Option.bind (HT p0.decls q110) fun q117=>
       if q117=true then
        Option.bind (Sh.get p2.kids 1) fun c119=>
        Option.bind (rec_spec_typeOf p0 p1 c119) fun q120=>
        Option.bind (Sh.get p0.decls (Sh.w (q110 - 1))) fun c121=>
        some (decide (q120=c121.from_))
       else
        some false
      ) fun t112=>
      if t112=true then
       Option.bind (Sh.get p0.decls (Sh.w (q110 - 1))) fun c116=>
       some (Sum.inl c116.to)
      else
       some (Sum.inr ())
     else
      some (Sum.inr ())
    else
     some (Sum.inr ())
 ) (id) fun ()=>
 some (-1)
def Ch (N:Nat):Nat→Ag→(List Int)→AK→Option (Int)
 | 0,_,_,_=>none
 | n+1,p0,p1,p2=>Bd N (Ch N n) p0 p1 p2
def Jh (N:Nat) (p0:Ag) (p1:(List Int)) (p2:AK):Option (Int):=Ch N N p0 p1 p2
def By (N:Nat) (p0:Ag):Nat→Int→Option ((Bool) ⊕ (Unit))
 | 0,_=>none
 | n+1,i11=>
  if (decide (i11 < (Sh.len p0.funcs)))=true then
   Option.bind (
    Option.bind (Sh.get p0.funcs i11) fun c23=>
    Option.bind (Gl N c23.body) fun q24=>
    if (decide (q24 < 0))=true then
     some true
    else
     Option.bind (Jh N p0 c23.params c23.body) fun q26=>
     some (!decide (q26=c23.result))
   ) fun t19=>
   if t19=true then
    some (Sum.inl false)
   else
    By N p0 n (Sh.w (i11+1))
  else
   some (Sum.inr ())
def Cv (N:Nat) (p0:Ag):Option (Bool):=
 Option.bind (Fb N p0) fun q4=>
 if (!q4)=true then
  some false
 else
  Sh.cont (By N p0 N 0) (id) fun ()=>
  some true
def CX (p0:Ag):Nat→Int→(List BV)→Option ((List BV))
 | 0,_,_=>none
 | n+1,t9,l10=>
  if (decide (t9 < (Sh.len p0.funcs)))=true then
   Option.bind (Sh.get p0.funcs t9) fun c20=>
   Option.bind (Sh.app l10 ([(BV.mk c20.params [] c20.result)]) 56) fun l21=>
   CX p0 n (Sh.w (t9+1)) l21
  else
   some l10
def Fc (N:Nat) (p0:Ag):Option (Bool):=
 if (decide (4 < (Sh.len p0.funcs)))=true then
  some false
 else
  Option.bind (CX p0 N 0 []) fun l11=>
  Option.bind (GV N p0.decls l11) fun q14=>
  some q14
def CF (p0:AK) (rec_impl_countNodes:Int→AK→Option (Bool×Int)):Nat→Int→Int→Option ((Bool×Int) ⊕ (Int))
 | 0,_,_=>none
 | n+1,t9,f10=>
  if (decide (t9 < (Sh.len p0.kids)))=true then
   Option.bind (Sh.get p0.kids t9) fun c19=>
   Option.bind (rec_impl_countNodes f10 c19) fun q21=>
   if (!q21.1)=true then
    some (Sum.inl (false,q21.2))
   else
    CF p0 rec_impl_countNodes n (Sh.w (t9+1)) q21.2
  else
   some (Sum.inr f10)
def GN (N:Nat) (rec_impl_countNodes:Int→AK→Option (Bool×Int)) (s0_0:Int) (p0:AK):Option (Bool×Int):=
 if (decide (30 < (Sh.w (s0_0+1))))=true then
  some (false,Sh.w (s0_0+1))
 else
  Sh.cont (CF p0 rec_impl_countNodes N 0 (Sh.w (s0_0+1))) (id) fun f11=>
  some (true,f11)
def DU (N:Nat):Nat→Int→AK→Option (Bool×Int)
 | 0,_,_=>none
 | n+1,s0_0,p0=>GN N (DU N n) s0_0 p0
def Is (N:Nat) (s0_0:Int) (p0:AK):Option (Bool×Int):=DU N N s0_0 p0
def Gi (N:Nat) (p0:AK):Option (Int):=
 Option.bind (Is N 0 p0) fun q5=>
 if (!q5.1)=true then
  some (-1)
 else
  some q5.2
def D1 (p0:Ag):Nat→Int→(List BV)→Option ((List BV))
 | 0,_,_=>none
 | n+1,t5,l6=>
  if (decide (t5 < (Sh.len p0.funcs)))=true then
   Option.bind (Sh.get p0.funcs t5) fun c15=>
   Option.bind (Sh.app l6 ([(BV.mk c15.params [] c15.result)]) 56) fun l16=>
   D1 p0 n (Sh.w (t5+1)) l16
  else
   some l6
def IA (N:Nat) (p0:Ag):Option (BH):=
 Option.bind (D1 p0 N 0 []) fun l7=>
 some (BH.mk p0.decls l7)
def Eu (p1:Int):Option ((List Int)):=
 if (decide (p1 < 0))=true then
  none
 else
  Option.bind (
   if (decide (0 < (Sh.w (p1 - (Sh.w (0 - 0))))))=true then
    Option.bind (Sh.mk 0 (Sh.w (p1 - (Sh.w (0 - 0)))) 8) fun l12=>
    Option.bind (Sh.hi l12 0) fun l13=>
    some l13
   else
    some []
  ) fun l6=>
  some l6
def Bw (p0:(List (List Int))):Nat→Int→(List Int)→Option ((List Int))
 | 0,_,_=>none
 | n+1,t13,l14=>
  if (decide (t13 < (Sh.len p0)))=true then
   Option.bind (Sh.get p0 t13) fun c23=>
   Option.bind (Sh.app l14 c23 8) fun l24=>
   Bw p0 n (Sh.w (t13+1)) l24
  else
   some l14
def Bv (p0:(List (List Int))):Nat→Int→Int→Option (Int)
 | 0,_,_=>none
 | n+1,size5,t6=>
  if (decide (t6 < (Sh.len p0)))=true then
   Option.bind (Sh.get p0 t6) fun c30=>
   if (decide ((Sh.w (size5+(Sh.len c30))) < 0))=true then
    none
   else
    Bv p0 n (Sh.w (size5+(Sh.len c30))) (Sh.w (t6+1))
  else
   some size5
def EX (N:Nat) (p0:(List (List Int))):Option ((List Int)):=
 Option.bind (Bv p0 N 0 0) fun size7=>
 Option.bind (Eu size7) fun q10=>
 Option.bind (Bw p0 N 0 q10) fun l15=>
 some l15
def BO (N:Nat) (p0:BH) (p1:(List Int)) (p2:(List AK)) (p3:(List (List Int))) (rec_impl_signatures_typeOf:(List Int)→BH→AK→Option (Int)):Nat→Int→Int→Option ((Int) ⊕ (Int))
 | 0,_,_=>none
 | n+1,result5,t6=>
  if (decide (t6 < (Sh.len p2)))=true then
   Option.bind (Sh.get p2 t6) fun c15=>
   Option.bind (Sh.get p3 t6) fun c17=>
   Option.bind (EX N [p1,c17]) fun q18=>
   Option.bind (rec_impl_signatures_typeOf q18 p0 c15) fun q19=>
   Option.bind (
    if (decide (q19 < 0))=true then
     some true
    else
    if (decide (0 < t6))=true then
     some (!decide (q19=result5))
    else
     some false
   ) fun t23=>
   if t23=true then
    some (Sum.inl (-1))
   else
    BO N p0 p1 p2 p3 rec_impl_signatures_typeOf n q19 (Sh.w (t6+1))
  else
   some (Sum.inr result5)
def C7 (N:Nat) (rec_impl_signatures_typeOf:(List Int)→BH→AK→Option (Int)) (p0:BH) (p1:(List Int)) (p2:(List AK)) (p3:(List (List Int))):Option (Int):=
 Sh.cont (BO N p0 p1 p2 p3 rec_impl_signatures_typeOf N (-1) 0) (id) fun result7=>
 some result7
def HZ (p0:(List Ah)) (p1:Int):Option (Ah×Bool):=
 Option.bind (
  if (decide (p1 < 1))=true then
   some true
  else
  if (decide ((Sh.len p0) < p1))=true then
   some true
  else
   Option.bind (Sh.get p0 (Sh.w (p1 - 1))) fun c12=>
   some (decide (0 < (Sh.len c12.cons)))
 ) fun t4=>
 if t4=true then
  some ((Ah.mk 0 0 []),false)
 else
  Option.bind (Sh.get p0 (Sh.w (p1 - 1))) fun c9=>
  some (c9,true)
def CC (p0:(List Int)) (p1:(List Int)):Nat→Int→Option ((Bool) ⊕ (Unit))
 | 0,_=>none
 | n+1,t10=>
  if (decide (t10 < (Sh.len p0)))=true then
   Option.bind (Sh.get p0 t10) fun c19=>
   Option.bind (Sh.get p1 t10) fun c20=>
   if (!decide (c19=c20))=true then
    some (Sum.inl false)
   else
    CC p0 p1 n (Sh.w (t10+1))
  else
   some (Sum.inr ())
def CG (N:Nat) (p0:(List Int)) (p1:(List Int)):Option (Bool):=
 if (!decide ((Sh.len p0)=(Sh.len p1)))=true then
  some false
 else
  Sh.cont (CC p0 p1 N 0) (id) fun ()=>
  some true
def Dd (p0:(List Ah)) (p1:Int) (p2:Int):Nat→Int→Option ((Int) ⊕ (Unit))
 | 0,_=>none
 | n+1,t4=>
  if (decide (t4 < (Sh.len p0)))=true then
   Option.bind (Sh.get p0 t4) fun c12=>
   Option.bind (
    if (decide ((Sh.len c12.cons)=0))=true then
     if (decide (c12.from_=p1))=true then
      some (decide (c12.to=p2))
     else
      some false
    else
     some false
   ) fun t14=>
   if t14=true then
    some (Sum.inl (Sh.w (t4+1)))
   else
    Dd p0 p1 p2 n (Sh.w (t4+1))
  else
   some (Sum.inr ())
def HR (N:Nat) (p0:(List Ah)) (p1:Int) (p2:Int):Option (Int):=
 Sh.cont (Dd p0 p1 p2 N 0) (id) fun ()=>
 some (-1)
def A6 (N:Nat) (p0:BH) (p1:Int) (p2:Int) (p3:(List Int)):Option (Int×Bool):=
 Sh.cont (
  if (decide (p1=0))=true then
   Option.bind (
    if (decide ((-999)≤p2))=true then
     if (decide (p2≤999))=true then
      some (decide ((Sh.len p3)=0))
     else
      some false
    else
     some false
   ) fun t15=>
   some (Sum.inl (0,t15))
  else
   Option.bind (
    if (decide (p1=1))=true then
     some true
    else
    if (decide (p1=2))=true then
     some true
    else
    if (decide (p1=3))=true then
     some true
    else
     some (decide (p1=4))
   ) fun t20=>
   if t20=true then
    some (Sum.inr [(0:Int),0])
   else
   if (decide (p1=5))=true then
    some (Sum.inr [(0:Int)])
   else
   if (decide (p1=11))=true then
    if (!decide ((Sh.len p3)=2))=true then
     some (Sum.inl (-1,false))
    else
     Option.bind (Sh.get p3 0) fun c34=>
     Option.bind (HZ p0.decls c34) fun q35=>
     Option.bind (
      if q35.2=true then
       Option.bind (Sh.get p3 1) fun c41=>
       if (decide (c41=q35.1.from_))=true then
        some (decide (p2=0))
       else
        some false
      else
       some false
     ) fun t38=>
     some (Sum.inl (q35.1.to,t38))
   else
   if (decide (p1=6))=true then
    Option.bind (GH N p0.decls p2) fun q40=>
    Option.bind (
     if (decide (0≤q40.1))=true then
      Option.bind (CG N p3 q40.2.fields) fun q45=>
      some q45
     else
      some false
    ) fun t42=>
    some (Sum.inl (q40.1,t42))
   else
    Option.bind (
     if (decide (p1=9))=true then
      some true
     else
      some (decide (p1=10))
    ) fun t47=>
    if t47=true then
     Option.bind (
      if (decide (p2 < 0))=true then
       some true
      else
       some (decide ((Sh.len p0.funcs)≤p2))
     ) fun t52=>
     if t52=true then
      some (Sum.inl (-1,false))
     else
      Option.bind (Sh.get p0.funcs p2) fun c57=>
      if (decide (p1=9))=true then
       Option.bind (CG N p3 c57.params) fun q62=>
       some (Sum.inl (c57.result,q62))
      else
      if (decide ((Sh.w ((Sh.len c57.params) - 1)) < 0))=true then
       some (Sum.inl (-1,false))
      else
       Option.bind (Sh.get c57.params (Sh.w ((Sh.len c57.params) - 1))) fun c69=>
       Option.bind (HR N p0.decls c69 c57.result) fun q70=>
       Option.bind (
        if (decide (0≤q70))=true then
         Option.bind (Sh.sl c57.params 0 (Sh.w ((Sh.len c57.params) - 1))) fun l75=>
         Option.bind (CG N p3 l75) fun q76=>
         some q76
        else
         some false
       ) fun t72=>
       some (Sum.inl (q70,t72))
    else
     some (Sum.inl (-1,false))
 ) (id) fun l4=>
 Option.bind (
  if (decide (p2=0))=true then
   Option.bind (CG N p3 l4) fun q10=>
   some q10
  else
   some false
 ) fun t7=>
 some (0,t7)
def Be (N:Nat) (p0:BH) (q56:(List Int)):Nat→Int→(List (List Int))→Option ((List (List Int)))
 | 0,_,_=>none
 | n+1,t67,l68=>
  if (decide (t67 < (Sh.len q56)))=true then
   Option.bind (Sh.get q56 t67) fun c79=>
   Option.bind (C6 N p0.decls c79) fun q80=>
   Option.bind (Sh.get l68 t67) fun c81=>
   Be N p0 q56 n (Sh.w (t67+1)) (Sh.put l68 t67 q80)
  else
   some l68
def Bf (s0:(List Int)) (p0:BH) (p2:AK) (rec_impl_signatures_typeOf:(List Int)→BH→AK→Option (Int)):Nat→Int→(List Int)→Option ((Int) ⊕ ((List Int)))
 | 0,_,_=>none
 | n+1,t90,l91=>
  if (decide (t90 < (Sh.len p2.kids)))=true then
   Option.bind (Sh.get p2.kids t90) fun c108=>
   Option.bind (rec_impl_signatures_typeOf s0 p0 c108) fun q110=>
   Option.bind (Sh.get l91 t90) fun c111=>
   Option.bind (Sh.get (Sh.put l91 t90 q110) t90) fun c113=>
   if (decide (c113 < 0))=true then
    some (Sum.inl (-1))
   else
    Bf s0 p0 p2 rec_impl_signatures_typeOf n (Sh.w (t90+1)) (Sh.put l91 t90 q110)
  else
   some (Sum.inr l91)
def BE (N:Nat) (rec_impl_signatures_typeOf:(List Int)→BH→AK→Option (Int)) (s0:(List Int)) (p0:BH) (p2:AK):Option (Int):=
 if (decide (p2.op=12))=true then
  Option.bind (
   if (decide (0 < (Sh.len p2.kids)))=true then
    some true
   else
   if (decide (p2.num < 0))=true then
    some true
   else
    some (decide ((Sh.len s0)≤p2.num))
  ) fun t8=>
  if t8=true then
   some (-1)
  else
   Option.bind (Sh.get s0 p2.num) fun c13=>
   some c13
 else
 if (decide (p2.op=13))=true then
  Option.bind (
   if (!decide ((Sh.len p2.kids)=2))=true then
    some true
   else
    some (!decide (p2.num=0))
  ) fun t20=>
  if t20=true then
   some (-1)
  else
   Option.bind (Sh.get p2.kids 0) fun c25=>
   Option.bind (rec_impl_signatures_typeOf s0 p0 c25) fun q26=>
   if (decide (q26 < 0))=true then
    some (-1)
   else
    Option.bind (Sh.app s0 [q26] 8) fun l32=>
    Option.bind (Sh.get p2.kids 1) fun c33=>
    Option.bind (rec_impl_signatures_typeOf l32 p0 c33) fun q34=>
    some q34
 else
 if (decide (p2.op=7))=true then
  Option.bind (
   if (!decide ((Sh.len p2.kids)=3))=true then
    some true
   else
   if (!decide (p2.num=0))=true then
    some true
   else
    Option.bind (Sh.get p2.kids 0) fun c51=>
    Option.bind (rec_impl_signatures_typeOf s0 p0 c51) fun q52=>
    some (!decide (q52=0))
  ) fun t41=>
  if t41=true then
   some (-1)
  else
   Option.bind (Sh.sl p2.kids 1 (Sh.len p2.kids)) fun l46=>
   Option.bind (Sh.mk [] 2 24) fun l47=>
   Option.bind (C7 N rec_impl_signatures_typeOf p0 s0 l46 l47) fun q48=>
   some q48
 else
 if (decide (p2.op=8))=true then
  Option.bind (E6 N p0.decls p2.num) fun q56=>
  Option.bind (
   if (decide ((Sh.len q56)=0))=true then
    some true
   else
   if (!decide ((Sh.len p2.kids)=(Sh.w (1+(Sh.len q56)))))=true then
    some true
   else
    Option.bind (Sh.get p2.kids 0) fun c84=>
    Option.bind (rec_impl_signatures_typeOf s0 p0 c84) fun q85=>
    some (!decide (q85=p2.num))
  ) fun t59=>
  if t59=true then
   some (-1)
  else
   Option.bind (Sh.mk [] (Sh.len q56) 24) fun l64=>
   Option.bind (Be N p0 q56 N 0 l64) fun l69=>
   Option.bind (Sh.sl p2.kids 1 (Sh.len p2.kids)) fun l72=>
   Option.bind (C7 N rec_impl_signatures_typeOf p0 s0 l72 l69) fun q73=>
   some q73
 else
  Option.bind (Sh.mk 0 (Sh.len p2.kids) 8) fun l87=>
  Sh.cont (Bf s0 p0 p2 rec_impl_signatures_typeOf N 0 l87) (id) fun l92=>
  Option.bind (A6 N p0 p2.op p2.num l92) fun q95=>
  if (!q95.2)=true then
   some (-1)
  else
   some q95.1
def Bl (N:Nat):Nat→(List Int)→BH→AK→Option (Int)
 | 0,_,_,_=>none
 | n+1,s0,p0,p2=>BE N (Bl N n) s0 p0 p2
def Fz (N:Nat) (s0:(List Int)) (p0:BH) (p2:AK):Option (Int):=Bl N N s0 p0 p2
def Jk (N:Nat) (p0:Ag) (p1:(List Int)) (p2:AK):Option (Int):=
 Option.bind (
  Option.bind (Fc N p0) fun q13=>
  if (!q13)=true then
   some true
  else
   Option.bind (Gi N p2) fun q15=>
   if (decide (q15 < 0))=true then
    some true
   else
    Option.bind (FN N p0.decls p1) fun q17=>
    some (!q17)
 ) fun t4=>
 if t4=true then
  some (-1)
 else
  Option.bind (IA N p0) fun q9=>
  Option.bind (Bi p1) fun q10=>
  Option.bind (Fz N q10 q9 p2) fun q11=>
  some q11
def CY (N:Nat) (p0:Ag):Nat→Int→Option ((Bool) ⊕ (Unit))
 | 0,_=>none
 | n+1,t11=>
  if (decide (t11 < (Sh.len p0.funcs)))=true then
   Option.bind (Sh.get p0.funcs t11) fun c19=>
   Option.bind (Jk N p0 c19.params c19.body) fun q21=>
   if (!decide (q21=c19.result))=true then
    some (Sum.inl false)
   else
    CY N p0 n (Sh.w (t11+1))
  else
   some (Sum.inr ())
def FG (N:Nat) (p0:Ag):Option (Bool):=
 Option.bind (Fc N p0) fun q4=>
 if (!q4)=true then
  some false
 else
  Sh.cont (CY N p0 N 0) (id) fun ()=>
  some true
def EE (p0:(List AK)) (p1:(List AK)) (rec_laws_eqExpr:AK→AK→Option (Bool)):Nat→Int→Option ((Bool) ⊕ (Unit))
 | 0,_=>none
 | n+1,i10=>
  if (decide (i10 < (Sh.len p0)))=true then
   Option.bind (Sh.get p0 i10) fun c18=>
   Option.bind (Sh.get p1 i10) fun c19=>
   Option.bind (rec_laws_eqExpr c18 c19) fun q20=>
   if (!q20)=true then
    some (Sum.inl false)
   else
    EE p0 p1 rec_laws_eqExpr n (Sh.w (i10+1))
  else
   some (Sum.inr ())
def JC (N:Nat) (rec_laws_eqExpr:AK→AK→Option (Bool)) (p0:(List AK)) (p1:(List AK)):Option (Bool):=
 if (!decide ((Sh.len p0)=(Sh.len p1)))=true then
  some false
 else
  Sh.cont (EE p0 p1 rec_laws_eqExpr N 0) (id) fun ()=>
  some true
def IS (N:Nat) (rec_laws_eqExpr:AK→AK→Option (Bool)) (p0:AK) (p1:AK):Option (Bool):=
 if (!decide (p0.op=p1.op))=true then
  some false
 else
 if (!decide (p0.num=p1.num))=true then
  some false
 else
  Option.bind (JC N rec_laws_eqExpr p0.kids p1.kids) fun q16=>
  if (!q16)=true then
   some false
  else
   some true
def FI (N:Nat):Nat→AK→AK→Option (Bool)
 | 0,_,_=>none
 | n+1,p0,p1=>IS N (FI N n) p0 p1
def Je (N:Nat) (p0:AK) (p1:AK):Option (Bool):=FI N N p0 p1
def Ib (N:Nat) (p0:Av) (p1:Av):Option (Bool):=
 Option.bind (HH N p0.params p1.params) fun q4=>
 if (!q4)=true then
  some false
 else
 if (!decide (p0.result=p1.result))=true then
  some false
 else
  Option.bind (Je N p0.body p1.body) fun q17=>
  if (!q17)=true then
   some false
  else
   some true
def D8 (N:Nat) (p0:(List Av)) (p1:(List Av)):Nat→Int→Option ((Bool) ⊕ (Unit))
 | 0,_=>none
 | n+1,i10=>
  if (decide (i10 < (Sh.len p0)))=true then
   Option.bind (Sh.get p0 i10) fun c18=>
   Option.bind (Sh.get p1 i10) fun c19=>
   Option.bind (Ib N c18 c19) fun q20=>
   if (!q20)=true then
    some (Sum.inl false)
   else
    D8 N p0 p1 n (Sh.w (i10+1))
  else
   some (Sum.inr ())
def HS (N:Nat) (p0:(List Av)) (p1:(List Av)):Option (Bool):=
 if (!decide ((Sh.len p0)=(Sh.len p1)))=true then
  some false
 else
  Sh.cont (D8 N p0 p1 N 0) (id) fun ()=>
  some true
def Ea (N:Nat) (p0:Ag) (p1:Ag):Option (Bool):=
 Option.bind (HU N p0.decls p1.decls) fun q4=>
 if (!q4)=true then
  some false
 else
  Option.bind (HS N p0.funcs p1.funcs) fun q11=>
  if (!q11)=true then
   some false
  else
   some true
end RC


namespace RC
end RC


namespace RC
end RC


namespace RC
def Dn :Nat→Int→Int→(List Int)→Option (Int×(List Int))
 | 0,_,_,_=>none
 | n+1,k4,i5,l6=>
  if (decide (i5 < (Sh.len l6)))=true then
   Option.bind (Sh.get l6 i5) fun c16=>
   Dn  n (Sh.w (k4+1)) (Sh.w (i5+1)) (Sh.put l6 i5 k4)
  else
   some (k4,l6)
def F9 (N:Nat) (s0:(List Int)) (p1:Int):Option (Int×(List Int)):=
 Option.bind (Dn  N p1 0 s0) fun (k7,l8)=>
 some (k7,l8)
def Dq (N:Nat):Nat→Int→Int→(List Ba)→Option (Int×(List Ba))
 | 0,_,_,_=>none
 | n+1,k4,i5,l6=>
  if (decide (i5 < (Sh.len l6)))=true then
   Option.bind (Sh.get l6 i5) fun c15=>
   Option.bind (F9 N c15.fields k4) fun q16=>
   Dq N n q16.1 (Sh.w (i5+1)) (Sh.put l6 i5 (Ba.mk q16.2))
  else
   some (k4,l6)
def G6 (N:Nat) (s0:(List Ba)) (p1:Int):Option (Int×(List Ba)):=
 Option.bind (Dq N N p1 0 s0) fun (k7,l8)=>
 some (k7,l8)
def DV (N:Nat):Nat→Int→Int→(List Ah)→Option (Int×(List Ah))
 | 0,_,_,_=>none
 | n+1,k4,i5,l6=>
  if (decide (i5 < (Sh.len l6)))=true then
   Option.bind (Sh.get l6 i5) fun c16=>
   Option.bind (Sh.get (Sh.put l6 i5 (Ah.mk k4 c16.to c16.cons)) i5) fun c19=>
   Option.bind (Sh.get (Sh.put (Sh.put l6 i5 (Ah.mk k4 c16.to c16.cons)) i5 (Ah.mk c19.from_ (Sh.w (k4+1)) c19.cons)) i5) fun c21=>
   Option.bind (G6 N c21.cons (Sh.w ((Sh.w (k4+1)) + 1))) fun q22=>
   DV N n q22.1 (Sh.w (i5+1)) (Sh.put (Sh.put (Sh.put l6 i5 (Ah.mk k4 c16.to c16.cons)) i5 (Ah.mk c19.from_ (Sh.w (k4+1)) c19.cons)) i5 (Ah.mk c21.from_ c21.to q22.2))
  else
   some (k4,l6)
def Gc (N:Nat) (s0:(List Ah)) (p1:Int):Option (Int×(List Ah)):=
 Option.bind (DV N N p1 0 s0) fun (k7,l8)=>
 some (k7,l8)
def Dp (p0:(List Int)):Nat→Int→Int→Option ((Int) ⊕ (Int))
 | 0,_,_=>none
 | n+1,k4,i5=>
  if (decide (i5 < (Sh.len p0)))=true then
   Option.bind (Sh.get p0 i5) fun c15=>
   if (!decide (c15=k4))=true then
    some (Sum.inl (-1))
   else
    Dp p0 n (Sh.w (k4+1)) (Sh.w (i5+1))
  else
   some (Sum.inr k4)
def F6 (N:Nat) (p0:(List Int)) (p1:Int):Option (Int):=
 Sh.cont (Dp p0 N p1 0) (id) fun k6=>
 some k6
end RC


namespace RC
end RC


namespace RC
end RC


namespace RC
def CL (p0:(List Ah)):Option ((List Ah)):=
 Option.bind (Sh.app ([]:List Ah) p0 40) fun l6=>
 some l6
def CA (p0:(List Ba)):Option ((List Ba)):=
 Option.bind (Sh.app ([]:List Ba) p0 24) fun l6=>
 some l6
end RC


namespace RC
def DD (cs:List Ba):Nat→Int→List Ba→Option (List Ba)
 | 0,_,_=>none
 | n+1,i,q=>
  if decide (i < Sh.len cs)=true then
   Option.bind (Sh.get cs i) fun c=>
   Option.bind (Bi c.fields) fun f=>
   Option.bind (Sh.get q i) fun _=>
   DD cs n (Sh.w (i+1)) (Sh.put q i (Ba.mk f))
  else some q
def DE (N:Nat) (m:Int):Nat→Int→List Ah→Option (List Ah)
 | 0,_,_=>none
 | n+1,t,l=>
  if decide (t < m)=true then
   Option.bind (Sh.get l t) fun d=>
   Option.bind (CA d.cons) fun q21=>
   Option.bind (DD d.cons N 0 q21) fun q=>
   DE N m n (Sh.w (t+1)) (Sh.put l t (Ah.mk d.from_ d.to q))
  else some l
def F3 (N:Nat) (p0:List Ah):Option (List Ah):=
 Option.bind (CL p0) fun q9=>
 Option.bind (DE N (Sh.len q9) N 0 q9) fun l=>
 some l
end RC


namespace RC
def Cy (i5:Int) (p0:(List Ah)):Nat→Int→(List Ba)→Option ((List Ba))
 | 0,_,_=>none
 | n+1,k17,l18=>
  Option.bind (Sh.get p0 i5) fun c25=>
  if (decide (k17 < (Sh.len c25.cons)))=true then
   Option.bind (Sh.get c25.cons k17) fun c28=>
   Option.bind (Du c28.fields) fun q29=>
   Option.bind (Sh.app l18 [(Ba.mk q29)] 24) fun l30=>
   Cy i5 p0 n (Sh.w (k17+1)) l30
  else
   some l18
def DQ (N:Nat) (p0:(List Ah)):Nat→Int→(List Ah)→Option ((List Ah))
 | 0,_,_=>none
 | n+1,i5,l6=>
  if (decide (i5 < (Sh.len p0)))=true then
   Option.bind (Cy i5 p0 N 0 []) fun l19=>
   Option.bind (Sh.get p0 i5) fun c21=>
   Option.bind (Sh.app l6 [(Ah.mk c21.from_ c21.to l19)] 40) fun l22=>
   DQ N p0 n (Sh.w (i5+1)) l22
  else
   some l6
def GZ (N:Nat) (p0:(List Ah)):Option ((List Ah)):=
 Option.bind (DQ N p0 N 0 []) fun l7=>
 some l7
def Dh (N:Nat) (p0:(List Ba)):Nat→Int→Int→Option ((Int) ⊕ (Int))
 | 0,_,_=>none
 | n+1,k4,i5=>
  if (decide (i5 < (Sh.len p0)))=true then
   Option.bind (Sh.get p0 i5) fun c14=>
   Option.bind (F6 N c14.fields k4) fun q15=>
   if (decide (q15 < 0))=true then
    some (Sum.inl (-1))
   else
    Dh N p0 n q15 (Sh.w (i5+1))
  else
   some (Sum.inr k4)
def G7 (N:Nat) (p0:(List Ba)) (p1:Int):Option (Int):=
 Sh.cont (Dh N p0 N p1 0) (id) fun k6=>
 some k6
def DO (N:Nat) (p0:(List Ah)):Nat→Int→Int→Option ((Int) ⊕ (Int))
 | 0,_,_=>none
 | n+1,k4,i5=>
  if (decide (i5 < (Sh.len p0)))=true then
   Option.bind (Sh.get p0 i5) fun c15=>
   if (!decide (c15.from_=k4))=true then
    some (Sum.inl (-1))
   else
   if (!decide (c15.to=(Sh.w (k4+1))))=true then
    some (Sum.inl (-1))
   else
    Option.bind (G7 N c15.cons (Sh.w ((Sh.w (k4+1)) + 1))) fun q29=>
    if (decide (q29 < 0))=true then
     some (Sum.inl (-1))
    else
     DO N p0 n q29 (Sh.w (i5+1))
  else
   some (Sum.inr k4)
def GU (N:Nat) (p0:(List Ah)) (p1:Int):Option (Int):=
 Sh.cont (DO N p0 N p1 0) (id) fun k6=>
 some k6
end RC


namespace RC
def IH (rec_spec_copyExprs:(List AK)→Option ((List AK))) (p0:AK):Option (AK):=
 Option.bind (rec_spec_copyExprs p0.kids) fun q3=>
 some (AK.mk p0.op p0.num q3)
def CT (p0:(List AK)) (rec_spec_copyExprs:(List AK)→Option ((List AK))):Nat→Int→(List AK)→Option ((List AK))
 | 0,_,_=>none
 | n+1,i5,l6=>
  if (decide (i5 < (Sh.len p0)))=true then
   Option.bind (Sh.get p0 i5) fun c14=>
   Option.bind (IH rec_spec_copyExprs c14) fun q15=>
   Option.bind (Sh.app l6 [q15] 40) fun l16=>
   CT p0 rec_spec_copyExprs n (Sh.w (i5+1)) l16
  else
   some l6
def Gw (N:Nat) (rec_spec_copyExprs:(List AK)→Option ((List AK))) (p0:(List AK)):Option ((List AK)):=
 Option.bind (CT p0 rec_spec_copyExprs N 0 []) fun l7=>
 some l7
def Dm (N:Nat):Nat→(List AK)→Option ((List AK))
 | 0,_=>none
 | n+1,p0=>Gw N (Dm N n) p0
def Ge (N:Nat) (p0:(List AK)):Option ((List AK)):=Dm N N p0
def Db (p0:AK) (rec_spec_known:AK→Option (AK)):Nat→Int→(List AK)→Option ((List AK))
 | 0,_,_=>none
 | n+1,k5,l6=>
  if (decide (k5 < (Sh.len p0.kids)))=true then
   Option.bind (Sh.get p0.kids k5) fun c27=>
   Option.bind (rec_spec_known c27) fun q28=>
   Option.bind (Sh.app l6 [q28] 40) fun l29=>
   Db p0 rec_spec_known n (Sh.w (k5+1)) l29
  else
   some l6
def JB (N:Nat) (rec_spec_known:AK→Option (AK)) (p0:AK):Option (AK):=
 Option.bind (Db p0 rec_spec_known N 0 []) fun l7=>
 Option.bind (
  if (decide (p0.op=11))=true then
   Option.bind (Sh.get l7 0) fun c22=>
   some (decide (c22.op=10))
  else
   some false
 ) fun t11=>
 if t11=true then
  Option.bind (Sh.get l7 0) fun c15=>
  Option.bind (Ge N c15.kids) fun q16=>
  Option.bind (Sh.get l7 1) fun c17=>
  Option.bind (Sh.app q16 [c17] 40) fun l18=>
  some (AK.mk 9 c15.num l18)
 else
  some (AK.mk p0.op p0.num l7)
def E9 (N:Nat):Nat→AK→Option (AK)
 | 0,_=>none
 | n+1,p0=>JB N (E9 N n) p0
def KO (N:Nat) (p0:AK):Option (AK):=E9 N N p0
def GD (N:Nat) (p0:AK):Option (AK):=
 Option.bind (Ge N p0.kids) fun q3=>
 some (AK.mk p0.op p0.num q3)
def Cb (N:Nat) (p0:Ag) (p1:(List AK)):Nat→Int→(List Av)→Option ((Ag×Bool) ⊕ ((List Av)))
 | 0,_,_=>none
 | n+1,i6,l7=>
  if (decide (i6 < (Sh.len p0.funcs)))=true then
   Option.bind (Sh.get p1 i6) fun c17=>
   Option.bind (Gl N c17) fun q18=>
   if (decide (q18 < 0))=true then
    some (Sum.inl ((Ag.mk [] []),false))
   else
    Option.bind (Sh.get p0.funcs i6) fun c21=>
    Option.bind (Du c21.params) fun q22=>
    Option.bind (GD N c17) fun q23=>
    Option.bind (Sh.app l7 [(Av.mk q22 c21.result q23)] 72) fun l24=>
    Cb N p0 p1 n (Sh.w (i6+1)) l24
  else
   some (Sum.inr l7)
def GC (N:Nat) (p0:Ag) (p1:(List AK)):Option (Ag×Bool):=
 Option.bind (GZ N p0.decls) fun q3=>
 Sh.cont (Cb N p0 p1 N 0 []) (id) fun l8=>
 some ((Ag.mk q3 l8),true)
def CK (N:Nat) (p0:Ag):Nat→Int→(List AK)→Option ((List AK))
 | 0,_,_=>none
 | n+1,i12,l13=>
  if (decide (i12 < (Sh.len p0.funcs)))=true then
   Option.bind (Sh.get p0.funcs i12) fun c22=>
   Option.bind (KO N c22.body) fun q23=>
   Option.bind (Sh.app l13 [q23] 40) fun l24=>
   CK N p0 n (Sh.w (i12+1)) l24
  else
   some l13
def F5 (N:Nat) (p0:Ag):Option (Ag×Bool):=
 Option.bind (Cv N p0) fun q4=>
 if (!q4)=true then
  some ((Ag.mk [] []),false)
 else
  Option.bind (CK N p0 N 0 []) fun l14=>
  Option.bind (GC N p0 l14) fun q17=>
  some (q17.1,q17.2)
def C1 (p0:AK) (p1:Int) (p2:Int) (rec_impl_shifted:AK→Int→Int→Option (AK)):Nat→Int→(List AK)→Option ((List AK))
 | 0,_,_=>none
 | n+1,t9,l10=>
  if (decide (t9 < (Sh.len p0.kids)))=true then
   Option.bind (Sh.get p0.kids t9) fun c19=>
   Option.bind (rec_impl_shifted c19 p1 p2) fun q20=>
   Option.bind (Sh.app l10 [q20] 40) fun l21=>
   C1 p0 p1 p2 rec_impl_shifted n (Sh.w (t9+1)) l21
  else
   some l10
def Hm (N:Nat) (rec_impl_shifted:AK→Int→Int→Option (AK)) (p0:AK) (p1:Int) (p2:Int):Option (AK):=
 Option.bind (
  Option.bind (
   if (decide (p0.op=12))=true then
    some (decide (p1≤p0.num))
   else
    some false
  ) fun t25=>
  if t25=true then
   some (Sh.w (p0.num+p2))
  else
   some p0.num
 ) fun f3=>
 Option.bind (C1 p0 p1 p2 rec_impl_shifted N 0 []) fun l11=>
 some (AK.mk p0.op f3 l11)
def Ed (N:Nat):Nat→AK→Int→Int→Option (AK)
 | 0,_,_,_=>none
 | n+1,p0,p1,p2=>Hm N (Ed N n) p0 p1 p2
def Kf (N:Nat) (p0:AK) (p1:Int) (p2:Int):Option (AK):=Ed N N p0 p1 p2
def GW (N:Nat) (p0:AK):Option (AK):=
 Option.bind (Kf N p0 0 0) fun q3=>
 some q3
def CI (N:Nat) (p0:Ag):Nat→Int→(List Av)→Option ((List Av))
 | 0,_,_=>none
 | n+1,t6,l7=>
  if (decide (t6 < (Sh.len p0.funcs)))=true then
   Option.bind (Sh.get p0.funcs t6) fun c16=>
   Option.bind (Bi c16.params) fun q17=>
   Option.bind (GW N c16.body) fun q18=>
   Option.bind (Sh.app l7 [(Av.mk q17 c16.result q18)] 72) fun l19=>
   CI N p0 n (Sh.w (t6+1)) l19
  else
   some l7
def FM (N:Nat) (p0:Ag):Option (Ag):=
 Option.bind (F3 N p0.decls) fun q3=>
 Option.bind (CI N p0 N 0 []) fun l8=>
 some (Ag.mk q3 l8)
def FQ (s0:(List AK)) (p0_0:Int) (p0_1:Int) (p1:Int):Option (AK):=
 Option.bind (
  if (decide (p0_0=11))=true then
   Option.bind (Sh.get s0 0) fun c15=>
   some (decide (c15.op=10))
  else
   some false
 ) fun t4=>
 if t4=true then
  Option.bind (Sh.get s0 0) fun c8=>
  Option.bind (Sh.get s0 1) fun c9=>
  Option.bind (Sh.app c8.kids [c9] 40) fun l10=>
  some (AK.mk 9 c8.num l10)
 else
  some (AK.mk p0_0 p0_1 s0)
def CB (N:Nat) (s0:(List AK)) (p0:(List Ah)) (p1_0:Int) (p1_1:Int) (p2:Int) (rec_impl_rewriteExpr:(List AK)→(List Ah)→Int→Int→Int→Option (AK)):Nat→Int→(List AK)→Option ((List AK))
 | 0,_,_=>none
 | n+1,t4,l5=>
  if (decide (t4 < (Sh.len s0)))=true then
   Option.bind (
    Option.bind (
     if (decide (p1_0=13))=true then
      some (decide (t4=1))
     else
      some false
    ) fun t23=>
    if t23=true then
     some (Sh.w (p2+1))
    else
     Option.bind (
      if (decide (p1_0=8))=true then
       some (decide (0 < t4))
      else
       some false
     ) fun t27=>
     if t27=true then
      Option.bind (E6 N p0 p1_1) fun q30=>
      Option.bind (Sh.get q30 (Sh.w (t4 - 1))) fun c31=>
      Option.bind (C6 N p0 c31) fun q32=>
      some (Sh.w (p2+(Sh.len q32)))
     else
      some p2
   ) fun scope17=>
   Option.bind (Sh.get l5 t4) fun c19=>
   Option.bind (rec_impl_rewriteExpr c19.kids p0 c19.op c19.num scope17) fun q20=>
   CB N s0 p0 p1_0 p1_1 p2 rec_impl_rewriteExpr n (Sh.w (t4+1)) (Sh.put l5 t4 q20)
  else
   some l5
def Fw (N:Nat) (rec_impl_rewriteExpr:(List AK)→(List Ah)→Int→Int→Int→Option (AK)) (s0:(List AK)) (p0:(List Ah)) (p1_0:Int) (p1_1:Int) (p2:Int):Option (AK):=
 Option.bind (CB N s0 p0 p1_0 p1_1 p2 rec_impl_rewriteExpr N 0 s0) fun l6=>
 Option.bind (FQ l6 p1_0 p1_1 p2) fun q9=>
 some q9
def DC (N:Nat):Nat→(List AK)→(List Ah)→Int→Int→Int→Option (AK)
 | 0,_,_,_,_,_=>none
 | n+1,s0,p0,p1_0,p1_1,p2=>Fw N (DC N n) s0 p0 p1_0 p1_1 p2
def Gu (N:Nat) (s0:(List AK)) (p0:(List Ah)) (p1_0:Int) (p1_1:Int) (p2:Int):Option (AK):=DC N N s0 p0 p1_0 p1_1 p2
def CW (N:Nat) (p0:Ag) (q3:Ag):Nat→Int→(List Av)→Option ((Ag×Bool) ⊕ ((List Av)))
 | 0,_,_=>none
 | n+1,t6,l7=>
  if (decide (t6 < (Sh.len q3.funcs)))=true then
   Option.bind (Sh.get l7 t6) fun c17=>
   Option.bind (Gu N c17.body.kids p0.decls c17.body.op c17.body.num (Sh.len c17.params)) fun q18=>
   Option.bind (Sh.get (Sh.put l7 t6 (Av.mk c17.params c17.result q18)) t6) fun c21=>
   Option.bind (Gi N c21.body) fun q22=>
   if (decide (q22 < 0))=true then
    some (Sum.inl ((Ag.mk [] []),false))
   else
    CW N p0 q3 n (Sh.w (t6+1)) (Sh.put l7 t6 (Av.mk c17.params c17.result q18))
  else
   some (Sum.inr l7)
def Gg (N:Nat) (p0:Ag):Option (Ag×Bool):=
 Option.bind (FM N p0) fun q3=>
 Sh.cont (CW N p0 q3 N 0 q3.funcs) (id) fun l8=>
 some ((Ag.mk q3.decls l8),true)
def EA (N:Nat) (p0:Ag):Option (Ag×Bool):=
 Option.bind (FG N p0) fun q4=>
 if (!q4)=true then
  some ((Ag.mk [] []),false)
 else
  Option.bind (Gg N p0) fun q10=>
  some (q10.1,q10.2)
def Cs (rec_laws_markExprS:(List AK)→Int→Option (Int×(List AK))):Nat→Int→Int→(List AK)→Option (Int×(List AK))
 | 0,_,_,_=>none
 | n+1,k4,i5,l6=>
  if (decide (i5 < (Sh.len l6)))=true then
   Option.bind (Sh.get l6 i5) fun c16=>
   Option.bind (Sh.get (Sh.put l6 i5 (AK.mk k4 c16.num c16.kids)) i5) fun c19=>
   Option.bind (Sh.get (Sh.put (Sh.put l6 i5 (AK.mk k4 c16.num c16.kids)) i5 (AK.mk c19.op (Sh.w (k4+1)) c19.kids)) i5) fun c21=>
   Option.bind (rec_laws_markExprS c21.kids (Sh.w ((Sh.w (k4+1)) + 1))) fun q22=>
   Cs rec_laws_markExprS n q22.1 (Sh.w (i5+1)) (Sh.put (Sh.put (Sh.put l6 i5 (AK.mk k4 c16.num c16.kids)) i5 (AK.mk c19.op (Sh.w (k4+1)) c19.kids)) i5 (AK.mk c21.op c21.num q22.2))
  else
   some (k4,l6)
def Gs (N:Nat) (rec_laws_markExprS:(List AK)→Int→Option (Int×(List AK))) (s0:(List AK)) (p1:Int):Option (Int×(List AK)):=
 Option.bind (Cs rec_laws_markExprS N p1 0 s0) fun (k7,l8)=>
 some (k7,l8)
def Dj (N:Nat):Nat→(List AK)→Int→Option (Int×(List AK))
 | 0,_,_=>none
 | n+1,s0,p1=>Gs N (Dj N n) s0 p1
def Ho (N:Nat) (s0:(List AK)) (p1:Int):Option (Int×(List AK)):=Dj N N s0 p1
def DN (N:Nat):Nat→Int→Int→(List Av)→Option (Int×(List Av))
 | 0,_,_,_=>none
 | n+1,k4,i5,l6=>
  if (decide (i5 < (Sh.len l6)))=true then
   Option.bind (Sh.get l6 i5) fun c16=>
   Option.bind (F9 N c16.params k4) fun q17=>
   Option.bind (Sh.get (Sh.put l6 i5 (Av.mk q17.2 c16.result c16.body)) i5) fun c20=>
   Option.bind (Sh.get (Sh.put (Sh.put l6 i5 (Av.mk q17.2 c16.result c16.body)) i5 (Av.mk c20.params q17.1 c20.body)) i5) fun c23=>
   Option.bind (Sh.get (Sh.put (Sh.put (Sh.put l6 i5 (Av.mk q17.2 c16.result c16.body)) i5 (Av.mk c20.params q17.1 c20.body)) i5 (Av.mk c23.params c23.result (AK.mk (Sh.w (q17.1+1)) c23.body.num c23.body.kids))) i5) fun c26=>
   Option.bind (Sh.get (Sh.put (Sh.put (Sh.put (Sh.put l6 i5 (Av.mk q17.2 c16.result c16.body)) i5 (Av.mk c20.params q17.1 c20.body)) i5 (Av.mk c23.params c23.result (AK.mk (Sh.w (q17.1+1)) c23.body.num c23.body.kids))) i5 (Av.mk c26.params c26.result (AK.mk c26.body.op (Sh.w ((Sh.w (q17.1+1)) + 1)) c26.body.kids))) i5) fun c28=>
   Option.bind (Ho N c28.body.kids (Sh.w ((Sh.w ((Sh.w (q17.1+1)) + 1)) + 1))) fun q29=>
   DN N n q29.1 (Sh.w (i5+1)) (Sh.put (Sh.put (Sh.put (Sh.put (Sh.put l6 i5 (Av.mk q17.2 c16.result c16.body)) i5 (Av.mk c20.params q17.1 c20.body)) i5 (Av.mk c23.params c23.result (AK.mk (Sh.w (q17.1+1)) c23.body.num c23.body.kids))) i5 (Av.mk c26.params c26.result (AK.mk c26.body.op (Sh.w ((Sh.w (q17.1+1)) + 1)) c26.body.kids))) i5 (Av.mk c28.params c28.result (AK.mk c28.body.op c28.body.num q29.2)))
  else
   some (k4,l6)
def Gb (N:Nat) (s0:(List Av)) (p1:Int):Option (Int×(List Av)):=
 Option.bind (DN N N p1 0 s0) fun (k7,l8)=>
 some (k7,l8)
def E0 (N:Nat) (s0:(List Ah)) (s1:(List Av)) (p1:Int):Option (Int×(List Ah)×(List Av)):=
 Option.bind (Gc N s0 p1) fun q3=>
 Option.bind (Gb N s1 q3.1) fun q6=>
 some (q6.1,q3.2,q6.2)
def Cr (p0:(List AK)) (rec_laws_heldExprS:(List AK)→Int→Option (Int)):Nat→Int→Int→Option ((Int) ⊕ (Int))
 | 0,_,_=>none
 | n+1,k4,i5=>
  if (decide (i5 < (Sh.len p0)))=true then
   Option.bind (Sh.get p0 i5) fun c15=>
   if (!decide (c15.op=k4))=true then
    some (Sum.inl (-1))
   else
   if (!decide (c15.num=(Sh.w (k4+1))))=true then
    some (Sum.inl (-1))
   else
    Option.bind (rec_laws_heldExprS c15.kids (Sh.w ((Sh.w (k4+1)) + 1))) fun q29=>
    if (decide (q29 < 0))=true then
     some (Sum.inl (-1))
    else
     Cr p0 rec_laws_heldExprS n q29 (Sh.w (i5+1))
  else
   some (Sum.inr k4)
def Gx (N:Nat) (rec_laws_heldExprS:(List AK)→Int→Option (Int)) (p0:(List AK)) (p1:Int):Option (Int):=
 Sh.cont (Cr p0 rec_laws_heldExprS N p1 0) (id) fun k6=>
 some k6
def Dl (N:Nat):Nat→(List AK)→Int→Option (Int)
 | 0,_,_=>none
 | n+1,p0,p1=>Gx N (Dl N n) p0 p1
def Hj (N:Nat) (p0:(List AK)) (p1:Int):Option (Int):=Dl N N p0 p1
def DS (N:Nat) (p0:(List Av)):Nat→Int→Int→Option ((Int) ⊕ (Int))
 | 0,_,_=>none
 | n+1,k4,i5=>
  if (decide (i5 < (Sh.len p0)))=true then
   Option.bind (Sh.get p0 i5) fun c14=>
   Option.bind (F6 N c14.params k4) fun q15=>
   if (decide (q15 < 0))=true then
    some (Sum.inl (-1))
   else
   if (!decide (c14.result=q15))=true then
    some (Sum.inl (-1))
   else
   if (!decide (c14.body.op=(Sh.w (q15+1))))=true then
    some (Sum.inl (-1))
   else
   if (!decide (c14.body.num=(Sh.w ((Sh.w (q15+1)) + 1))))=true then
    some (Sum.inl (-1))
   else
    Option.bind (Hj N c14.body.kids (Sh.w ((Sh.w ((Sh.w (q15+1)) + 1)) + 1))) fun q42=>
    if (decide (q42 < 0))=true then
     some (Sum.inl (-1))
    else
     DS N p0 n q42 (Sh.w (i5+1))
  else
   some (Sum.inr k4)
def Gf (N:Nat) (p0:(List Av)) (p1:Int):Option (Int):=
 Sh.cont (DS N p0 N p1 0) (id) fun k6=>
 some k6
def E1 (N:Nat) (p0:Ag) (p1:Int):Option (Int):=
 Option.bind (GU N p0.decls p1) fun q3=>
 if (decide (q3 < 0))=true then
  some (-1)
 else
  Option.bind (Gf N p0.funcs q3) fun q9=>
  if (decide (q9 < 0))=true then
   some (-1)
  else
   some q9
def E2 (N:Nat) (p0:Ag):Option (Bool):=
 Option.bind (Gh N p0 1048576) fun q4=>
 if (decide (q4 < 0))=true then
  some true
 else
  Option.bind (EZ N p0) fun q10=>
  Option.bind (F5 N q10) fun q11=>
  Option.bind (EZ N p0) fun q13=>
  Option.bind (EA N q13) fun q15=>
  Option.bind (
   Option.bind (Ea N q15.1 q11.1) fun q87=>
   if (!q87)=true then
    some true
   else
    some (q15.2 != q11.2)
  ) fun t18=>
  if t18=true then
   some false
  else
   Option.bind (EZ N p0) fun q24=>
   Option.bind (Ea N q13 q24) fun q25=>
   if (!q25)=true then
    some false
   else
    Option.bind (E0 N q13.decls q13.funcs 1) fun q32=>
    Option.bind (
     if (decide (q32.1 < 0))=true then
      some true
     else
      Option.bind (Ea N q15.1 q11.1) fun q85=>
      if (!q85)=true then
       some true
      else
       some (q15.2 != q11.2)
    ) fun t37=>
    if t37=true then
     some false
    else
     Option.bind (E0 N q15.1.decls q15.1.funcs 1) fun q43=>
     Option.bind (E1 N (Ag.mk q43.2.1 q43.2.2) 1) fun q48=>
     if (decide (q48 < 0))=true then
      some false
     else
     if (!decide (q48=q43.1))=true then
      some false
     else
      Option.bind (EZ N p0) fun q60=>
      Option.bind (EA N q60) fun q61=>
      Option.bind (
       Option.bind (Ea N q61.1 q11.1) fun q82=>
       if (!q82)=true then
        some true
       else
        some (q61.2 != q11.2)
      ) fun t64=>
      if t64=true then
       some false
      else
       Option.bind (E1 N (Ag.mk q43.2.1 q43.2.2) 1) fun q70=>
       if (decide (q70 < 0))=true then
        some false
       else
       if (!decide (q70=q43.1))=true then
        some false
       else
        some true
end RC

