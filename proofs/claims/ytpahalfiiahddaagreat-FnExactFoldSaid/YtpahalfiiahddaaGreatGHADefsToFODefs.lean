import Derived.Test.YtpahalfiiahddaaGreatGAbsXToSSDefs
import Derived.Test.YtpahalfiiahddaaGreatSufC
import Derived.Test.YtpahalfiiahddaaGreatSufF
namespace RC
def HP (p0:(List Int)) (p1:Int):Option (Int):=
 if (decide ((Sh.w (p1 - (Sh.len p0))) < 0))=true then
  some (-1)
 else
  some (Sh.w (p1 - (Sh.len p0)))
def D2 (p0:(List Int)):Nat→Int→(List Int)→Option ((List Int))
 | 0,_,_=>none
 | n+1,i6,l7=>
  if (decide (i6 < (Sh.len p0)))=true then
   Option.bind (Sh.get p0 i6) fun c15=>
   Option.bind (Sh.get l7 i6) fun c16=>
   D2 p0 n (Sh.w (i6+1)) (Sh.put l7 i6 c15)
  else
   some l7
def HR (N:Nat) (p0:(List Int)):Option ((List Int)):=
 Option.bind (Sh.mk 0 (Sh.len p0) 8) fun l3=>
 Option.bind (D2 p0 N 0 l3) fun l8=>
 some l8
def CL (p0:Int) (p1:Int) (p2:Int):Option (Bool):=
 Option.bind (
  if (decide (p1≤p0))=true then
   some (decide (p0≤p2))
  else
   some false
 ) fun t3=>
 some t3
def Qe (p0:(List Int)):Nat→Int→Option ((Bool) ⊕ (Unit))
 | 0,_=>none
 | n+1,i4=>
  if (decide (i4 < (Sh.len p0)))=true then
   Option.bind (Sh.get p0 i4) fun c12=>
   if (!decide (c12=0))=true then
    some (Sum.inl false)
   else
    Qe p0 n (Sh.w (i4+1))
  else
   some (Sum.inr ())
def Bh (p0:(List Int)):Option ((List Int)):=
 Option.bind (Sh.app ([]:List Int) p0 8) fun l6=>
 some l6
def Dz (p0:(List Int)) (p1:(List Int)):Nat→Int→Option ((Bool) ⊕ (Unit))
 | 0,_=>none
 | n+1,i10=>
  if (decide (i10 < (Sh.len p0)))=true then
   Option.bind (Sh.get p0 i10) fun c18=>
   Option.bind (Sh.get p1 i10) fun c19=>
   if (!decide (c18=c19))=true then
    some (Sum.inl false)
   else
    Dz p0 p1 n (Sh.w (i10+1))
  else
   some (Sum.inr ())
def HO (N:Nat) (p0:(List Int)) (p1:(List Int)):Option (Bool):=
 if (!decide ((Sh.len p0)=(Sh.len p1)))=true then
  some false
 else
  Sh.cont (Dz p0 p1 N 0) (id) fun ()=>
  some true
end RC


namespace RC
def Jh (p0:BU) (p1:Int):Option (Int):=
 Option.bind (HP p0.fields p1) fun q3=>
 if (decide (q3 < 0))=true then
  some (-1)
 else
  some q3
def Ei (p0:(List BU)):Nat→Int→Int→Option ((Int) ⊕ (Int))
 | 0,_,_=>none
 | n+1,left9,i10=>
  if (decide (i10 < (Sh.len p0)))=true then
   Option.bind (Sh.get p0 i10) fun c19=>
   Option.bind (Jh c19 left9) fun q20=>
   if (decide (q20 < 0))=true then
    some (Sum.inl (-1))
   else
    Ei p0 n q20 (Sh.w (i10+1))
  else
   some (Sum.inr left9)
def I0 (N:Nat) (p0:(List BU)) (p1:Int):Option (Int):=
 if (decide ((Sh.w (p1 - (Sh.len p0))) < 0))=true then
  some (-1)
 else
  Sh.cont (Ei p0 N (Sh.w (p1 - (Sh.len p0))) 0) (id) fun left11=>
  some left11
def Ir (N:Nat) (p0:Ab) (p1:Int):Option (Int):=
 Option.bind (I0 N p0.cons p1) fun q3=>
 if (decide (q3 < 0))=true then
  some (-1)
 else
  some q3
def ED (N:Nat) (p0:(List Ab)):Nat→Int→Int→Option ((Int) ⊕ (Int))
 | 0,_,_=>none
 | n+1,left9,i10=>
  if (decide (i10 < (Sh.len p0)))=true then
   Option.bind (Sh.get p0 i10) fun c19=>
   Option.bind (Ir N c19 left9) fun q20=>
   if (decide (q20 < 0))=true then
    some (Sum.inl (-1))
   else
    ED N p0 n q20 (Sh.w (i10+1))
  else
   some (Sum.inr left9)
def Hf (N:Nat) (p0:(List Ab)) (p1:Int):Option (Int):=
 if (decide ((Sh.w (p1 - (Sh.len p0))) < 0))=true then
  some (-1)
 else
  Sh.cont (ED N p0 N (Sh.w (p1 - (Sh.len p0))) 0) (id) fun left11=>
  some left11
def JZ (N:Nat) (p0:BU):Option (BU):=
 Option.bind (HR N p0.fields) fun q4=>
 some (BU.mk q4)
def Eh (N:Nat) (p0:(List BU)):Nat→Int→(List BU)→Option ((List BU))
 | 0,_,_=>none
 | n+1,i6,l7=>
  if (decide (i6 < (Sh.len p0)))=true then
   Option.bind (Sh.get p0 i6) fun c15=>
   Option.bind (JZ N c15) fun q16=>
   Option.bind (Sh.get l7 i6) fun c17=>
   Eh N p0 n (Sh.w (i6+1)) (Sh.put l7 i6 q16)
  else
   some l7
def It (N:Nat) (p0:(List BU)):Option ((List BU)):=
 Option.bind (Sh.mk (BU.mk []) (Sh.len p0) 24) fun l3=>
 Option.bind (Eh N p0 N 0 l3) fun l8=>
 some l8
def IM (N:Nat) (p0:Ab):Option (Ab):=
 Option.bind (It N p0.cons) fun q6=>
 some (Ab.mk p0.from_ p0.to q6)
def EO (N:Nat) (p0:(List Ab)):Nat→Int→(List Ab)→Option ((List Ab))
 | 0,_,_=>none
 | n+1,i6,l7=>
  if (decide (i6 < (Sh.len p0)))=true then
   Option.bind (Sh.get p0 i6) fun c15=>
   Option.bind (IM N c15) fun q16=>
   Option.bind (Sh.get l7 i6) fun c17=>
   EO N p0 n (Sh.w (i6+1)) (Sh.put l7 i6 q16)
  else
   some l7
def Hr (N:Nat) (p0:(List Ab)):Option ((List Ab)):=
 Option.bind (Sh.mk (Ab.mk 0 0 []) (Sh.len p0) 40) fun l3=>
 Option.bind (EO N p0 N 0 l3) fun l8=>
 some l8
def Du (p0:(List Ab)) (p1:(List Int)):Nat→Int→Option ((Bool) ⊕ (Unit))
 | 0,_=>none
 | n+1,i4=>
  if (decide (i4 < (Sh.len p1)))=true then
   Option.bind (Sh.get p1 i4) fun c12=>
   Option.bind (CL c12 0 (Sh.len p0)) fun q13=>
   if (!q13)=true then
    some (Sum.inl false)
   else
    Du p0 p1 n (Sh.w (i4+1))
  else
   some (Sum.inr ())
def F9 (N:Nat) (p0:(List Ab)) (p1:(List Int)):Option (Bool):=
 Sh.cont (Du p0 p1 N 0) (id) fun ()=>
 some true
def Db (N:Nat) (c3:Ab) (p0:(List Ab)):Nat→Int→Option ((Bool) ⊕ (Unit))
 | 0,_=>none
 | n+1,i15=>
  if (decide (i15 < (Sh.len c3.cons)))=true then
   Option.bind (
    Option.bind (Sh.get c3.cons i15) fun c27=>
    if (decide (3 < (Sh.len c27.fields)))=true then
     some true
    else
     Option.bind (F9 N p0 c27.fields) fun q29=>
     some (!q29)
   ) fun t23=>
   if t23=true then
    some (Sum.inl false)
   else
    Db N c3 p0 n (Sh.w (i15+1))
  else
   some (Sum.inr ())
def DR (c3:Ab) (p0:(List Ab)) (p1:Int):Nat→Int→Option ((Bool) ⊕ (Unit))
 | 0,_=>none
 | n+1,i34=>
  if (decide (i34 < p1))=true then
   Option.bind (
    Option.bind (Sh.get p0 i34) fun c51=>
    if (decide ((Sh.len c51.cons)=0))=true then
     if (decide (c51.from_=c3.from_))=true then
      some (decide (c51.to=c3.to))
     else
      some false
    else
     some false
   ) fun t47=>
   if t47=true then
    some (Sum.inl false)
   else
    DR c3 p0 p1 n (Sh.w (i34+1))
  else
   some (Sum.inr ())
def Ge (N:Nat) (p0:(List Ab)) (p1:Int):Option (Bool):=
 Option.bind (Sh.get p0 p1) fun c3=>
 if (decide (0 < (Sh.len c3.cons)))=true then
  Option.bind (
   if (decide (3 < (Sh.len c3.cons)))=true then
    some true
   else
   if (!decide (c3.from_=0))=true then
    some true
   else
    some (!decide (c3.to=0))
  ) fun t9=>
  if t9=true then
   some false
  else
   Sh.cont (Db N c3 p0 N 0) (id) fun ()=>
   some true
 else
  Sh.cont (DR c3 p0 p1 N 0) (id) fun ()=>
  Option.bind (
   Option.bind (CL c3.from_ 0 (Sh.len p0)) fun q39=>
   if q39=true then
    Option.bind (CL c3.to 0 (Sh.len p0)) fun q41=>
    some q41
   else
    some false
  ) fun t37=>
  some t37
def DE (N:Nat) (p0:(List Ab)):Nat→Int→Option ((Bool) ⊕ (Unit))
 | 0,_=>none
 | n+1,i8=>
  if (decide (i8 < (Sh.len p0)))=true then
   Option.bind (Ge N p0 i8) fun q16=>
   if (!q16)=true then
    some (Sum.inl false)
   else
    DE N p0 n (Sh.w (i8+1))
  else
   some (Sum.inr ())
def GI (N:Nat) (p0:(List Ab)):Option (Bool):=
 if (decide (4 < (Sh.len p0)))=true then
  some false
 else
  Sh.cont (DE N p0 N 0) (id) fun ()=>
  some true
def Cw (N:Nat) (p0:Aa):Nat→Int→Option ((Bool) ⊕ (Unit))
 | 0,_=>none
 | n+1,i10=>
  if (decide (i10 < (Sh.len p0.funcs)))=true then
   Option.bind (Sh.get p0.funcs i10) fun c22=>
   Option.bind (
    if (decide (3 < (Sh.len c22.params)))=true then
     some true
    else
     Option.bind (F9 N p0.decls c22.params) fun q29=>
     if (!q29)=true then
      some true
     else
      Option.bind (CL c22.result 0 (Sh.len p0.decls)) fun q31=>
      some (!q31)
   ) fun t24=>
   if t24=true then
    some (Sum.inl false)
   else
    Cw N p0 n (Sh.w (i10+1))
  else
   some (Sum.inr ())
def Fk (N:Nat) (p0:Aa):Option (Bool):=
 Option.bind (
  Option.bind (GI N p0.decls) fun q32=>
  if (!q32)=true then
   some true
  else
   Option.bind (CL (Sh.len p0.funcs) 1 4) fun q34=>
   some (!q34)
 ) fun t4=>
 if t4=true then
  some false
 else
  Sh.cont (Cw N p0 N 0) (id) fun ()=>
  Option.bind (
   Option.bind (Sh.get p0.funcs 0) fun c15=>
   if (decide ((Sh.len c15.params)=0))=true then
    some (decide (c15.result=0))
   else
    some false
  ) fun t13=>
  some t13
def DJ (p0:(List Ab)) (p1:Int):Nat→Int→Int→Option (Int)
 | 0,_,_=>none
 | n+1,n5,i6=>
  if (decide (i6 < p1))=true then
   Option.bind (Sh.get p0 i6) fun c14=>
   DJ p0 p1 n (Sh.w (n5+(Sh.len c14.cons))) (Sh.w (i6+1))
  else
   some n5
def E7 (N:Nat) (p0:(List Ab)) (p1:Int):Option (Int):=
 Option.bind (DJ p0 p1 N 0 0) fun n7=>
 some n7
def Cn (N:Nat) (p0:(List Ab)) (p1:Int):Nat→Int→Option ((Int) ⊕ (Unit))
 | 0,_=>none
 | n+1,i4=>
  if (decide (i4 < (Sh.len p0)))=true then
   Option.bind (E7 N p0 i4) fun q12=>
   Option.bind (Sh.get p0 i4) fun c14=>
   Option.bind (CL p1 q12 (Sh.w ((Sh.w (q12+(Sh.len c14.cons))) - 1))) fun q15=>
   if q15=true then
    some (Sum.inl (Sh.w (i4+1)))
   else
    Cn N p0 p1 n (Sh.w (i4+1))
  else
   some (Sum.inr ())
def Ey (N:Nat) (p0:(List Ab)) (p1:Int):Option (Int):=
 Sh.cont (Cn N p0 p1 N 0) (id) fun ()=>
 some (-1)
def CU (N:Nat) (p0:(List Ab)) (p1:Int):Option ((List Int)):=
 Option.bind (Ey N p0 p1) fun q3=>
 if (decide (q3 < 1))=true then
  some []
 else
  Option.bind (Sh.get p0 (Sh.w (q3 - 1))) fun c9=>
  Option.bind (E7 N p0 (Sh.w (q3 - 1))) fun q10=>
  Option.bind (Sh.get c9.cons (Sh.w (p1 - q10))) fun c11=>
  some c11.fields
def D8 (N:Nat) (p0:(List Ab)) (p1:Int):Nat→Int→(List Int)→Option ((List Int))
 | 0,_,_=>none
 | n+1,i12,l13=>
  Option.bind (Sh.get p0 (Sh.w (p1 - 1))) fun c19=>
  if (decide (i12 < (Sh.len c19.cons)))=true then
   Option.bind (E7 N p0 (Sh.w (p1 - 1))) fun q22=>
   Option.bind (Sh.app l13 [Sh.w (q22+i12)] 8) fun l23=>
   D8 N p0 p1 n (Sh.w (i12+1)) l23
  else
   some l13
def HT (N:Nat) (p0:(List Ab)) (p1:Int):Option ((List Int)):=
 Option.bind (CL p1 1 (Sh.len p0)) fun q5=>
 if (!q5)=true then
  some []
 else
  Option.bind (D8 N p0 p1 N 0 []) fun l14=>
  some l14
def Ft (p0:(List Ab)) (p1:Int):Option (Bool):=
 Option.bind (
  if (decide (0≤p1))=true then
   some (decide (p1≤(Sh.len p0)))
  else
   some false
 ) fun t3=>
 some t3
def Dq (p0:(List Ab)) (p1:(List Int)):Nat→Int→Option ((Bool) ⊕ (Unit))
 | 0,_=>none
 | n+1,t4=>
  if (decide (t4 < (Sh.len p1)))=true then
   Option.bind (Sh.get p1 t4) fun c12=>
   Option.bind (Ft p0 c12) fun q14=>
   if (!q14)=true then
    some (Sum.inl false)
   else
    Dq p0 p1 n (Sh.w (t4+1))
  else
   some (Sum.inr ())
def FZ (N:Nat) (p0:(List Ab)) (p1:(List Int)):Option (Bool):=
 Sh.cont (Dq p0 p1 N 0) (id) fun ()=>
 some true
def Cg (c16:Ab) (l28:(List Ab)):Nat→Int→Option ((Bool) ⊕ (Unit))
 | 0,_=>none
 | n+1,t29=>
  if (decide (t29 < (Sh.len l28)))=true then
   Option.bind (Sh.get l28 t29) fun c36=>
   Option.bind (
    if (decide ((Sh.len c16.cons)=0))=true then
     if (decide ((Sh.len c36.cons)=0))=true then
      if (decide (c36.from_=c16.from_))=true then
       some (decide (c36.to=c16.to))
      else
       some false
     else
      some false
    else
     some false
   ) fun t38=>
   if t38=true then
    some (Sum.inl false)
   else
    Cg c16 l28 n (Sh.w (t29+1))
  else
   some (Sum.inr ())
def Ch (N:Nat) (c16:Ab) (p0:(List Ab)):Nat→Int→Option ((Bool) ⊕ (Unit))
 | 0,_=>none
 | n+1,t25=>
  if (decide (t25 < (Sh.len c16.cons)))=true then
   Option.bind (Sh.get c16.cons t25) fun c50=>
   Option.bind (
    if (decide (3 < (Sh.len c50.fields)))=true then
     some true
    else
     Option.bind (FZ N p0 c50.fields) fun q57=>
     some (!q57)
   ) fun t52=>
   if t52=true then
    some (Sum.inl false)
   else
    Ch N c16 p0 n (Sh.w (t25+1))
  else
   some (Sum.inr ())
def DD (N:Nat) (p0:(List Ab)):Nat→Int→Option ((Bool) ⊕ (Unit))
 | 0,_=>none
 | n+1,t8=>
  if (decide (t8 < (Sh.len p0)))=true then
   Option.bind (Sh.get p0 t8) fun c16=>
   Option.bind (
    Option.bind (Ft p0 c16.from_) fun q58=>
    if (!q58)=true then
     some true
    else
     Option.bind (Ft p0 c16.to) fun q60=>
     if (!q60)=true then
      some true
     else
     if (decide (3 < (Sh.len c16.cons)))=true then
      some true
     else
     if (decide (0 < (Sh.len c16.cons)))=true then
      if (!decide (c16.from_=0))=true then
       some true
      else
       some (!decide (c16.to=0))
     else
      some false
   ) fun t19=>
   if t19=true then
    some (Sum.inl false)
   else
    Sh.cont (Ch N c16 p0 N 0) (fun x=>Sum.inl x) fun ()=>
    Option.bind (Sh.sl p0 0 t8) fun l28=>
    Sh.cont (Cg c16 l28 N 0) (fun x=>Sum.inl x) fun ()=>
    DD N p0 n (Sh.w (t8+1))
  else
   some (Sum.inr ())
def GL (N:Nat) (p0:(List Ab)):Option (Bool):=
 if (decide (4 < (Sh.len p0)))=true then
  some false
 else
  Sh.cont (DD N p0 N 0) (id) fun ()=>
  some true
def Cy (c18:BX):Nat→Int→Option ((Bool) ⊕ (Unit))
 | 0,_=>none
 | n+1,t26=>
  if (decide (t26 < (Sh.len c18.Ew)))=true then
   Option.bind (Sh.get c18.Ew t26) fun c33=>
   Option.bind (
    if (decide (c33 < 0))=true then
     some true
    else
    if (decide ((Sh.len c18.params)≤c33))=true then
     some true
    else
     Option.bind (Sh.get c18.params c33) fun c41=>
     if (decide (c41=0))=true then
      some true
     else
     if (decide (0 < t26))=true then
      Option.bind (Sh.get c18.Ew (Sh.w (t26 - 1))) fun c44=>
      some (decide (c33≤c44))
     else
      some false
   ) fun t35=>
   if t35=true then
    some (Sum.inl false)
   else
    Cy c18 n (Sh.w (t26+1))
  else
   some (Sum.inr ())
def Cz (N:Nat) (p0:(List Ab)) (p1:(List BX)):Nat→Int→Option ((Bool) ⊕ (Unit))
 | 0,_=>none
 | n+1,t10=>
  if (decide (t10 < (Sh.len p1)))=true then
   Option.bind (Sh.get p1 t10) fun c18=>
   Option.bind (
    if (decide (3 < (Sh.len c18.params)))=true then
     some true
    else
     Option.bind (FZ N p0 c18.params) fun q46=>
     if (!q46)=true then
      some true
     else
      Option.bind (Ft p0 c18.result) fun q48=>
      some (!q48)
   ) fun t21=>
   if t21=true then
    some (Sum.inl false)
   else
    Sh.cont (Cy c18 N 0) (fun x=>Sum.inl x) fun ()=>
    Cz N p0 p1 n (Sh.w (t10+1))
  else
   some (Sum.inr ())
def Gi (N:Nat) (p0:(List Ab)) (p1:(List BX)):Option (Bool):=
 Option.bind (
  Option.bind (GL N p0) fun q49=>
  if (!q49)=true then
   some true
  else
  if (decide ((Sh.len p1) < 1))=true then
   some true
  else
  if (decide (4 < (Sh.len p1)))=true then
   some true
  else
   Option.bind (Sh.get p1 0) fun c53=>
   if (decide (0 < (Sh.len c53.params)))=true then
    some true
   else
    some (!decide (c53.result=0))
 ) fun t4=>
 if t4=true then
  some false
 else
  Sh.cont (Cz N p0 p1 N 0) (id) fun ()=>
  some true
def DH (p0:(List Ab)):Nat→Int→Int→Option (Int)
 | 0,_,_=>none
 | n+1,n5,t6=>
  if (decide (t6 < (Sh.len p0)))=true then
   Option.bind (Sh.get p0 t6) fun c15=>
   DH p0 n (Sh.w (n5+(Sh.len c15.cons))) (Sh.w (t6+1))
  else
   some n5
def HJ (N:Nat) (p0:(List Ab)):Option (Int):=
 Option.bind (DH p0 N 0 0) fun n7=>
 some n7
def D0 (c14:Ab) (q10:Int):Nat→Int→(List Int)→Option ((List Int))
 | 0,_,_=>none
 | n+1,t15,l16=>
  if (decide (t15 < (Sh.len c14.cons)))=true then
   Option.bind (Sh.app l16 [Sh.w (q10+t15)] 8) fun l25=>
   D0 c14 q10 n (Sh.w (t15+1)) l25
  else
   some l16
def Fx (N:Nat) (p0:(List Ab)) (p1:Int):Option ((List Int)):=
 Option.bind (
  if (decide (p1 < 1))=true then
   some true
  else
   some (decide ((Sh.len p0) < p1))
 ) fun t4=>
 if t4=true then
  some []
 else
  Option.bind (Sh.sl p0 0 (Sh.w (p1 - 1))) fun l9=>
  Option.bind (HJ N l9) fun q10=>
  Option.bind (Sh.get p0 (Sh.w (p1 - 1))) fun c14=>
  Option.bind (D0 c14 q10 N 0 []) fun l17=>
  some l17
def Dw (p0:(List Ab)):Nat→Int→Int→Option ((Int×BU) ⊕ (Unit))
 | 0,_,_=>none
 | n+1,c4,t5=>
  if (decide (t5 < (Sh.len p0)))=true then
   Option.bind (Sh.get p0 t5) fun c13=>
   Option.bind (
    if (decide (0≤c4))=true then
     some (decide (c4 < (Sh.len c13.cons)))
    else
     some false
   ) fun t16=>
   if t16=true then
    Option.bind (Sh.get c13.cons c4) fun c20=>
    some (Sum.inl (Sh.w (t5+1),c20))
   else
    Dw p0 n (Sh.w (c4 - (Sh.len c13.cons))) (Sh.w (t5+1))
  else
   some (Sum.inr ())
def GS (N:Nat) (p0:(List Ab)) (p1:Int):Option (Int×BU):=
 Sh.cont (Dw p0 N p1 0) (id) fun ()=>
 some (-1,(BU.mk []))
def C6 (N:Nat) (p0:(List Ab)) (p1:Int):Option ((List Int)):=
 Option.bind (GS N p0 p1) fun q3=>
 some q3.2.fields
def Jd (N:Nat) (p0:BU) (p1:BU):Option (Bool):=
 Option.bind (HO N p0.fields p1.fields) fun q4=>
 if (!q4)=true then
  some false
 else
  some true
def Ek (N:Nat) (p0:(List BU)) (p1:(List BU)):Nat→Int→Option ((Bool) ⊕ (Unit))
 | 0,_=>none
 | n+1,i10=>
  if (decide (i10 < (Sh.len p0)))=true then
   Option.bind (Sh.get p0 i10) fun c18=>
   Option.bind (Sh.get p1 i10) fun c19=>
   Option.bind (Jd N c18 c19) fun q20=>
   if (!q20)=true then
    some (Sum.inl false)
   else
    Ek N p0 p1 n (Sh.w (i10+1))
  else
   some (Sum.inr ())
def Im (N:Nat) (p0:(List BU)) (p1:(List BU)):Option (Bool):=
 if (!decide ((Sh.len p0)=(Sh.len p1)))=true then
  some false
 else
  Sh.cont (Ek N p0 p1 N 0) (id) fun ()=>
  some true
def IY (N:Nat) (p0:Ab) (p1:Ab):Option (Bool):=
 if (!decide (p0.from_=p1.from_))=true then
  some false
 else
 if (!decide (p0.to=p1.to))=true then
  some false
 else
  Option.bind (Im N p0.cons p1.cons) fun q16=>
  if (!q16)=true then
   some false
  else
   some true
def EP (N:Nat) (p0:(List Ab)) (p1:(List Ab)):Nat→Int→Option ((Bool) ⊕ (Unit))
 | 0,_=>none
 | n+1,i10=>
  if (decide (i10 < (Sh.len p0)))=true then
   Option.bind (Sh.get p0 i10) fun c18=>
   Option.bind (Sh.get p1 i10) fun c19=>
   Option.bind (IY N c18 c19) fun q20=>
   if (!q20)=true then
    some (Sum.inl false)
   else
    EP N p0 p1 n (Sh.w (i10+1))
  else
   some (Sum.inr ())
def Hh (N:Nat) (p0:(List Ab)) (p1:(List Ab)):Option (Bool):=
 if (!decide ((Sh.len p0)=(Sh.len p1)))=true then
  some false
 else
  Sh.cont (EP N p0 p1 N 0) (id) fun ()=>
  some true
end RC


namespace RC
end RC


namespace RC
def Dg (p0:(List AG)) (rec_laws_szExpr:AG→Int→Option (Int)):Nat→Int→Int→Option ((Int) ⊕ (Int))
 | 0,_,_=>none
 | n+1,left9,i10=>
  if (decide (i10 < (Sh.len p0)))=true then
   Option.bind (Sh.get p0 i10) fun c19=>
   Option.bind (rec_laws_szExpr c19 left9) fun q20=>
   if (decide (q20 < 0))=true then
    some (Sum.inl (-1))
   else
    Dg p0 rec_laws_szExpr n q20 (Sh.w (i10+1))
  else
   some (Sum.inr left9)
def Hu (N:Nat) (rec_laws_szExpr:AG→Int→Option (Int)) (p0:(List AG)) (p1:Int):Option (Int):=
 if (decide ((Sh.w (p1 - (Sh.len p0))) < 0))=true then
  some (-1)
 else
  Sh.cont (Dg p0 rec_laws_szExpr N (Sh.w (p1 - (Sh.len p0))) 0) (id) fun left11=>
  some left11
def Iq (N:Nat) (rec_laws_szExpr:AG→Int→Option (Int)) (p0:AG) (p1:Int):Option (Int):=
 Option.bind (Hu N rec_laws_szExpr p0.kids p1) fun q3=>
 if (decide (q3 < 0))=true then
  some (-1)
 else
  some q3
def GM (N:Nat):Nat→AG→Int→Option (Int)
 | 0,_,_=>none
 | n+1,p0,p1=>Iq N (GM N n) p0 p1
def J2 (N:Nat) (p0:AG) (p1:Int):Option (Int):=GM N N p0 p1
def Iv (N:Nat) (p0:Am) (p1:Int):Option (Int):=
 Option.bind (HP p0.params p1) fun q3=>
 if (decide (q3 < 0))=true then
  some (-1)
 else
  Option.bind (J2 N p0.body q3) fun q9=>
  if (decide (q9 < 0))=true then
   some (-1)
  else
   some q9
def EK (N:Nat) (p0:(List Am)):Nat→Int→Int→Option ((Int) ⊕ (Int))
 | 0,_,_=>none
 | n+1,left9,i10=>
  if (decide (i10 < (Sh.len p0)))=true then
   Option.bind (Sh.get p0 i10) fun c19=>
   Option.bind (Iv N c19 left9) fun q20=>
   if (decide (q20 < 0))=true then
    some (Sum.inl (-1))
   else
    EK N p0 n q20 (Sh.w (i10+1))
  else
   some (Sum.inr left9)
def Hv (N:Nat) (p0:(List Am)) (p1:Int):Option (Int):=
 if (decide ((Sh.w (p1 - (Sh.len p0))) < 0))=true then
  some (-1)
 else
  Sh.cont (EK N p0 N (Sh.w (p1 - (Sh.len p0))) 0) (id) fun left11=>
  some left11
def Gr (N:Nat) (p0:Aa) (p1:Int):Option (Int):=
 Option.bind (Hf N p0.decls p1) fun q3=>
 if (decide (q3 < 0))=true then
  some (-1)
 else
  Option.bind (Hv N p0.funcs q3) fun q9=>
  if (decide (q9 < 0))=true then
   some (-1)
  else
   some q9
def EB (p0:(List AG)) (rec_laws_toExpr:AG→Option (AG)):Nat→Int→(List AG)→Option ((List AG))
 | 0,_,_=>none
 | n+1,i6,l7=>
  if (decide (i6 < (Sh.len p0)))=true then
   Option.bind (Sh.get p0 i6) fun c15=>
   Option.bind (rec_laws_toExpr c15) fun q16=>
   Option.bind (Sh.get l7 i6) fun c17=>
   EB p0 rec_laws_toExpr n (Sh.w (i6+1)) (Sh.put l7 i6 q16)
  else
   some l7
def JU (N:Nat) (rec_laws_toExpr:AG→Option (AG)) (p0:(List AG)):Option ((List AG)):=
 Option.bind (Sh.mk (AG.mk 0 0 []) (Sh.len p0) 40) fun l3=>
 Option.bind (EB p0 rec_laws_toExpr N 0 l3) fun l8=>
 some l8
def Ix (N:Nat) (rec_laws_toExpr:AG→Option (AG)) (p0:AG):Option (AG):=
 Option.bind (JU N rec_laws_toExpr p0.kids) fun q6=>
 some (AG.mk p0.op p0.num q6)
def FP (N:Nat):Nat→AG→Option (AG)
 | 0,_=>none
 | n+1,p0=>Ix N (FP N n) p0
def J4 (N:Nat) (p0:AG):Option (AG):=FP N N p0
def I1 (N:Nat) (p0:Am):Option (Am):=
 Option.bind (HR N p0.params) fun q4=>
 Option.bind (J4 N p0.body) fun q7=>
 some (Am.mk q4 p0.result q7)
def ER (N:Nat) (p0:(List Am)):Nat→Int→(List Am)→Option ((List Am))
 | 0,_,_=>none
 | n+1,i6,l7=>
  if (decide (i6 < (Sh.len p0)))=true then
   Option.bind (Sh.get p0 i6) fun c15=>
   Option.bind (I1 N c15) fun q16=>
   Option.bind (Sh.get l7 i6) fun c17=>
   ER N p0 n (Sh.w (i6+1)) (Sh.put l7 i6 q16)
  else
   some l7
def Hk (N:Nat) (p0:(List Am)):Option ((List Am)):=
 Option.bind (Sh.mk (Am.mk [] 0 (AG.mk 0 0 [])) (Sh.len p0) 72) fun l3=>
 Option.bind (ER N p0 N 0 l3) fun l8=>
 some l8
def Ef (N:Nat) (p0:Aa):Option (Aa):=
 Option.bind (Hr N p0.decls) fun q4=>
 Option.bind (Hk N p0.funcs) fun q6=>
 some (Aa.mk q4 q6)
def CV (p0:AG) (rec_spec_nodesLeft:AG→Int→Option (Int)):Nat→Int→Int→Option ((Int) ⊕ (Int))
 | 0,_,_=>none
 | n+1,left9,i10=>
  if (decide (i10 < (Sh.len p0.kids)))=true then
   Option.bind (Sh.get p0.kids i10) fun c19=>
   Option.bind (rec_spec_nodesLeft c19 left9) fun q20=>
   if (decide (q20 < 0))=true then
    some (Sum.inl (-1))
   else
    CV p0 rec_spec_nodesLeft n q20 (Sh.w (i10+1))
  else
   some (Sum.inr left9)
def G2 (N:Nat) (rec_spec_nodesLeft:AG→Int→Option (Int)) (p0:AG) (p1:Int):Option (Int):=
 if (decide (p1 < 1))=true then
  some (-1)
 else
  Sh.cont (CV p0 rec_spec_nodesLeft N (Sh.w (p1 - 1)) 0) (id) fun left11=>
  some left11
def Dn (N:Nat):Nat→AG→Int→Option (Int)
 | 0,_,_=>none
 | n+1,p0,p1=>G2 N (Dn N n) p0 p1
def Jt (N:Nat) (p0:AG) (p1:Int):Option (Int):=Dn N N p0 p1
def F7 (N:Nat) (p0:AG):Option (Int):=
 Option.bind (Jt N p0 30) fun q3=>
 if (decide (q3 < 0))=true then
  some (-1)
 else
  some (Sh.w (30 - q3))
def EG (p0:Aa) (p1:(List Int)) (p2:(List AG)) (p3:Int) (rec_spec_typeOf:Aa→(List Int)→AG→Option (Int)):Nat→Int→Option ((Bool) ⊕ (Unit))
 | 0,_=>none
 | n+1,i10=>
  if (decide (i10 < p3))=true then
   Option.bind (Sh.get p2 i10) fun c18=>
   Option.bind (rec_spec_typeOf p0 p1 c18) fun q19=>
   if (!decide (q19=0))=true then
    some (Sum.inl false)
   else
    EG p0 p1 p2 p3 rec_spec_typeOf n (Sh.w (i10+1))
  else
   some (Sum.inr ())
def Gs (N:Nat) (rec_spec_typeOf:Aa→(List Int)→AG→Option (Int)) (p0:Aa) (p1:(List Int)) (p2:(List AG)) (p3:Int):Option (Bool):=
 if (!decide ((Sh.len p2)=p3))=true then
  some false
 else
  Sh.cont (EG p0 p1 p2 p3 rec_spec_typeOf N 0) (id) fun ()=>
  some true
def E3 (p0:Aa) (p1:(List Int)) (p2:(List AG)) (p3:(List Int)) (rec_spec_typeOf:Aa→(List Int)→AG→Option (Int)):Nat→Int→Option ((Bool) ⊕ (Unit))
 | 0,_=>none
 | n+1,i10=>
  if (decide (i10 < (Sh.len p3)))=true then
   Option.bind (Sh.get p2 i10) fun c18=>
   Option.bind (rec_spec_typeOf p0 p1 c18) fun q19=>
   Option.bind (Sh.get p3 i10) fun c20=>
   if (!decide (q19=c20))=true then
    some (Sum.inl false)
   else
    E3 p0 p1 p2 p3 rec_spec_typeOf n (Sh.w (i10+1))
  else
   some (Sum.inr ())
def HL (N:Nat) (rec_spec_typeOf:Aa→(List Int)→AG→Option (Int)) (p0:Aa) (p1:(List Int)) (p2:(List AG)) (p3:(List Int)):Option (Bool):=
 if (!decide ((Sh.len p2)=(Sh.len p3)))=true then
  some false
 else
  Sh.cont (E3 p0 p1 p2 p3 rec_spec_typeOf N 0) (id) fun ()=>
  some true
def DQ (p0:(List Int)):Option ((List Int)):=
 Option.bind (Sh.app ([]:List Int) p0 8) fun l3=>
 some l3
def F3 (p0:(List Int)) (p1:(List Int)):Option ((List Int)):=
 Option.bind (DQ p0) fun q3=>
 Option.bind (Sh.app q3 p1 8) fun l4=>
 some l4
def C1 (N:Nat) (p0:Aa) (p1:(List Int)) (p2:AG) (q15:Int) (q3:(List Int)) (rec_spec_typeOf:Aa→(List Int)→AG→Option (Int)):Nat→Int→Option ((Int) ⊕ (Unit))
 | 0,_=>none
 | n+1,i18=>
  if (decide (i18 < (Sh.len q3)))=true then
   Option.bind (Sh.get q3 i18) fun c26=>
   Option.bind (CU N p0.decls c26) fun q27=>
   Option.bind (F3 p1 q27) fun q28=>
   Option.bind (Sh.get p2.kids (Sh.w (1+i18))) fun c29=>
   Option.bind (rec_spec_typeOf p0 q28 c29) fun q30=>
   if (!decide (q30=q15))=true then
    some (Sum.inl (-1))
   else
    C1 N p0 p1 p2 q15 q3 rec_spec_typeOf n (Sh.w (i18+1))
  else
   some (Sum.inr ())
def H4 (N:Nat) (rec_spec_typeOf:Aa→(List Int)→AG→Option (Int)) (p0:Aa) (p1:(List Int)) (p2:AG):Option (Int):=
 Option.bind (HT N p0.decls p2.num) fun q3=>
 Option.bind (
  if (decide ((Sh.len q3)=0))=true then
   some true
  else
  if (!decide ((Sh.len p2.kids)=(Sh.w (1+(Sh.len q3)))))=true then
   some true
  else
   Option.bind (Sh.get p2.kids 0) fun c37=>
   Option.bind (rec_spec_typeOf p0 p1 c37) fun q38=>
   some (!decide (q38=p2.num))
 ) fun t6=>
 if t6=true then
  some (-1)
 else
  Option.bind (Sh.get q3 0) fun c11=>
  Option.bind (CU N p0.decls c11) fun q12=>
  Option.bind (F3 p1 q12) fun q13=>
  Option.bind (Sh.get p2.kids 1) fun c14=>
  Option.bind (rec_spec_typeOf p0 q13 c14) fun q15=>
  Sh.cont (C1 N p0 p1 p2 q15 q3 rec_spec_typeOf N 1) (id) fun ()=>
  some q15
def Df (p0:(List Ab)) (p1:Int) (p2:Int):Nat→Int→Option ((Int) ⊕ (Unit))
 | 0,_=>none
 | n+1,i4=>
  if (decide (i4 < (Sh.len p0)))=true then
   Option.bind (
    Option.bind (Sh.get p0 i4) fun c16=>
    if (decide ((Sh.len c16.cons)=0))=true then
     if (decide (c16.from_=p1))=true then
      some (decide (c16.to=p2))
     else
      some false
    else
     some false
   ) fun t12=>
   if t12=true then
    some (Sum.inl (Sh.w (i4+1)))
   else
    Df p0 p1 p2 n (Sh.w (i4+1))
  else
   some (Sum.inr ())
def Hn (N:Nat) (p0:(List Ab)) (p1:Int) (p2:Int):Option (Int):=
 Sh.cont (Df p0 p1 p2 N 0) (id) fun ()=>
 some (-1)
def E5 (N:Nat) (rec_spec_typeOf:Aa→(List Int)→AG→Option (Int)) (p0:Aa) (p1:(List Int)) (p2:AG):Option (Int):=
 Option.bind (CL p2.num 0 (Sh.w ((Sh.len p0.funcs) - 1))) fun q4=>
 if (!q4)=true then
  some (-1)
 else
  Option.bind (Sh.get p0.funcs p2.num) fun c10=>
  if (decide (p2.op=9))=true then
   Option.bind (HL N rec_spec_typeOf p0 p1 p2.kids c10.params) fun q17=>
   if (!q17)=true then
    some (-1)
   else
    some c10.result
  else
   Option.bind (
    if (decide ((Sh.len c10.params)=0))=true then
     some true
    else
     Option.bind (Sh.sl c10.params 0 (Sh.w ((Sh.len c10.params) - 1))) fun l33=>
     Option.bind (HL N rec_spec_typeOf p0 p1 p2.kids l33) fun q34=>
     some (!q34)
   ) fun t25=>
   if t25=true then
    some (-1)
   else
    Option.bind (Sh.get c10.params (Sh.w ((Sh.len c10.params) - 1))) fun c30=>
    Option.bind (Hn N p0.decls c30 c10.result) fun q31=>
    some q31
def Hw (p0:(List Ab)) (p1:Int):Option (Bool):=
 Option.bind (
  Option.bind (CL p1 1 (Sh.len p0)) fun q5=>
  if q5=true then
   Option.bind (Sh.get p0 (Sh.w (p1 - 1))) fun c7=>
   some (decide ((Sh.len c7.cons)=0))
  else
   some false
 ) fun t3=>
 some t3
def BN (N:Nat) (rec_spec_typeOf:Aa→(List Int)→AG→Option (Int)) (p0:Aa) (p1:(List Int)) (p2:AG):Option (Int):=
 Sh.cont (
  if (decide (p2.op=0))=true then
   Option.bind (
    if (decide ((Sh.len p2.kids)=0))=true then
     Option.bind (CL p2.num (-999) 999) fun q15=>
     some q15
    else
     some false
   ) fun t10=>
   if t10=true then
    some (Sum.inl 0)
   else
    some (Sum.inr ())
  else
  if (decide (p2.op=12))=true then
   Option.bind (
    if (decide ((Sh.len p2.kids)=0))=true then
     Option.bind (CL p2.num 0 (Sh.w ((Sh.len p1) - 1))) fun q25=>
     some q25
    else
     some false
   ) fun t19=>
   if t19=true then
    Option.bind (Sh.get p1 p2.num) fun c23=>
    some (Sum.inl c23)
   else
    some (Sum.inr ())
  else
   Option.bind (
    if (decide (p2.op=1))=true then
     some true
    else
    if (decide (p2.op=2))=true then
     some true
    else
    if (decide (p2.op=3))=true then
     some true
    else
     some (decide (p2.op=4))
   ) fun t27=>
   if t27=true then
    Option.bind (
     if (decide (p2.num=0))=true then
      Option.bind (Gs N rec_spec_typeOf p0 p1 p2.kids 2) fun q36=>
      some q36
     else
      some false
    ) fun t31=>
    if t31=true then
     some (Sum.inl 0)
    else
     some (Sum.inr ())
   else
   if (decide (p2.op=5))=true then
    Option.bind (
     if (decide (p2.num=0))=true then
      Option.bind (Gs N rec_spec_typeOf p0 p1 p2.kids 1) fun q45=>
      some q45
     else
      some false
    ) fun t40=>
    if t40=true then
     some (Sum.inl 0)
    else
     some (Sum.inr ())
   else
   if (decide (p2.op=6))=true then
    Option.bind (
     Option.bind (Ey N p0.decls p2.num) fun q54=>
     if (decide (0 < q54))=true then
      Option.bind (CU N p0.decls p2.num) fun q56=>
      Option.bind (HL N rec_spec_typeOf p0 p1 p2.kids q56) fun q57=>
      some q57
     else
      some false
    ) fun t49=>
    if t49=true then
     Option.bind (Ey N p0.decls p2.num) fun q53=>
     some (Sum.inl q53)
    else
     some (Sum.inr ())
   else
   if (decide (p2.op=13))=true then
    Option.bind (
     if (decide (p2.num=0))=true then
      some (decide ((Sh.len p2.kids)=2))
     else
      some false
    ) fun t61=>
    if t61=true then
     Option.bind (Sh.get p2.kids 0) fun c65=>
     Option.bind (rec_spec_typeOf p0 p1 c65) fun q66=>
     if (decide (0≤q66))=true then
      Option.bind (F3 p1 [q66]) fun q70=>
      Option.bind (Sh.get p2.kids 1) fun c71=>
      Option.bind (rec_spec_typeOf p0 q70 c71) fun q72=>
      some (Sum.inl q72)
     else
      some (Sum.inr ())
    else
     some (Sum.inr ())
   else
   if (decide (p2.op=7))=true then
    Option.bind (
     if (decide (p2.num=0))=true then
      if (decide ((Sh.len p2.kids)=3))=true then
       Option.bind (Sh.get p2.kids 0) fun c90=>
       Option.bind (rec_spec_typeOf p0 p1 c90) fun q91=>
       some (decide (q91=0))
      else
       some false
     else
      some false
    ) fun t77=>
    if t77=true then
     Option.bind (Sh.get p2.kids 1) fun c81=>
     Option.bind (rec_spec_typeOf p0 p1 c81) fun q82=>
     Option.bind (Sh.get p2.kids 2) fun c84=>
     Option.bind (rec_spec_typeOf p0 p1 c84) fun q85=>
     if (decide (q85=q82))=true then
      some (Sum.inl q82)
     else
      some (Sum.inr ())
    else
     some (Sum.inr ())
   else
   if (decide (p2.op=8))=true then
    Option.bind (H4 N rec_spec_typeOf p0 p1 p2) fun q95=>
    some (Sum.inl q95)
   else
    Option.bind (
     if (decide (p2.op=9))=true then
      some true
     else
      some (decide (p2.op=10))
    ) fun t97=>
    if t97=true then
     Option.bind (E5 N rec_spec_typeOf p0 p1 p2) fun q101=>
     some (Sum.inl q101)
    else
    if (decide (p2.op=11))=true then
     Option.bind (
      if (decide (p2.num=0))=true then
       some (decide ((Sh.len p2.kids)=2))
      else
       some false
     ) fun t105=>
     if t105=true then
      Option.bind (Sh.get p2.kids 0) fun c109=>
      Option.bind (rec_spec_typeOf p0 p1 c109) fun q110=>
      Option.bind (
       Option.bind (Hw p0.decls q110) fun q117=>
       if q117=true then
        Option.bind (Sh.get p2.kids 1) fun c119=>
        Option.bind (rec_spec_typeOf p0 p1 c119) fun q120=>
        Option.bind (Sh.get p0.decls (Sh.w (q110 - 1))) fun c121=>
        some (decide (q120=c121.from_))
       else
        some false
      ) fun t112=>
      if t112=true then
       Option.bind (Sh.get p0.decls (Sh.w (q110 - 1))) fun c116=>
       some (Sum.inl c116.to)
      else
       some (Sum.inr ())
     else
      some (Sum.inr ())
    else
     some (Sum.inr ())
 ) (id) fun ()=>
 some (-1)
def B4 (N:Nat):Nat→Aa→(List Int)→AG→Option (Int)
 | 0,_,_,_=>none
 | n+1,p0,p1,p2=>BN N (B4 N n) p0 p1 p2
def Jy (N:Nat) (p0:Aa) (p1:(List Int)) (p2:AG):Option (Int):=B4 N N p0 p1 p2
def Br (N:Nat) (p0:Aa):Nat→Int→Option ((Bool) ⊕ (Unit))
 | 0,_=>none
 | n+1,i11=>
  if (decide (i11 < (Sh.len p0.funcs)))=true then
   Option.bind (
    Option.bind (Sh.get p0.funcs i11) fun c23=>
    Option.bind (F7 N c23.body) fun q24=>
    if (decide (q24 < 0))=true then
     some true
    else
     Option.bind (Jy N p0 c23.params c23.body) fun q26=>
     some (!decide (q26=c23.result))
   ) fun t19=>
   if t19=true then
    some (Sum.inl false)
   else
    Br N p0 n (Sh.w (i11+1))
  else
   some (Sum.inr ())
def Cc (N:Nat) (p0:Aa):Option (Bool):=
 Option.bind (Fk N p0) fun q4=>
 if (!q4)=true then
  some false
 else
  Sh.cont (Br N p0 N 0) (id) fun ()=>
  some true
def Cd (p0:Aa):Nat→Int→(List BX)→Option ((List BX))
 | 0,_,_=>none
 | n+1,t9,l10=>
  if (decide (t9 < (Sh.len p0.funcs)))=true then
   Option.bind (Sh.get p0.funcs t9) fun c20=>
   Option.bind (Sh.app l10 ([(BX.mk c20.params [] c20.result)]) 56) fun l21=>
   Cd p0 n (Sh.w (t9+1)) l21
  else
   some l10
def Fl (N:Nat) (p0:Aa):Option (Bool):=
 if (decide (4 < (Sh.len p0.funcs)))=true then
  some false
 else
  Option.bind (Cd p0 N 0 []) fun l11=>
  Option.bind (Gi N p0.decls l11) fun q14=>
  some q14
def CG (p0:AG) (rec_impl_countNodes:Int→AG→Option (Bool×Int)):Nat→Int→Int→Option ((Bool×Int) ⊕ (Int))
 | 0,_,_=>none
 | n+1,t9,f10=>
  if (decide (t9 < (Sh.len p0.kids)))=true then
   Option.bind (Sh.get p0.kids t9) fun c19=>
   Option.bind (rec_impl_countNodes f10 c19) fun q21=>
   if (!q21.1)=true then
    some (Sum.inl (false,q21.2))
   else
    CG p0 rec_impl_countNodes n (Sh.w (t9+1)) q21.2
  else
   some (Sum.inr f10)
def GV (N:Nat) (rec_impl_countNodes:Int→AG→Option (Bool×Int)) (s0_0:Int) (p0:AG):Option (Bool×Int):=
 if (decide (30 < (Sh.w (s0_0+1))))=true then
  some (false,Sh.w (s0_0+1))
 else
  Sh.cont (CG p0 rec_impl_countNodes N 0 (Sh.w (s0_0+1))) (id) fun f11=>
  some (true,f11)
def Dc (N:Nat):Nat→Int→AG→Option (Bool×Int)
 | 0,_,_=>none
 | n+1,s0_0,p0=>GV N (Dc N n) s0_0 p0
def JD (N:Nat) (s0_0:Int) (p0:AG):Option (Bool×Int):=Dc N N s0_0 p0
def Gw (N:Nat) (p0:AG):Option (Int):=
 Option.bind (JD N 0 p0) fun q5=>
 if (!q5.1)=true then
  some (-1)
 else
  some q5.2
def D5 (p0:Aa):Nat→Int→(List BX)→Option ((List BX))
 | 0,_,_=>none
 | n+1,t5,l6=>
  if (decide (t5 < (Sh.len p0.funcs)))=true then
   Option.bind (Sh.get p0.funcs t5) fun c15=>
   Option.bind (Sh.app l6 ([(BX.mk c15.params [] c15.result)]) 56) fun l16=>
   D5 p0 n (Sh.w (t5+1)) l16
  else
   some l6
def Is (N:Nat) (p0:Aa):Option (A6):=
 Option.bind (D5 p0 N 0 []) fun l7=>
 some (A6.mk p0.decls l7)
def E4 (p1:Int):Option ((List Int)):=
 if (decide (p1 < 0))=true then
  none
 else
  Option.bind (
   if (decide (0 < (Sh.w (p1 - (Sh.w (0 - 0))))))=true then
    Option.bind (Sh.mk 0 (Sh.w (p1 - (Sh.w (0 - 0)))) 8) fun l12=>
    Option.bind (Sh.hi l12 0) fun l13=>
    some l13
   else
    some []
  ) fun l6=>
  some l6
def Bq (p0:(List (List Int))):Nat→Int→(List Int)→Option ((List Int))
 | 0,_,_=>none
 | n+1,t13,l14=>
  if (decide (t13 < (Sh.len p0)))=true then
   Option.bind (Sh.get p0 t13) fun c23=>
   Option.bind (Sh.app l14 c23 8) fun l24=>
   Bq p0 n (Sh.w (t13+1)) l24
  else
   some l14
def Bo (p0:(List (List Int))):Nat→Int→Int→Option (Int)
 | 0,_,_=>none
 | n+1,size5,t6=>
  if (decide (t6 < (Sh.len p0)))=true then
   Option.bind (Sh.get p0 t6) fun c30=>
   if (decide ((Sh.w (size5+(Sh.len c30))) < 0))=true then
    none
   else
    Bo p0 n (Sh.w (size5+(Sh.len c30))) (Sh.w (t6+1))
  else
   some size5
def Eb (N:Nat) (p0:(List (List Int))):Option ((List Int)):=
 Option.bind (Bo p0 N 0 0) fun size7=>
 Option.bind (E4 size7) fun q10=>
 Option.bind (Bq p0 N 0 q10) fun l15=>
 some l15
def BI (N:Nat) (p0:A6) (p1:(List Int)) (p2:(List AG)) (p3:(List (List Int))) (rec_impl_signatures_typeOf:(List Int)→A6→AG→Option (Int)):Nat→Int→Int→Option ((Int) ⊕ (Int))
 | 0,_,_=>none
 | n+1,result5,t6=>
  if (decide (t6 < (Sh.len p2)))=true then
   Option.bind (Sh.get p2 t6) fun c15=>
   Option.bind (Sh.get p3 t6) fun c17=>
   Option.bind (Eb N [p1,c17]) fun q18=>
   Option.bind (rec_impl_signatures_typeOf q18 p0 c15) fun q19=>
   Option.bind (
    if (decide (q19 < 0))=true then
     some true
    else
    if (decide (0 < t6))=true then
     some (!decide (q19=result5))
    else
     some false
   ) fun t23=>
   if t23=true then
    some (Sum.inl (-1))
   else
    BI N p0 p1 p2 p3 rec_impl_signatures_typeOf n q19 (Sh.w (t6+1))
  else
   some (Sum.inr result5)
def C8 (N:Nat) (rec_impl_signatures_typeOf:(List Int)→A6→AG→Option (Int)) (p0:A6) (p1:(List Int)) (p2:(List AG)) (p3:(List (List Int))):Option (Int):=
 Sh.cont (BI N p0 p1 p2 p3 rec_impl_signatures_typeOf N (-1) 0) (id) fun result7=>
 some result7
def Hg (p0:(List Ab)) (p1:Int):Option (Ab×Bool):=
 Option.bind (
  if (decide (p1 < 1))=true then
   some true
  else
  if (decide ((Sh.len p0) < p1))=true then
   some true
  else
   Option.bind (Sh.get p0 (Sh.w (p1 - 1))) fun c12=>
   some (decide (0 < (Sh.len c12.cons)))
 ) fun t4=>
 if t4=true then
  some ((Ab.mk 0 0 []),false)
 else
  Option.bind (Sh.get p0 (Sh.w (p1 - 1))) fun c9=>
  some (c9,true)
def B7 (p0:(List Int)) (p1:(List Int)):Nat→Int→Option ((Bool) ⊕ (Unit))
 | 0,_=>none
 | n+1,t10=>
  if (decide (t10 < (Sh.len p0)))=true then
   Option.bind (Sh.get p0 t10) fun c19=>
   Option.bind (Sh.get p1 t10) fun c20=>
   if (!decide (c19=c20))=true then
    some (Sum.inl false)
   else
    B7 p0 p1 n (Sh.w (t10+1))
  else
   some (Sum.inr ())
def CH (N:Nat) (p0:(List Int)) (p1:(List Int)):Option (Bool):=
 if (!decide ((Sh.len p0)=(Sh.len p1)))=true then
  some false
 else
  Sh.cont (B7 p0 p1 N 0) (id) fun ()=>
  some true
def De (p0:(List Ab)) (p1:Int) (p2:Int):Nat→Int→Option ((Int) ⊕ (Unit))
 | 0,_=>none
 | n+1,t4=>
  if (decide (t4 < (Sh.len p0)))=true then
   Option.bind (Sh.get p0 t4) fun c12=>
   Option.bind (
    if (decide ((Sh.len c12.cons)=0))=true then
     if (decide (c12.from_=p1))=true then
      some (decide (c12.to=p2))
     else
      some false
    else
     some false
   ) fun t14=>
   if t14=true then
    some (Sum.inl (Sh.w (t4+1)))
   else
    De p0 p1 p2 n (Sh.w (t4+1))
  else
   some (Sum.inr ())
def Hq (N:Nat) (p0:(List Ab)) (p1:Int) (p2:Int):Option (Int):=
 Sh.cont (De p0 p1 p2 N 0) (id) fun ()=>
 some (-1)
def A2 (N:Nat) (p0:A6) (p1:Int) (p2:Int) (p3:(List Int)):Option (Int×Bool):=
 Sh.cont (
  if (decide (p1=0))=true then
   Option.bind (
    if (decide ((-999)≤p2))=true then
     if (decide (p2≤999))=true then
      some (decide ((Sh.len p3)=0))
     else
      some false
    else
     some false
   ) fun t15=>
   some (Sum.inl (0,t15))
  else
   Option.bind (
    if (decide (p1=1))=true then
     some true
    else
    if (decide (p1=2))=true then
     some true
    else
    if (decide (p1=3))=true then
     some true
    else
     some (decide (p1=4))
   ) fun t20=>
   if t20=true then
    some (Sum.inr [(0:Int),0])
   else
   if (decide (p1=5))=true then
    some (Sum.inr [(0:Int)])
   else
   if (decide (p1=11))=true then
    if (!decide ((Sh.len p3)=2))=true then
     some (Sum.inl (-1,false))
    else
     Option.bind (Sh.get p3 0) fun c34=>
     Option.bind (Hg p0.decls c34) fun q35=>
     Option.bind (
      if q35.2=true then
       Option.bind (Sh.get p3 1) fun c41=>
       if (decide (c41=q35.1.from_))=true then
        some (decide (p2=0))
       else
        some false
      else
       some false
     ) fun t38=>
     some (Sum.inl (q35.1.to,t38))
   else
   if (decide (p1=6))=true then
    Option.bind (GS N p0.decls p2) fun q40=>
    Option.bind (
     if (decide (0≤q40.1))=true then
      Option.bind (CH N p3 q40.2.fields) fun q45=>
      some q45
     else
      some false
    ) fun t42=>
    some (Sum.inl (q40.1,t42))
   else
    Option.bind (
     if (decide (p1=9))=true then
      some true
     else
      some (decide (p1=10))
    ) fun t47=>
    if t47=true then
     Option.bind (
      if (decide (p2 < 0))=true then
       some true
      else
       some (decide ((Sh.len p0.funcs)≤p2))
     ) fun t52=>
     if t52=true then
      some (Sum.inl (-1,false))
     else
      Option.bind (Sh.get p0.funcs p2) fun c57=>
      if (decide (p1=9))=true then
       Option.bind (CH N p3 c57.params) fun q62=>
       some (Sum.inl (c57.result,q62))
      else
      if (decide ((Sh.w ((Sh.len c57.params) - 1)) < 0))=true then
       some (Sum.inl (-1,false))
      else
       Option.bind (Sh.get c57.params (Sh.w ((Sh.len c57.params) - 1))) fun c69=>
       Option.bind (Hq N p0.decls c69 c57.result) fun q70=>
       Option.bind (
        if (decide (0≤q70))=true then
         Option.bind (Sh.sl c57.params 0 (Sh.w ((Sh.len c57.params) - 1))) fun l75=>
         Option.bind (CH N p3 l75) fun q76=>
         some q76
        else
         some false
       ) fun t72=>
       some (Sum.inl (q70,t72))
    else
     some (Sum.inl (-1,false))
 ) (id) fun l4=>
 Option.bind (
  if (decide (p2=0))=true then
   Option.bind (CH N p3 l4) fun q10=>
   some q10
  else
   some false
 ) fun t7=>
 some (0,t7)
def Bb (N:Nat) (p0:A6) (q56:(List Int)):Nat→Int→(List (List Int))→Option ((List (List Int)))
 | 0,_,_=>none
 | n+1,t67,l68=>
  if (decide (t67 < (Sh.len q56)))=true then
   Option.bind (Sh.get q56 t67) fun c79=>
   Option.bind (C6 N p0.decls c79) fun q80=>
   Option.bind (Sh.get l68 t67) fun c81=>
   Bb N p0 q56 n (Sh.w (t67+1)) (Sh.put l68 t67 q80)
  else
   some l68
def Ba (s0:(List Int)) (p0:A6) (p2:AG) (rec_impl_signatures_typeOf:(List Int)→A6→AG→Option (Int)):Nat→Int→(List Int)→Option ((Int) ⊕ ((List Int)))
 | 0,_,_=>none
 | n+1,t90,l91=>
  if (decide (t90 < (Sh.len p2.kids)))=true then
   Option.bind (Sh.get p2.kids t90) fun c108=>
   Option.bind (rec_impl_signatures_typeOf s0 p0 c108) fun q110=>
   Option.bind (Sh.get l91 t90) fun c111=>
   Option.bind (Sh.get (Sh.put l91 t90 q110) t90) fun c113=>
   if (decide (c113 < 0))=true then
    some (Sum.inl (-1))
   else
    Ba s0 p0 p2 rec_impl_signatures_typeOf n (Sh.w (t90+1)) (Sh.put l91 t90 q110)
  else
   some (Sum.inr l91)
def Ap (N:Nat) (rec_impl_signatures_typeOf:(List Int)→A6→AG→Option (Int)) (s0:(List Int)) (p0:A6) (p2:AG):Option (Int):=
 if (decide (p2.op=12))=true then
  Option.bind (
   if (decide (0 < (Sh.len p2.kids)))=true then
    some true
   else
   if (decide (p2.num < 0))=true then
    some true
   else
    some (decide ((Sh.len s0)≤p2.num))
  ) fun t8=>
  if t8=true then
   some (-1)
  else
   Option.bind (Sh.get s0 p2.num) fun c13=>
   some c13
 else
 if (decide (p2.op=13))=true then
  Option.bind (
   if (!decide ((Sh.len p2.kids)=2))=true then
    some true
   else
    some (!decide (p2.num=0))
  ) fun t20=>
  if t20=true then
   some (-1)
  else
   Option.bind (Sh.get p2.kids 0) fun c25=>
   Option.bind (rec_impl_signatures_typeOf s0 p0 c25) fun q26=>
   if (decide (q26 < 0))=true then
    some (-1)
   else
    Option.bind (Sh.app s0 [q26] 8) fun l32=>
    Option.bind (Sh.get p2.kids 1) fun c33=>
    Option.bind (rec_impl_signatures_typeOf l32 p0 c33) fun q34=>
    some q34
 else
 if (decide (p2.op=7))=true then
  Option.bind (
   if (!decide ((Sh.len p2.kids)=3))=true then
    some true
   else
   if (!decide (p2.num=0))=true then
    some true
   else
    Option.bind (Sh.get p2.kids 0) fun c51=>
    Option.bind (rec_impl_signatures_typeOf s0 p0 c51) fun q52=>
    some (!decide (q52=0))
  ) fun t41=>
  if t41=true then
   some (-1)
  else
   Option.bind (Sh.sl p2.kids 1 (Sh.len p2.kids)) fun l46=>
   Option.bind (Sh.mk [] 2 24) fun l47=>
   Option.bind (C8 N rec_impl_signatures_typeOf p0 s0 l46 l47) fun q48=>
   some q48
 else
 if (decide (p2.op=8))=true then
  Option.bind (Fx N p0.decls p2.num) fun q56=>
  Option.bind (
   if (decide ((Sh.len q56)=0))=true then
    some true
   else
   if (!decide ((Sh.len p2.kids)=(Sh.w (1+(Sh.len q56)))))=true then
    some true
   else
    Option.bind (Sh.get p2.kids 0) fun c84=>
    Option.bind (rec_impl_signatures_typeOf s0 p0 c84) fun q85=>
    some (!decide (q85=p2.num))
  ) fun t59=>
  if t59=true then
   some (-1)
  else
   Option.bind (Sh.mk [] (Sh.len q56) 24) fun l64=>
   Option.bind (Bb N p0 q56 N 0 l64) fun l69=>
   Option.bind (Sh.sl p2.kids 1 (Sh.len p2.kids)) fun l72=>
   Option.bind (C8 N rec_impl_signatures_typeOf p0 s0 l72 l69) fun q73=>
   some q73
 else
  Option.bind (Sh.mk 0 (Sh.len p2.kids) 8) fun l87=>
  Sh.cont (Ba s0 p0 p2 rec_impl_signatures_typeOf N 0 l87) (id) fun l92=>
  Option.bind (A2 N p0 p2.op p2.num l92) fun q95=>
  if (!q95.2)=true then
   some (-1)
  else
   some q95.1
def BO (N:Nat):Nat→(List Int)→A6→AG→Option (Int)
 | 0,_,_,_=>none
 | n+1,s0,p0,p2=>Ap N (BO N n) s0 p0 p2
def GP (N:Nat) (s0:(List Int)) (p0:A6) (p2:AG):Option (Int):=BO N N s0 p0 p2
def Jx (N:Nat) (p0:Aa) (p1:(List Int)) (p2:AG):Option (Int):=
 Option.bind (
  Option.bind (Fl N p0) fun q13=>
  if (!q13)=true then
   some true
  else
   Option.bind (Gw N p2) fun q15=>
   if (decide (q15 < 0))=true then
    some true
   else
    Option.bind (FZ N p0.decls p1) fun q17=>
    some (!q17)
 ) fun t4=>
 if t4=true then
  some (-1)
 else
  Option.bind (Is N p0) fun q9=>
  Option.bind (Bh p1) fun q10=>
  Option.bind (GP N q10 q9 p2) fun q11=>
  some q11
def Ce (N:Nat) (p0:Aa):Nat→Int→Option ((Bool) ⊕ (Unit))
 | 0,_=>none
 | n+1,t11=>
  if (decide (t11 < (Sh.len p0.funcs)))=true then
   Option.bind (Sh.get p0.funcs t11) fun c19=>
   Option.bind (Jx N p0 c19.params c19.body) fun q21=>
   if (!decide (q21=c19.result))=true then
    some (Sum.inl false)
   else
    Ce N p0 n (Sh.w (t11+1))
  else
   some (Sum.inr ())
def Es (N:Nat) (p0:Aa):Option (Bool):=
 Option.bind (Fl N p0) fun q4=>
 if (!q4)=true then
  some false
 else
  Sh.cont (Ce N p0 N 0) (id) fun ()=>
  some true
def EM (p0:(List AG)) (p1:(List AG)) (rec_laws_eqExpr:AG→AG→Option (Bool)):Nat→Int→Option ((Bool) ⊕ (Unit))
 | 0,_=>none
 | n+1,i10=>
  if (decide (i10 < (Sh.len p0)))=true then
   Option.bind (Sh.get p0 i10) fun c18=>
   Option.bind (Sh.get p1 i10) fun c19=>
   Option.bind (rec_laws_eqExpr c18 c19) fun q20=>
   if (!q20)=true then
    some (Sum.inl false)
   else
    EM p0 p1 rec_laws_eqExpr n (Sh.w (i10+1))
  else
   some (Sum.inr ())
def JV (N:Nat) (rec_laws_eqExpr:AG→AG→Option (Bool)) (p0:(List AG)) (p1:(List AG)):Option (Bool):=
 if (!decide ((Sh.len p0)=(Sh.len p1)))=true then
  some false
 else
  Sh.cont (EM p0 p1 rec_laws_eqExpr N 0) (id) fun ()=>
  some true
def Ib (N:Nat) (rec_laws_eqExpr:AG→AG→Option (Bool)) (p0:AG) (p1:AG):Option (Bool):=
 if (!decide (p0.op=p1.op))=true then
  some false
 else
 if (!decide (p0.num=p1.num))=true then
  some false
 else
  Option.bind (JV N rec_laws_eqExpr p0.kids p1.kids) fun q16=>
  if (!q16)=true then
   some false
  else
   some true
def FW (N:Nat):Nat→AG→AG→Option (Bool)
 | 0,_,_=>none
 | n+1,p0,p1=>Ib N (FW N n) p0 p1
def Jw (N:Nat) (p0:AG) (p1:AG):Option (Bool):=FW N N p0 p1
def IV (N:Nat) (p0:Am) (p1:Am):Option (Bool):=
 Option.bind (HO N p0.params p1.params) fun q4=>
 if (!q4)=true then
  some false
 else
 if (!decide (p0.result=p1.result))=true then
  some false
 else
  Option.bind (Jw N p0.body p1.body) fun q17=>
  if (!q17)=true then
   some false
  else
   some true
def EE (N:Nat) (p0:(List Am)) (p1:(List Am)):Nat→Int→Option ((Bool) ⊕ (Unit))
 | 0,_=>none
 | n+1,i10=>
  if (decide (i10 < (Sh.len p0)))=true then
   Option.bind (Sh.get p0 i10) fun c18=>
   Option.bind (Sh.get p1 i10) fun c19=>
   Option.bind (IV N c18 c19) fun q20=>
   if (!q20)=true then
    some (Sum.inl false)
   else
    EE N p0 p1 n (Sh.w (i10+1))
  else
   some (Sum.inr ())
def Hj (N:Nat) (p0:(List Am)) (p1:(List Am)):Option (Bool):=
 if (!decide ((Sh.len p0)=(Sh.len p1)))=true then
  some false
 else
  Sh.cont (EE N p0 p1 N 0) (id) fun ()=>
  some true
def Ej (N:Nat) (p0:Aa) (p1:Aa):Option (Bool):=
 Option.bind (Hh N p0.decls p1.decls) fun q4=>
 if (!q4)=true then
  some false
 else
  Option.bind (Hj N p0.funcs p1.funcs) fun q11=>
  if (!q11)=true then
   some false
  else
   some true
end RC


namespace RC
end RC


namespace RC
end RC


namespace RC
def Dt :Nat→Int→Int→(List Int)→Option (Int×(List Int))
 | 0,_,_,_=>none
 | n+1,k4,i5,l6=>
  if (decide (i5 < (Sh.len l6)))=true then
   Option.bind (Sh.get l6 i5) fun c16=>
   Dt  n (Sh.w (k4+1)) (Sh.w (i5+1)) (Sh.put l6 i5 k4)
  else
   some (k4,l6)
def GA (N:Nat) (s0:(List Int)) (p1:Int):Option (Int×(List Int)):=
 Option.bind (Dt  N p1 0 s0) fun (k7,l8)=>
 some (k7,l8)
def Dl (N:Nat):Nat→Int→Int→(List BU)→Option (Int×(List BU))
 | 0,_,_,_=>none
 | n+1,k4,i5,l6=>
  if (decide (i5 < (Sh.len l6)))=true then
   Option.bind (Sh.get l6 i5) fun c15=>
   Option.bind (GA N c15.fields k4) fun q16=>
   Dl N n q16.1 (Sh.w (i5+1)) (Sh.put l6 i5 (BU.mk q16.2))
  else
   some (k4,l6)
def HB (N:Nat) (s0:(List BU)) (p1:Int):Option (Int×(List BU)):=
 Option.bind (Dl N N p1 0 s0) fun (k7,l8)=>
 some (k7,l8)
def DY (N:Nat):Nat→Int→Int→(List Ab)→Option (Int×(List Ab))
 | 0,_,_,_=>none
 | n+1,k4,i5,l6=>
  if (decide (i5 < (Sh.len l6)))=true then
   Option.bind (Sh.get l6 i5) fun c16=>
   Option.bind (Sh.get (Sh.put l6 i5 (Ab.mk k4 c16.to c16.cons)) i5) fun c19=>
   Option.bind (Sh.get (Sh.put (Sh.put l6 i5 (Ab.mk k4 c16.to c16.cons)) i5 (Ab.mk c19.from_ (Sh.w (k4+1)) c19.cons)) i5) fun c21=>
   Option.bind (HB N c21.cons (Sh.w ((Sh.w (k4+1)) + 1))) fun q22=>
   DY N n q22.1 (Sh.w (i5+1)) (Sh.put (Sh.put (Sh.put l6 i5 (Ab.mk k4 c16.to c16.cons)) i5 (Ab.mk c19.from_ (Sh.w (k4+1)) c19.cons)) i5 (Ab.mk c21.from_ c21.to q22.2))
  else
   some (k4,l6)
def Gh (N:Nat) (s0:(List Ab)) (p1:Int):Option (Int×(List Ab)):=
 Option.bind (DY N N p1 0 s0) fun (k7,l8)=>
 some (k7,l8)
def Ds (p0:(List Int)):Nat→Int→Int→Option ((Int) ⊕ (Int))
 | 0,_,_=>none
 | n+1,k4,i5=>
  if (decide (i5 < (Sh.len p0)))=true then
   Option.bind (Sh.get p0 i5) fun c15=>
   if (!decide (c15=k4))=true then
    some (Sum.inl (-1))
   else
    Ds p0 n (Sh.w (k4+1)) (Sh.w (i5+1))
  else
   some (Sum.inr k4)
def GK (N:Nat) (p0:(List Int)) (p1:Int):Option (Int):=
 Sh.cont (Ds p0 N p1 0) (id) fun k6=>
 some k6
end RC


namespace RC
end RC


namespace RC
def Tj (p0:(List Int)) (p1:Int):Nat→Int→Option ((Bool) ⊕ (Unit))
 | 0,_=>none
 | n+1,i4=>
  if (decide (i4 < (Sh.len p0)))=true then
   Option.bind (Sh.get p0 i4) fun c12=>
   if (decide (c12=p1))=true then
    some (Sum.inl true)
   else
    Tj p0 p1 n (Sh.w (i4+1))
  else
   some (Sum.inr ())
def B8 (p0:(List Int)) (p1:Int):Nat→Int→Option ((Int) ⊕ (Unit))
 | 0,_=>none
 | n+1,t4=>
  if (decide (t4 < (Sh.len p0)))=true then
   Option.bind (Sh.get p0 t4) fun c13=>
   if (decide (p1=c13))=true then
    some (Sum.inl t4)
   else
    B8 p0 p1 n (Sh.w (t4+1))
  else
   some (Sum.inr ())
def Ep (N:Nat) (p0:(List Int)) (p1:Int):Option (Int):=
 Sh.cont (B8 p0 p1 N 0) (id) fun ()=>
 some (-1)
end RC


namespace RC
def CN (p0:(List Ab)):Option ((List Ab)):=
 Option.bind (Sh.app ([]:List Ab) p0 40) fun l6=>
 some l6
def B6 (p0:(List BU)):Option ((List BU)):=
 Option.bind (Sh.app ([]:List BU) p0 24) fun l6=>
 some l6
end RC


namespace RC
def DA (cs:List BU):Nat→Int→List BU→Option (List BU)
 | 0,_,_=>none
 | n+1,i,q=>
  if decide (i < Sh.len cs)=true then
   Option.bind (Sh.get cs i) fun c=>
   Option.bind (Bh c.fields) fun f=>
   Option.bind (Sh.get q i) fun _=>
   DA cs n (Sh.w (i+1)) (Sh.put q i (BU.mk f))
  else some q
def DB (N:Nat) (m:Int):Nat→Int→List Ab→Option (List Ab)
 | 0,_,_=>none
 | n+1,t,l=>
  if decide (t < m)=true then
   Option.bind (Sh.get l t) fun d=>
   Option.bind (B6 d.cons) fun q21=>
   Option.bind (DA d.cons N 0 q21) fun q=>
   DB N m n (Sh.w (t+1)) (Sh.put l t (Ab.mk d.from_ d.to q))
  else some l
def GN (N:Nat) (p0:List Ab):Option (List Ab):=
 Option.bind (CN p0) fun q9=>
 Option.bind (DB N (Sh.len q9) N 0 q9) fun l=>
 some l
end RC


namespace RC
def Cx (i5:Int) (p0:(List Ab)):Nat→Int→(List BU)→Option ((List BU))
 | 0,_,_=>none
 | n+1,k17,l18=>
  Option.bind (Sh.get p0 i5) fun c25=>
  if (decide (k17 < (Sh.len c25.cons)))=true then
   Option.bind (Sh.get c25.cons k17) fun c28=>
   Option.bind (DQ c28.fields) fun q29=>
   Option.bind (Sh.app l18 [(BU.mk q29)] 24) fun l30=>
   Cx i5 p0 n (Sh.w (k17+1)) l30
  else
   some l18
def DP (N:Nat) (p0:(List Ab)):Nat→Int→(List Ab)→Option ((List Ab))
 | 0,_,_=>none
 | n+1,i5,l6=>
  if (decide (i5 < (Sh.len p0)))=true then
   Option.bind (Cx i5 p0 N 0 []) fun l19=>
   Option.bind (Sh.get p0 i5) fun c21=>
   Option.bind (Sh.app l6 [(Ab.mk c21.from_ c21.to l19)] 40) fun l22=>
   DP N p0 n (Sh.w (i5+1)) l22
  else
   some l6
def Gg (N:Nat) (p0:(List Ab)):Option ((List Ab)):=
 Option.bind (DP N p0 N 0 []) fun l7=>
 some l7
def Dr (N:Nat) (p0:(List BU)):Nat→Int→Int→Option ((Int) ⊕ (Int))
 | 0,_,_=>none
 | n+1,k4,i5=>
  if (decide (i5 < (Sh.len p0)))=true then
   Option.bind (Sh.get p0 i5) fun c14=>
   Option.bind (GK N c14.fields k4) fun q15=>
   if (decide (q15 < 0))=true then
    some (Sum.inl (-1))
   else
    Dr N p0 n q15 (Sh.w (i5+1))
  else
   some (Sum.inr k4)
def HF (N:Nat) (p0:(List BU)) (p1:Int):Option (Int):=
 Sh.cont (Dr N p0 N p1 0) (id) fun k6=>
 some k6
def Da (N:Nat) (p0:(List Ab)):Nat→Int→Int→Option ((Int) ⊕ (Int))
 | 0,_,_=>none
 | n+1,k4,i5=>
  if (decide (i5 < (Sh.len p0)))=true then
   Option.bind (Sh.get p0 i5) fun c15=>
   if (!decide (c15.from_=k4))=true then
    some (Sum.inl (-1))
   else
   if (!decide (c15.to=(Sh.w (k4+1))))=true then
    some (Sum.inl (-1))
   else
    Option.bind (HF N c15.cons (Sh.w ((Sh.w (k4+1)) + 1))) fun q29=>
    if (decide (q29 < 0))=true then
     some (Sum.inl (-1))
    else
     Da N p0 n q29 (Sh.w (i5+1))
  else
   some (Sum.inr k4)
def Gq (N:Nat) (p0:(List Ab)) (p1:Int):Option (Int):=
 Sh.cont (Da N p0 N p1 0) (id) fun k6=>
 some k6
end RC


namespace RC
def Se (rec_spec_copyExprs:(List AG)→Option ((List AG))) (p0:AG):Option (AG):=
 Option.bind (rec_spec_copyExprs p0.kids) fun q3=>
 some (AG.mk p0.op p0.num q3)
def Jb (p0:(List AG)) (rec_spec_copyExprs:(List AG)→Option ((List AG))):Nat→Int→(List AG)→Option ((List AG))
 | 0,_,_=>none
 | n+1,i5,l6=>
  if (decide (i5 < (Sh.len p0)))=true then
   Option.bind (Sh.get p0 i5) fun c14=>
   Option.bind (Se rec_spec_copyExprs c14) fun q15=>
   Option.bind (Sh.app l6 [q15] 40) fun l16=>
   Jb p0 rec_spec_copyExprs n (Sh.w (i5+1)) l16
  else
   some l6
def PN (N:Nat) (rec_spec_copyExprs:(List AG)→Option ((List AG))) (p0:(List AG)):Option ((List AG)):=
 Option.bind (Jb p0 rec_spec_copyExprs N 0 []) fun l7=>
 some l7
def Ki (N:Nat):Nat→(List AG)→Option ((List AG))
 | 0,_=>none
 | n+1,p0=>PN N (Ki N n) p0
def Rs (N:Nat) (p0:(List AG)):Option ((List AG)):=Ki N N p0
def Qb (N:Nat) (p0:AG):Option (AG):=
 Option.bind (Rs N p0.kids) fun q3=>
 some (AG.mk p0.op p0.num q3)
def Nw (N:Nat) (p0:Aa) (p1:(List AG)):Nat→Int→(List Am)→Option ((Aa×Bool) ⊕ ((List Am)))
 | 0,_,_=>none
 | n+1,i6,l7=>
  if (decide (i6 < (Sh.len p0.funcs)))=true then
   Option.bind (Sh.get p1 i6) fun c17=>
   Option.bind (F7 N c17) fun q18=>
   if (decide (q18 < 0))=true then
    some (Sum.inl ((Aa.mk [] []),false))
   else
    Option.bind (Sh.get p0.funcs i6) fun c21=>
    Option.bind (DQ c21.params) fun q22=>
    Option.bind (Qb N c17) fun q23=>
    Option.bind (Sh.app l7 [(Am.mk q22 c21.result q23)] 72) fun l24=>
    Nw N p0 p1 n (Sh.w (i6+1)) l24
  else
   some (Sum.inr l7)
def Bw (p0:AG) (p1:Int) (p2:Int) (rec_impl_shifted:AG→Int→Int→Option (AG)):Nat→Int→(List AG)→Option ((List AG))
 | 0,_,_=>none
 | n+1,t9,l10=>
  if (decide (t9 < (Sh.len p0.kids)))=true then
   Option.bind (Sh.get p0.kids t9) fun c19=>
   Option.bind (rec_impl_shifted c19 p1 p2) fun q20=>
   Option.bind (Sh.app l10 [q20] 40) fun l21=>
   Bw p0 p1 p2 rec_impl_shifted n (Sh.w (t9+1)) l21
  else
   some l10
def Gm (N:Nat) (rec_impl_shifted:AG→Int→Int→Option (AG)) (p0:AG) (p1:Int) (p2:Int):Option (AG):=
 Option.bind (
  Option.bind (
   if (decide (p0.op=12))=true then
    some (decide (p1≤p0.num))
   else
    some false
  ) fun t25=>
  if t25=true then
   some (Sh.w (p0.num+p2))
  else
   some p0.num
 ) fun f3=>
 Option.bind (Bw p0 p1 p2 rec_impl_shifted N 0 []) fun l11=>
 some (AG.mk p0.op f3 l11)
def Ck (N:Nat):Nat→AG→Int→Int→Option (AG)
 | 0,_,_,_=>none
 | n+1,p0,p1,p2=>Gm N (Ck N n) p0 p1 p2
def FK (N:Nat) (p0:AG) (p1:Int) (p2:Int):Option (AG):=Ck N N p0 p1 p2
def Gp (N:Nat) (p0:AG):Option (AG):=
 Option.bind (FK N p0 0 0) fun q3=>
 some q3
def CD (N:Nat) (p0:Aa):Nat→Int→(List Am)→Option ((List Am))
 | 0,_,_=>none
 | n+1,t6,l7=>
  if (decide (t6 < (Sh.len p0.funcs)))=true then
   Option.bind (Sh.get p0.funcs t6) fun c16=>
   Option.bind (Bh c16.params) fun q17=>
   Option.bind (Gp N c16.body) fun q18=>
   Option.bind (Sh.app l7 [(Am.mk q17 c16.result q18)] 72) fun l19=>
   CD N p0 n (Sh.w (t6+1)) l19
  else
   some l7
def FT (N:Nat) (p0:Aa):Option (Aa):=
 Option.bind (GN N p0.decls) fun q3=>
 Option.bind (CD N p0 N 0 []) fun l8=>
 some (Aa.mk q3 l8)
def Ct (rec_laws_markExprS:(List AG)→Int→Option (Int×(List AG))):Nat→Int→Int→(List AG)→Option (Int×(List AG))
 | 0,_,_,_=>none
 | n+1,k4,i5,l6=>
  if (decide (i5 < (Sh.len l6)))=true then
   Option.bind (Sh.get l6 i5) fun c16=>
   Option.bind (Sh.get (Sh.put l6 i5 (AG.mk k4 c16.num c16.kids)) i5) fun c19=>
   Option.bind (Sh.get (Sh.put (Sh.put l6 i5 (AG.mk k4 c16.num c16.kids)) i5 (AG.mk c19.op (Sh.w (k4+1)) c19.kids)) i5) fun c21=>
   Option.bind (rec_laws_markExprS c21.kids (Sh.w ((Sh.w (k4+1)) + 1))) fun q22=>
   Ct rec_laws_markExprS n q22.1 (Sh.w (i5+1)) (Sh.put (Sh.put (Sh.put l6 i5 (AG.mk k4 c16.num c16.kids)) i5 (AG.mk c19.op (Sh.w (k4+1)) c19.kids)) i5 (AG.mk c21.op c21.num q22.2))
  else
   some (k4,l6)
def G6 (N:Nat) (rec_laws_markExprS:(List AG)→Int→Option (Int×(List AG))) (s0:(List AG)) (p1:Int):Option (Int×(List AG)):=
 Option.bind (Ct rec_laws_markExprS N p1 0 s0) fun (k7,l8)=>
 some (k7,l8)
def Dm (N:Nat):Nat→(List AG)→Int→Option (Int×(List AG))
 | 0,_,_=>none
 | n+1,s0,p1=>G6 N (Dm N n) s0 p1
def H3 (N:Nat) (s0:(List AG)) (p1:Int):Option (Int×(List AG)):=Dm N N s0 p1
def DS (N:Nat):Nat→Int→Int→(List Am)→Option (Int×(List Am))
 | 0,_,_,_=>none
 | n+1,k4,i5,l6=>
  if (decide (i5 < (Sh.len l6)))=true then
   Option.bind (Sh.get l6 i5) fun c16=>
   Option.bind (GA N c16.params k4) fun q17=>
   Option.bind (Sh.get (Sh.put l6 i5 (Am.mk q17.2 c16.result c16.body)) i5) fun c20=>
   Option.bind (Sh.get (Sh.put (Sh.put l6 i5 (Am.mk q17.2 c16.result c16.body)) i5 (Am.mk c20.params q17.1 c20.body)) i5) fun c23=>
   Option.bind (Sh.get (Sh.put (Sh.put (Sh.put l6 i5 (Am.mk q17.2 c16.result c16.body)) i5 (Am.mk c20.params q17.1 c20.body)) i5 (Am.mk c23.params c23.result (AG.mk (Sh.w (q17.1+1)) c23.body.num c23.body.kids))) i5) fun c26=>
   Option.bind (Sh.get (Sh.put (Sh.put (Sh.put (Sh.put l6 i5 (Am.mk q17.2 c16.result c16.body)) i5 (Am.mk c20.params q17.1 c20.body)) i5 (Am.mk c23.params c23.result (AG.mk (Sh.w (q17.1+1)) c23.body.num c23.body.kids))) i5 (Am.mk c26.params c26.result (AG.mk c26.body.op (Sh.w ((Sh.w (q17.1+1)) + 1)) c26.body.kids))) i5) fun c28=>
   Option.bind (H3 N c28.body.kids (Sh.w ((Sh.w ((Sh.w (q17.1+1)) + 1)) + 1))) fun q29=>
   DS N n q29.1 (Sh.w (i5+1)) (Sh.put (Sh.put (Sh.put (Sh.put (Sh.put l6 i5 (Am.mk q17.2 c16.result c16.body)) i5 (Am.mk c20.params q17.1 c20.body)) i5 (Am.mk c23.params c23.result (AG.mk (Sh.w (q17.1+1)) c23.body.num c23.body.kids))) i5 (Am.mk c26.params c26.result (AG.mk c26.body.op (Sh.w ((Sh.w (q17.1+1)) + 1)) c26.body.kids))) i5 (Am.mk c28.params c28.result (AG.mk c28.body.op c28.body.num q29.2)))
  else
   some (k4,l6)
def Gk (N:Nat) (s0:(List Am)) (p1:Int):Option (Int×(List Am)):=
 Option.bind (DS N N p1 0 s0) fun (k7,l8)=>
 some (k7,l8)
def E8 (N:Nat) (s0:(List Ab)) (s1:(List Am)) (p1:Int):Option (Int×(List Ab)×(List Am)):=
 Option.bind (Gh N s0 p1) fun q3=>
 Option.bind (Gk N s1 q3.1) fun q6=>
 some (q6.1,q3.2,q6.2)
def Cu (p0:(List AG)) (rec_laws_heldExprS:(List AG)→Int→Option (Int)):Nat→Int→Int→Option ((Int) ⊕ (Int))
 | 0,_,_=>none
 | n+1,k4,i5=>
  if (decide (i5 < (Sh.len p0)))=true then
   Option.bind (Sh.get p0 i5) fun c15=>
   if (!decide (c15.op=k4))=true then
    some (Sum.inl (-1))
   else
   if (!decide (c15.num=(Sh.w (k4+1))))=true then
    some (Sum.inl (-1))
   else
    Option.bind (rec_laws_heldExprS c15.kids (Sh.w ((Sh.w (k4+1)) + 1))) fun q29=>
    if (decide (q29 < 0))=true then
     some (Sum.inl (-1))
    else
     Cu p0 rec_laws_heldExprS n q29 (Sh.w (i5+1))
  else
   some (Sum.inr k4)
def G4 (N:Nat) (rec_laws_heldExprS:(List AG)→Int→Option (Int)) (p0:(List AG)) (p1:Int):Option (Int):=
 Sh.cont (Cu p0 rec_laws_heldExprS N p1 0) (id) fun k6=>
 some k6
def Dp (N:Nat):Nat→(List AG)→Int→Option (Int)
 | 0,_,_=>none
 | n+1,p0,p1=>G4 N (Dp N n) p0 p1
def H5 (N:Nat) (p0:(List AG)) (p1:Int):Option (Int):=Dp N N p0 p1
def DZ (N:Nat) (p0:(List Am)):Nat→Int→Int→Option ((Int) ⊕ (Int))
 | 0,_,_=>none
 | n+1,k4,i5=>
  if (decide (i5 < (Sh.len p0)))=true then
   Option.bind (Sh.get p0 i5) fun c14=>
   Option.bind (GK N c14.params k4) fun q15=>
   if (decide (q15 < 0))=true then
    some (Sum.inl (-1))
   else
   if (!decide (c14.result=q15))=true then
    some (Sum.inl (-1))
   else
   if (!decide (c14.body.op=(Sh.w (q15+1))))=true then
    some (Sum.inl (-1))
   else
   if (!decide (c14.body.num=(Sh.w ((Sh.w (q15+1)) + 1))))=true then
    some (Sum.inl (-1))
   else
    Option.bind (H5 N c14.body.kids (Sh.w ((Sh.w ((Sh.w (q15+1)) + 1)) + 1))) fun q42=>
    if (decide (q42 < 0))=true then
     some (Sum.inl (-1))
    else
     DZ N p0 n q42 (Sh.w (i5+1))
  else
   some (Sum.inr k4)
def Gn (N:Nat) (p0:(List Am)) (p1:Int):Option (Int):=
 Sh.cont (DZ N p0 N p1 0) (id) fun k6=>
 some k6
def E9 (N:Nat) (p0:Aa) (p1:Int):Option (Int):=
 Option.bind (Gq N p0.decls p1) fun q3=>
 if (decide (q3 < 0))=true then
  some (-1)
 else
  Option.bind (Gn N p0.funcs q3) fun q9=>
  if (decide (q9 < 0))=true then
   some (-1)
  else
   some q9
end RC



namespace RC
def Eg (N:Nat) (p0:List AG) (p2:Int):Nat→AG→Option AG
 | 0,b=>some b
 | i+1,b=>
  Option.bind (Sh.get p0 (i:Int)) fun x=>
  Option.bind (FK N x p2 (i:Int)) fun q=>
  Eg N p0 p2 i (AG.mk 13 0 [q,b])
def Ia (N:Nat) (s0:List AG) (p0:List AG) (p1_0:Int) (p1_1:Int) (p2:Int):Option AG:=
 if p0.length≤1048576 then Eg N p0 p2 p0.length (AG.mk p1_0 p1_1 s0) else none
theorem OP {N:Nat} {p0:List AG} {p2:Int} :∀(n:Nat) {b r:AG},Eg N p0 p2 n b=some r→
  ∃bs:Nat→AG,bs n=b∧bs 0=r∧∀i,i < n→∃x q,Sh.get p0 (i:Int)=some x∧FK N x p2 (i:Int)=some q∧bs i=AG.mk 13 0 [q,bs (i+1)]
 | 0,b,r,h=>by
  rw[Eg] at h;cases h
  exact⟨fun _=>b,rfl,rfl,fun i hi=>by omega⟩
 | n+1,b,r,h=>by
  rw[Eg] at h
  obtain⟨x,h1,h⟩:=Sh.bind_some h
  obtain⟨q,h2,h⟩:=Sh.bind_some h
  obtain⟨bs,e1,e2,e3⟩:=OP n h
  refine⟨fun i=>if i=n+1 then b else bs i,by simp,by simp[e2],fun i hi=>?_⟩
  by_cases hin:i=n
  ·subst hin
   refine⟨x,q,h1,h2,?_⟩
   simp[e1]
  ·obtain⟨x',q',g1,g2,g3⟩:=e3 i (by omega)
   refine⟨x',q',g1,g2,?_⟩
   have n1:¬ i=n+1:=by omega
   have n2:¬ i+1=n+1:=by omega
   simp only[n1,n2,if_false];exact g3
end RC


namespace RC
def Hx (N:Nat) (p0:Aa) (p1:AG) (p2:Int) (p3:Int):Option (Int):=
 if (decide (p2=0))=true then
  some p3
 else
 if (decide (p1.op=13))=true then
  some (Sh.w (p3+1))
 else
 if (decide (p1.op=8))=true then
  Option.bind (HT N p0.decls p1.num) fun q14=>
  Option.bind (Sh.get q14 (Sh.w (p2 - 1))) fun c15=>
  Option.bind (CU N p0.decls c15) fun q16=>
  some (Sh.w (p3+(Sh.len q16)))
 else
  some p3
def HG (p0:Int):Option (Int):=
 some (if (if p0 < 999 then p0 else 999) > (-999) then (if p0 < 999 then p0 else 999) else (-999))
def KG (p0:Int) (p1:Int) (p2:Int):Option (Int):=
 if (decide (p0=1))=true then
  Option.bind (HG (Sh.w (p1+p2))) fun q7=>
  some q7
 else
 if (decide (p0=2))=true then
  Option.bind (HG (Sh.w (p1 - p2))) fun q11=>
  some q11
 else
 if (decide (p0=3))=true then
  Option.bind (HG (Sh.w (p1 * p2))) fun q15=>
  some q15
 else
  Option.bind (
   if (decide (p0=4))=true then
    some (decide (p1 < p2))
   else
    some false
  ) fun t18=>
  if t18=true then
   some 1
  else
   some 0
def DI (p0:(List AG)) (p1:Int) (p2:Int) (rec_spec_shift:AG→Int→Int→Option (AG)):Nat→Int→(List AG)→Option ((List AG))
 | 0,_,_=>none
 | n+1,i5,l6=>
  if (decide (i5 < (Sh.len p0)))=true then
   Option.bind (Sh.get p0 i5) fun c14=>
   Option.bind (rec_spec_shift c14 p1 p2) fun q15=>
   Option.bind (Sh.app l6 [q15] 40) fun l16=>
   DI p0 p1 p2 rec_spec_shift n (Sh.w (i5+1)) l16
  else
   some l6
def Ih (N:Nat) (rec_spec_shift:AG→Int→Int→Option (AG)) (p0:(List AG)) (p1:Int) (p2:Int):Option ((List AG)):=
 Option.bind (DI p0 p1 p2 rec_spec_shift N 0 []) fun l7=>
 some l7
def JT (N:Nat) (rec_spec_shift:AG→Int→Int→Option (AG)) (p0:AG) (p1:Int) (p2:Int):Option (AG):=
 Option.bind (
  Option.bind (
   if (decide (p0.op=12))=true then
    some (decide (p1≤p0.num))
   else
    some false
  ) fun t9=>
  if t9=true then
   some (Sh.w (p0.num+p2))
  else
   some p0.num
 ) fun num4=>
 Option.bind (Ih N rec_spec_shift p0.kids p1 p2) fun q7=>
 some (AG.mk p0.op num4 q7)
def FM (N:Nat):Nat→AG→Int→Int→Option (AG)
 | 0,_,_,_=>none
 | n+1,p0,p1,p2=>JT N (FM N n) p0 p1 p2
def Km (N:Nat) (p0:AG) (p1:Int) (p2:Int):Option (AG):=FM N N p0 p1 p2
def FO (N:Nat) (p0:(List AG)) (p2:Int):Nat→Int→Int→Int→(List AG)→Option (Int×Int×(List AG))
 | 0,_,_,_,_=>none
 | n+1,k5,f6,f7,f8=>
  if (decide (0≤k5))=true then
   Option.bind (Sh.get p0 k5) fun c18=>
   Option.bind (Km N c18 p2 k5) fun q19=>
   FO N p0 p2 n (Sh.w (k5 - 1)) 13 0 [q19,(AG.mk f6 f7 f8)]
  else
   some (f6,f7,f8)
def KQ (N:Nat) (p0:(List AG)) (p1:AG) (p2:Int):Option (AG):=
 Option.bind (FO N p0 p2 N (Sh.w ((Sh.len p0) - 1)) p1.op p1.num p1.kids) fun (f9,f10,f11)=>
 some (AG.mk f9 f10 f11)
def GC (N:Nat) (p0:Aa) (p1:AG) (p2:Int):Option (AG):=
 Sh.cont (
  Option.bind (
   if (decide (p1.op=1))=true then
    some true
   else
   if (decide (p1.op=2))=true then
    some true
   else
   if (decide (p1.op=3))=true then
    some true
   else
    some (decide (p1.op=4))
  ) fun t7=>
  if t7=true then
   Option.bind (
    Option.bind (Sh.get p1.kids 0) fun c18=>
    if (decide (c18.op=0))=true then
     Option.bind (Sh.get p1.kids 1) fun c20=>
     some (decide (c20.op=0))
    else
     some false
   ) fun t11=>
   if t11=true then
    Option.bind (Sh.get p1.kids 0) fun c15=>
    Option.bind (Sh.get p1.kids 1) fun c16=>
    Option.bind (KG p1.op c15.num c16.num) fun q17=>
    some (Sum.inl (AG.mk 0 q17 []))
   else
    some (Sum.inr ())
  else
  if (decide (p1.op=7))=true then
   Option.bind (
    Option.bind (Sh.get p1.kids 0) fun c35=>
    if (decide (c35.op=0))=true then
     some (!decide (c35.num=0))
    else
     some false
   ) fun t25=>
   if t25=true then
    Option.bind (Sh.get p1.kids 1) fun c29=>
    some (Sum.inl c29)
   else
    Option.bind (Sh.get p1.kids 0) fun c31=>
    if (decide (c31.op=0))=true then
     Option.bind (Sh.get p1.kids 2) fun c34=>
     some (Sum.inl c34)
    else
     some (Sum.inr ())
  else
  if (decide (p1.op=8))=true then
   Option.bind (Sh.get p1.kids 0) fun c40=>
   if (decide (c40.op=6))=true then
    Option.bind (E7 N p0.decls (Sh.w (p1.num - 1))) fun q43=>
    Option.bind (Sh.get p1.kids (Sh.w ((Sh.w (1+c40.num)) - q43))) fun c44=>
    Option.bind (KQ N c40.kids c44 p2) fun q45=>
    some (Sum.inl q45)
   else
    some (Sum.inr ())
  else
   some (Sum.inr ())
 ) (id) fun ()=>
 some p1
def D6 (N:Nat) (p0:Aa) (p1:AG) (p2:Int) (rec_spec_fold:Aa→AG→Int→Option (AG)):Nat→Int→(List AG)→Option ((List AG))
 | 0,_,_=>none
 | n+1,k5,l6=>
  if (decide (k5 < (Sh.len p1.kids)))=true then
   Option.bind (Sh.get p1.kids k5) fun c15=>
   Option.bind (Hx N p0 p1 k5 p2) fun q16=>
   Option.bind (rec_spec_fold p0 c15 q16) fun q17=>
   Option.bind (Sh.app l6 [q17] 40) fun l18=>
   D6 N p0 p1 p2 rec_spec_fold n (Sh.w (k5+1)) l18
  else
   some l6
def J5 (N:Nat) (rec_spec_fold:Aa→AG→Int→Option (AG)) (p0:Aa) (p1:AG) (p2:Int):Option (AG):=
 Option.bind (D6 N p0 p1 p2 rec_spec_fold N 0 []) fun l7=>
 Option.bind (GC N p0 (AG.mk p1.op p1.num l7) p2) fun q10=>
 some q10
def FI (N:Nat):Nat→Aa→AG→Int→Option (AG)
 | 0,_,_,_=>none
 | n+1,p0,p1,p2=>J5 N (FI N n) p0 p1 p2
def Oi (N:Nat) (p0:Aa) (p1:AG) (p2:Int):Option (AG):=FI N N p0 p1 p2
def Ca (p0:(List AG)) (rec_spec_copyExpr_5:AG→Option (AG)):Nat→Int→(List AG)→Option ((List AG))
 | 0,_,_=>none
 | n+1,i5,l6=>
  if (decide (i5 < (Sh.len p0)))=true then
   Option.bind (Sh.get p0 i5) fun c14=>
   Option.bind (rec_spec_copyExpr_5 c14) fun q15=>
   Option.bind (Sh.app l6 [q15] 40) fun l16=>
   Ca p0 rec_spec_copyExpr_5 n (Sh.w (i5+1)) l16
  else
   some l6
def G1 (N:Nat) (rec_spec_copyExpr_5:AG→Option (AG)) (p0:(List AG)):Option ((List AG)):=
 Option.bind (Ca p0 rec_spec_copyExpr_5 N 0 []) fun l7=>
 some l7
def GY (N:Nat) (rec_spec_copyExpr_5:AG→Option (AG)) (p0:AG):Option (AG):=
 Option.bind (G1 N rec_spec_copyExpr_5 p0.kids) fun q3=>
 some (AG.mk p0.op p0.num q3)
def DV (N:Nat):Nat→AG→Option (AG)
 | 0,_=>none
 | n+1,p0=>GY N (DV N n) p0
def HQ (N:Nat) (p0:AG):Option (AG):=DV N N p0
def CF (N:Nat) (p0:Aa) (p1:(List AG)):Nat→Int→(List Am)→Option ((Aa×Bool) ⊕ ((List Am)))
 | 0,_,_=>none
 | n+1,i6,l7=>
  if (decide (i6 < (Sh.len p0.funcs)))=true then
   Option.bind (Sh.get p1 i6) fun c17=>
   Option.bind (F7 N c17) fun q18=>
   if (decide (q18 < 0))=true then
    some (Sum.inl ((Aa.mk [] []),false))
   else
    Option.bind (Sh.get p0.funcs i6) fun c21=>
    Option.bind (DQ c21.params) fun q22=>
    Option.bind (HQ N c17) fun q23=>
    Option.bind (Sh.app l7 [(Am.mk q22 c21.result q23)] 72) fun l24=>
    CF N p0 p1 n (Sh.w (i6+1)) l24
  else
   some (Sum.inr l7)
def Fa (N:Nat) (p0:Aa) (p1:(List AG)):Option (Aa×Bool):=
 Option.bind (Gg N p0.decls) fun q3=>
 Sh.cont (CF N p0 p1 N 0 []) (id) fun l8=>
 some ((Aa.mk q3 l8),true)
def E0 (N:Nat) (p0:Aa):Nat→Int→(List AG)→Option ((List AG))
 | 0,_,_=>none
 | n+1,i12,l13=>
  if (decide (i12 < (Sh.len p0.funcs)))=true then
   Option.bind (Sh.get p0.funcs i12) fun c22=>
   Option.bind (Oi N p0 c22.body (Sh.len c22.params)) fun q23=>
   Option.bind (Sh.app l13 [q23] 40) fun l24=>
   E0 N p0 n (Sh.w (i12+1)) l24
  else
   some l13
def KO (N:Nat) (p0:Aa):Option (Aa×Bool):=
 Option.bind (Cc N p0) fun q4=>
 if (!q4)=true then
  some ((Aa.mk [] []),false)
 else
  Option.bind (E0 N p0 N 0 []) fun l14=>
  Option.bind (Fa N p0 l14) fun q17=>
  some (q17.1,q17.2)
def KE (p0:Int) (p1:Int) (p2:Int):Option (Int):=
 Option.bind (
  if (decide (p1 < (-999)))=true then
   some true
  else
  if (decide (999 < p1))=true then
   some true
  else
  if (decide (p2 < (-999)))=true then
   some true
  else
   some (decide (999 < p2))
 ) fun t4=>
 if t4=true then
  some 0
 else
  Option.bind (
   if (decide (p0=1))=true then
    some (Sh.w (p1+p2))
   else
   if (decide (p0=2))=true then
    some (Sh.w (p1 - p2))
   else
   if (decide (p0=3))=true then
    some (Sh.w (p1 * p2))
   else
   if (decide (p0=4))=true then
    if (decide (p1 < p2))=true then
     some 1
    else
     some 0
   else
    some 0
  ) fun n10=>
  some (if 999 < (if (-999) > n10 then (-999) else n10) then 999 else (if (-999) > n10 then (-999) else n10))
def HU (N:Nat) (s0:(List AG)) (p0:(List Ab)) (p1_0:Int) (p1_1:Int) (p2:Int):Option (AG):=
 Sh.cont (
  Option.bind (
   if (decide (p1_0=1))=true then
    some true
   else
   if (decide (p1_0=2))=true then
    some true
   else
   if (decide (p1_0=3))=true then
    some true
   else
    some (decide (p1_0=4))
  ) fun t7=>
  if t7=true then
   Option.bind (
    Option.bind (Sh.get s0 0) fun c18=>
    if (decide (c18.op=0))=true then
     Option.bind (Sh.get s0 1) fun c20=>
     some (decide (c20.op=0))
    else
     some false
   ) fun t11=>
   if t11=true then
    Option.bind (Sh.get s0 0) fun c15=>
    Option.bind (Sh.get s0 1) fun c16=>
    Option.bind (KE p1_0 c15.num c16.num) fun q17=>
    some (Sum.inl (AG.mk 0 q17 []))
   else
    some (Sum.inr ())
  else
  if (decide (p1_0=7))=true then
   Option.bind (Sh.get s0 0) fun c24=>
   if (decide (c24.op=0))=true then
    if (!decide (c24.num=0))=true then
     Option.bind (Sh.get s0 1) fun c32=>
     some (Sum.inl c32)
    else
     Option.bind (Sh.get s0 2) fun c35=>
     some (Sum.inl c35)
   else
    some (Sum.inr ())
  else
  if (decide (p1_0=8))=true then
   Option.bind (Sh.get s0 0) fun c39=>
   if (decide (c39.op=6))=true then
    Option.bind (Fx N p0 p1_1) fun q43=>
    Option.bind (Ep N q43 c39.num) fun q44=>
    Option.bind (Sh.get s0 (Sh.w (1+q44))) fun c46=>
    Option.bind (Sh.apart 0 (Sh.w (1+q44))) fun u47=>
    Option.bind (Ia N c46.kids c39.kids c46.op c46.num p2) fun q48=>
    some (Sum.inl q48)
   else
    some (Sum.inr ())
  else
   some (Sum.inr ())
 ) (id) fun ()=>
 some (AG.mk p1_0 p1_1 s0)
def J6 (N:Nat) (s0_0:(List Ab)) (s0_1:(List Am)) (s1:(List AG)) (p0_0:Int) (p0_1:Int) (p1:Int):Option (AG):=
 Option.bind (HU N s1 s0_0 p0_0 p0_1 p1) fun q3=>
 some q3
def Bz (N:Nat) (s0:(List AG)) (s1_0:(List Ab)) (s1_1:(List Am)) (p0:(List Ab)) (p1_0:Int) (p1_1:Int) (p2:Int) (rec_impl_rewriteExpr_2:(List AG)→(List Ab)→(List Am)→(List Ab)→Int→Int→Int→Option (AG)):Nat→Int→(List AG)→Option ((List AG))
 | 0,_,_=>none
 | n+1,t4,l5=>
  if (decide (t4 < (Sh.len s0)))=true then
   Option.bind (
    Option.bind (
     if (decide (p1_0=13))=true then
      some (decide (t4=1))
     else
      some false
    ) fun t23=>
    if t23=true then
     some (Sh.w (p2+1))
    else
     Option.bind (
      if (decide (p1_0=8))=true then
       some (decide (0 < t4))
      else
       some false
     ) fun t27=>
     if t27=true then
      Option.bind (Fx N p0 p1_1) fun q30=>
      Option.bind (Sh.get q30 (Sh.w (t4 - 1))) fun c31=>
      Option.bind (C6 N p0 c31) fun q32=>
      some (Sh.w (p2+(Sh.len q32)))
     else
      some p2
   ) fun scope17=>
   Option.bind (Sh.get l5 t4) fun c19=>
   Option.bind (rec_impl_rewriteExpr_2 c19.kids s1_0 s1_1 p0 c19.op c19.num scope17) fun q20=>
   Bz N s0 s1_0 s1_1 p0 p1_0 p1_1 p2 rec_impl_rewriteExpr_2 n (Sh.w (t4+1)) (Sh.put l5 t4 q20)
  else
   some l5
def Fc (N:Nat) (rec_impl_rewriteExpr_2:(List AG)→(List Ab)→(List Am)→(List Ab)→Int→Int→Int→Option (AG)) (s0:(List AG)) (s1_0:(List Ab)) (s1_1:(List Am)) (p0:(List Ab)) (p1_0:Int) (p1_1:Int) (p2:Int):Option (AG):=
 Option.bind (Bz N s0 s1_0 s1_1 p0 p1_0 p1_1 p2 rec_impl_rewriteExpr_2 N 0 s0) fun l6=>
 Option.bind (J6 N s1_0 s1_1 l6 p1_0 p1_1 p2) fun q9=>
 some q9
def CE (N:Nat):Nat→(List AG)→(List Ab)→(List Am)→(List Ab)→Int→Int→Int→Option (AG)
 | 0,_,_,_,_,_,_,_=>none
 | n+1,s0,s1_0,s1_1,p0,p1_0,p1_1,p2=>Fc N (CE N n) s0 s1_0 s1_1 p0 p1_0 p1_1 p2
def Hd (N:Nat) (s0:(List AG)) (s1_0:(List Ab)) (s1_1:(List Am)) (p0:(List Ab)) (p1_0:Int) (p1_1:Int) (p2:Int):Option (AG):=CE N N s0 s1_0 s1_1 p0 p1_0 p1_1 p2
def CZ (N:Nat) (s0_0:(List Ab)) (s0_1:(List Am)) (p0:Aa) (q3:Aa):Nat→Int→(List Am)→Option ((Aa×Bool) ⊕ ((List Am)))
 | 0,_,_=>none
 | n+1,t6,l7=>
  if (decide (t6 < (Sh.len q3.funcs)))=true then
   Option.bind (Sh.get l7 t6) fun c17=>
   Option.bind (Hd N c17.body.kids s0_0 s0_1 p0.decls c17.body.op c17.body.num (Sh.len c17.params)) fun q18=>
   Option.bind (Sh.get (Sh.put l7 t6 (Am.mk c17.params c17.result q18)) t6) fun c21=>
   Option.bind (Gw N c21.body) fun q22=>
   if (decide (q22 < 0))=true then
    some (Sum.inl ((Aa.mk [] []),false))
   else
    CZ N s0_0 s0_1 p0 q3 n (Sh.w (t6+1)) (Sh.put l7 t6 (Am.mk c17.params c17.result q18))
  else
   some (Sum.inr l7)
def G7 (N:Nat) (s0_0:(List Ab)) (s0_1:(List Am)) (p0:Aa):Option (Aa×Bool):=
 Option.bind (FT N p0) fun q3=>
 Sh.cont (CZ N s0_0 s0_1 p0 q3 N 0 q3.funcs) (id) fun l8=>
 some ((Aa.mk q3.decls l8),true)
def HD (N:Nat) (p0:Aa):Option (Aa×Bool):=
 Option.bind (Es N p0) fun q4=>
 if (!q4)=true then
  some ((Aa.mk [] []),false)
 else
  Option.bind (G7 N p0.decls p0.funcs p0) fun q10=>
  some (q10.1,q10.2)
def G0 (N:Nat) (p0:Aa):Option (Bool):=
 Option.bind (Gr N p0 1048576) fun q4=>
 if (decide (q4 < 0))=true then
  some true
 else
  Option.bind (Ef N p0) fun q10=>
  Option.bind (KO N q10) fun q11=>
  Option.bind (Ef N p0) fun q13=>
  Option.bind (HD N q13) fun q15=>
  Option.bind (
   Option.bind (Ej N q15.1 q11.1) fun q87=>
   if (!q87)=true then
    some true
   else
    some (q15.2 != q11.2)
  ) fun t18=>
  if t18=true then
   some false
  else
   Option.bind (Ef N p0) fun q24=>
   Option.bind (Ej N q13 q24) fun q25=>
   if (!q25)=true then
    some false
   else
    Option.bind (E8 N q13.decls q13.funcs 1) fun q32=>
    Option.bind (
     if (decide (q32.1 < 0))=true then
      some true
     else
      Option.bind (Ej N q15.1 q11.1) fun q85=>
      if (!q85)=true then
       some true
      else
       some (q15.2 != q11.2)
    ) fun t37=>
    if t37=true then
     some false
    else
     Option.bind (E8 N q15.1.decls q15.1.funcs 1) fun q43=>
     Option.bind (E9 N (Aa.mk q43.2.1 q43.2.2) 1) fun q48=>
     if (decide (q48 < 0))=true then
      some false
     else
     if (!decide (q48=q43.1))=true then
      some false
     else
      Option.bind (Ef N p0) fun q60=>
      Option.bind (HD N q60) fun q61=>
      Option.bind (
       Option.bind (Ej N q61.1 q11.1) fun q82=>
       if (!q82)=true then
        some true
       else
        some (q61.2 != q11.2)
      ) fun t64=>
      if t64=true then
       some false
      else
       Option.bind (E9 N (Aa.mk q43.2.1 q43.2.2) 1) fun q70=>
       if (decide (q70 < 0))=true then
        some false
       else
       if (!decide (q70=q43.1))=true then
        some false
       else
        some true
end RC

