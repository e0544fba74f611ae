import Derived.Test.YtpahalfiiahddaaGAbsXToSSDefs
import Derived.Test.YtpahalfiiahddaaSufC
import Derived.Test.YtpahalfiiahddaaSufD
namespace RC
def Se (p0:(List Int)) (p1:Int):Option (Int):=
 if (decide ((Sh.w (p1 - (Sh.len p0))) < 0))=true then
  some (-1)
 else
  some (Sh.w (p1 - (Sh.len p0)))
def CD (p0:Int) (p1:Int) (p2:Int):Option (Bool):=
 Option.bind (
  if (decide (p1≤p0))=true then
   some (decide (p0≤p2))
  else
   some false
 ) fun t3=>
 some t3
def Ei (p0:(List Int)):Option ((List Int)):=
 Option.bind (Sh.app ([]:List Int) p0 8) fun l6=>
 some l6
end RC


namespace RC
def TK (p0:Gl) (p1:Int):Option (Int):=
 Option.bind (Se p0.fields p1) fun q3=>
 if (decide (q3 < 0))=true then
  some (-1)
 else
  some q3
def Pq (p0:(List Gl)):Nat→Int→Int→Option ((Int) ⊕ (Int))
 | 0,_,_=>none
 | n+1,left9,i10=>
  if (decide (i10 < (Sh.len p0)))=true then
   Option.bind (Sh.get p0 i10) fun c19=>
   Option.bind (TK c19 left9) fun q20=>
   if (decide (q20 < 0))=true then
    some (Sum.inl (-1))
   else
    Pq p0 n q20 (Sh.w (i10+1))
  else
   some (Sum.inr left9)
def Du (p0:(List Ac)) (p1:(List Int)):Nat→Int→Option ((Bool) ⊕ (Unit))
 | 0,_=>none
 | n+1,i4=>
  if (decide (i4 < (Sh.len p1)))=true then
   Option.bind (Sh.get p1 i4) fun c12=>
   Option.bind (CD c12 0 (Sh.len p0)) fun q13=>
   if (!q13)=true then
    some (Sum.inl false)
   else
    Du p0 p1 n (Sh.w (i4+1))
  else
   some (Sum.inr ())
def Fw (N:Nat) (p0:(List Ac)) (p1:(List Int)):Option (Bool):=
 Sh.cont (Du p0 p1 N 0) (id) fun ()=>
 some true
def Dd (N:Nat) (c3:Ac) (p0:(List Ac)):Nat→Int→Option ((Bool) ⊕ (Unit))
 | 0,_=>none
 | n+1,i15=>
  if (decide (i15 < (Sh.len c3.cons)))=true then
   Option.bind (
    Option.bind (Sh.get c3.cons i15) fun c27=>
    if (decide (3 < (Sh.len c27.fields)))=true then
     some true
    else
     Option.bind (Fw N p0 c27.fields) fun q29=>
     some (!q29)
   ) fun t23=>
   if t23=true then
    some (Sum.inl false)
   else
    Dd N c3 p0 n (Sh.w (i15+1))
  else
   some (Sum.inr ())
def Df (c3:Ac) (p0:(List Ac)) (p1:Int):Nat→Int→Option ((Bool) ⊕ (Unit))
 | 0,_=>none
 | n+1,i34=>
  if (decide (i34 < p1))=true then
   Option.bind (
    Option.bind (Sh.get p0 i34) fun c51=>
    if (decide ((Sh.len c51.cons)=0))=true then
     if (decide (c51.from_=c3.from_))=true then
      some (decide (c51.to=c3.to))
     else
      some false
    else
     some false
   ) fun t47=>
   if t47=true then
    some (Sum.inl false)
   else
    Df c3 p0 p1 n (Sh.w (i34+1))
  else
   some (Sum.inr ())
def GK (N:Nat) (p0:(List Ac)) (p1:Int):Option (Bool):=
 Option.bind (Sh.get p0 p1) fun c3=>
 if (decide (0 < (Sh.len c3.cons)))=true then
  Option.bind (
   if (decide (3 < (Sh.len c3.cons)))=true then
    some true
   else
   if (!decide (c3.from_=0))=true then
    some true
   else
    some (!decide (c3.to=0))
  ) fun t9=>
  if t9=true then
   some false
  else
   Sh.cont (Dd N c3 p0 N 0) (id) fun ()=>
   some true
 else
  Sh.cont (Df c3 p0 p1 N 0) (id) fun ()=>
  Option.bind (
   Option.bind (CD c3.from_ 0 (Sh.len p0)) fun q39=>
   if q39=true then
    Option.bind (CD c3.to 0 (Sh.len p0)) fun q41=>
    some q41
   else
    some false
  ) fun t37=>
  some t37
def DK (N:Nat) (p0:(List Ac)):Nat→Int→Option ((Bool) ⊕ (Unit))
 | 0,_=>none
 | n+1,i8=>
  if (decide (i8 < (Sh.len p0)))=true then
   Option.bind (GK N p0 i8) fun q16=>
   if (!q16)=true then
    some (Sum.inl false)
   else
    DK N p0 n (Sh.w (i8+1))
  else
   some (Sum.inr ())
def Fx (N:Nat) (p0:(List Ac)):Option (Bool):=
 if (decide (4 < (Sh.len p0)))=true then
  some false
 else
  Sh.cont (DK N p0 N 0) (id) fun ()=>
  some true
def C6 (N:Nat) (p0:Af):Nat→Int→Option ((Bool) ⊕ (Unit))
 | 0,_=>none
 | n+1,i10=>
  if (decide (i10 < (Sh.len p0.funcs)))=true then
   Option.bind (Sh.get p0.funcs i10) fun c22=>
   Option.bind (
    if (decide (3 < (Sh.len c22.params)))=true then
     some true
    else
     Option.bind (Fw N p0.decls c22.params) fun q29=>
     if (!q29)=true then
      some true
     else
      Option.bind (CD c22.result 0 (Sh.len p0.decls)) fun q31=>
      some (!q31)
   ) fun t24=>
   if t24=true then
    some (Sum.inl false)
   else
    C6 N p0 n (Sh.w (i10+1))
  else
   some (Sum.inr ())
def FQ (N:Nat) (p0:Af):Option (Bool):=
 Option.bind (
  Option.bind (Fx N p0.decls) fun q32=>
  if (!q32)=true then
   some true
  else
   Option.bind (CD (Sh.len p0.funcs) 1 4) fun q34=>
   some (!q34)
 ) fun t4=>
 if t4=true then
  some false
 else
  Sh.cont (C6 N p0 N 0) (id) fun ()=>
  Option.bind (
   Option.bind (Sh.get p0.funcs 0) fun c15=>
   if (decide ((Sh.len c15.params)=0))=true then
    some (decide (c15.result=0))
   else
    some false
  ) fun t13=>
  some t13
def DT (p0:(List Ac)) (p1:Int):Nat→Int→Int→Option (Int)
 | 0,_,_=>none
 | n+1,n5,i6=>
  if (decide (i6 < p1))=true then
   Option.bind (Sh.get p0 i6) fun c14=>
   DT p0 p1 n (Sh.w (n5+(Sh.len c14.cons))) (Sh.w (i6+1))
  else
   some n5
def FI (N:Nat) (p0:(List Ac)) (p1:Int):Option (Int):=
 Option.bind (DT p0 p1 N 0 0) fun n7=>
 some n7
def Cs (N:Nat) (p0:(List Ac)) (p1:Int):Nat→Int→Option ((Int) ⊕ (Unit))
 | 0,_=>none
 | n+1,i4=>
  if (decide (i4 < (Sh.len p0)))=true then
   Option.bind (FI N p0 i4) fun q12=>
   Option.bind (Sh.get p0 i4) fun c14=>
   Option.bind (CD p1 q12 (Sh.w ((Sh.w (q12+(Sh.len c14.cons))) - 1))) fun q15=>
   if q15=true then
    some (Sum.inl (Sh.w (i4+1)))
   else
    Cs N p0 p1 n (Sh.w (i4+1))
  else
   some (Sum.inr ())
def Er (N:Nat) (p0:(List Ac)) (p1:Int):Option (Int):=
 Sh.cont (Cs N p0 p1 N 0) (id) fun ()=>
 some (-1)
def Bf (N:Nat) (p0:(List Ac)) (p1:Int):Option ((List Int)):=
 Option.bind (Er N p0 p1) fun q3=>
 if (decide (q3 < 1))=true then
  some []
 else
  Option.bind (Sh.get p0 (Sh.w (q3 - 1))) fun c9=>
  Option.bind (FI N p0 (Sh.w (q3 - 1))) fun q10=>
  Option.bind (Sh.get c9.cons (Sh.w (p1 - q10))) fun c11=>
  some c11.fields
def D7 (N:Nat) (p0:(List Ac)) (p1:Int):Nat→Int→(List Int)→Option ((List Int))
 | 0,_,_=>none
 | n+1,i12,l13=>
  Option.bind (Sh.get p0 (Sh.w (p1 - 1))) fun c19=>
  if (decide (i12 < (Sh.len c19.cons)))=true then
   Option.bind (FI N p0 (Sh.w (p1 - 1))) fun q22=>
   Option.bind (Sh.app l13 [Sh.w (q22+i12)] 8) fun l23=>
   D7 N p0 p1 n (Sh.w (i12+1)) l23
  else
   some l13
def E7 (N:Nat) (p0:(List Ac)) (p1:Int):Option ((List Int)):=
 Option.bind (CD p1 1 (Sh.len p0)) fun q5=>
 if (!q5)=true then
  some []
 else
  Option.bind (D7 N p0 p1 N 0 []) fun l14=>
  some l14
def FY (p0:(List Ac)) (p1:Int):Option (Bool):=
 Option.bind (
  if (decide (0≤p1))=true then
   some (decide (p1≤(Sh.len p0)))
  else
   some false
 ) fun t3=>
 some t3
def Dy (p0:(List Ac)) (p1:(List Int)):Nat→Int→Option ((Bool) ⊕ (Unit))
 | 0,_=>none
 | n+1,t4=>
  if (decide (t4 < (Sh.len p1)))=true then
   Option.bind (Sh.get p1 t4) fun c12=>
   Option.bind (FY p0 c12) fun q14=>
   if (!q14)=true then
    some (Sum.inl false)
   else
    Dy p0 p1 n (Sh.w (t4+1))
  else
   some (Sum.inr ())
def FJ (N:Nat) (p0:(List Ac)) (p1:(List Int)):Option (Bool):=
 Sh.cont (Dy p0 p1 N 0) (id) fun ()=>
 some true
def Co (c16:Ac) (l28:(List Ac)):Nat→Int→Option ((Bool) ⊕ (Unit))
 | 0,_=>none
 | n+1,t29=>
  if (decide (t29 < (Sh.len l28)))=true then
   Option.bind (Sh.get l28 t29) fun c36=>
   Option.bind (
    if (decide ((Sh.len c16.cons)=0))=true then
     if (decide ((Sh.len c36.cons)=0))=true then
      if (decide (c36.from_=c16.from_))=true then
       some (decide (c36.to=c16.to))
      else
       some false
     else
      some false
    else
     some false
   ) fun t38=>
   if t38=true then
    some (Sum.inl false)
   else
    Co c16 l28 n (Sh.w (t29+1))
  else
   some (Sum.inr ())
def Cn (N:Nat) (c16:Ac) (p0:(List Ac)):Nat→Int→Option ((Bool) ⊕ (Unit))
 | 0,_=>none
 | n+1,t25=>
  if (decide (t25 < (Sh.len c16.cons)))=true then
   Option.bind (Sh.get c16.cons t25) fun c50=>
   Option.bind (
    if (decide (3 < (Sh.len c50.fields)))=true then
     some true
    else
     Option.bind (FJ N p0 c50.fields) fun q57=>
     some (!q57)
   ) fun t52=>
   if t52=true then
    some (Sum.inl false)
   else
    Cn N c16 p0 n (Sh.w (t25+1))
  else
   some (Sum.inr ())
def DM (N:Nat) (p0:(List Ac)):Nat→Int→Option ((Bool) ⊕ (Unit))
 | 0,_=>none
 | n+1,t8=>
  if (decide (t8 < (Sh.len p0)))=true then
   Option.bind (Sh.get p0 t8) fun c16=>
   Option.bind (
    Option.bind (FY p0 c16.from_) fun q58=>
    if (!q58)=true then
     some true
    else
     Option.bind (FY p0 c16.to) fun q60=>
     if (!q60)=true then
      some true
     else
     if (decide (3 < (Sh.len c16.cons)))=true then
      some true
     else
     if (decide (0 < (Sh.len c16.cons)))=true then
      if (!decide (c16.from_=0))=true then
       some true
      else
       some (!decide (c16.to=0))
     else
      some false
   ) fun t19=>
   if t19=true then
    some (Sum.inl false)
   else
    Sh.cont (Cn N c16 p0 N 0) (fun x=>Sum.inl x) fun ()=>
    Option.bind (Sh.sl p0 0 t8) fun l28=>
    Sh.cont (Co c16 l28 N 0) (fun x=>Sum.inl x) fun ()=>
    DM N p0 n (Sh.w (t8+1))
  else
   some (Sum.inr ())
def Fz (N:Nat) (p0:(List Ac)):Option (Bool):=
 if (decide (4 < (Sh.len p0)))=true then
  some false
 else
  Sh.cont (DM N p0 N 0) (id) fun ()=>
  some true
def C1 (c18:BW):Nat→Int→Option ((Bool) ⊕ (Unit))
 | 0,_=>none
 | n+1,t26=>
  if (decide (t26 < (Sh.len c18.Ee)))=true then
   Option.bind (Sh.get c18.Ee t26) fun c33=>
   Option.bind (
    if (decide (c33 < 0))=true then
     some true
    else
    if (decide ((Sh.len c18.params)≤c33))=true then
     some true
    else
     Option.bind (Sh.get c18.params c33) fun c41=>
     if (decide (c41=0))=true then
      some true
     else
     if (decide (0 < t26))=true then
      Option.bind (Sh.get c18.Ee (Sh.w (t26 - 1))) fun c44=>
      some (decide (c33≤c44))
     else
      some false
   ) fun t35=>
   if t35=true then
    some (Sum.inl false)
   else
    C1 c18 n (Sh.w (t26+1))
  else
   some (Sum.inr ())
def C5 (N:Nat) (p0:(List Ac)) (p1:(List BW)):Nat→Int→Option ((Bool) ⊕ (Unit))
 | 0,_=>none
 | n+1,t10=>
  if (decide (t10 < (Sh.len p1)))=true then
   Option.bind (Sh.get p1 t10) fun c18=>
   Option.bind (
    if (decide (3 < (Sh.len c18.params)))=true then
     some true
    else
     Option.bind (FJ N p0 c18.params) fun q46=>
     if (!q46)=true then
      some true
     else
      Option.bind (FY p0 c18.result) fun q48=>
      some (!q48)
   ) fun t21=>
   if t21=true then
    some (Sum.inl false)
   else
    Sh.cont (C1 c18 N 0) (fun x=>Sum.inl x) fun ()=>
    C5 N p0 p1 n (Sh.w (t10+1))
  else
   some (Sum.inr ())
def GI (N:Nat) (p0:(List Ac)) (p1:(List BW)):Option (Bool):=
 Option.bind (
  Option.bind (Fz N p0) fun q49=>
  if (!q49)=true then
   some true
  else
  if (decide ((Sh.len p1) < 1))=true then
   some true
  else
  if (decide (4 < (Sh.len p1)))=true then
   some true
  else
   Option.bind (Sh.get p1 0) fun c53=>
   if (decide (0 < (Sh.len c53.params)))=true then
    some true
   else
    some (!decide (c53.result=0))
 ) fun t4=>
 if t4=true then
  some false
 else
  Sh.cont (C5 N p0 p1 N 0) (id) fun ()=>
  some true
def DX (p0:(List Ac)):Nat→Int→Int→Option (Int)
 | 0,_,_=>none
 | n+1,n5,t6=>
  if (decide (t6 < (Sh.len p0)))=true then
   Option.bind (Sh.get p0 t6) fun c15=>
   DX p0 n (Sh.w (n5+(Sh.len c15.cons))) (Sh.w (t6+1))
  else
   some n5
def G0 (N:Nat) (p0:(List Ac)):Option (Int):=
 Option.bind (DX p0 N 0 0) fun n7=>
 some n7
def EA (c14:Ac) (q10:Int):Nat→Int→(List Int)→Option ((List Int))
 | 0,_,_=>none
 | n+1,t15,l16=>
  if (decide (t15 < (Sh.len c14.cons)))=true then
   Option.bind (Sh.app l16 [Sh.w (q10+t15)] 8) fun l25=>
   EA c14 q10 n (Sh.w (t15+1)) l25
  else
   some l16
def Hs (N:Nat) (p0:(List Ac)) (p1:Int):Option ((List Int)):=
 Option.bind (
  if (decide (p1 < 1))=true then
   some true
  else
   some (decide ((Sh.len p0) < p1))
 ) fun t4=>
 if t4=true then
  some []
 else
  Option.bind (Sh.sl p0 0 (Sh.w (p1 - 1))) fun l9=>
  Option.bind (G0 N l9) fun q10=>
  Option.bind (Sh.get p0 (Sh.w (p1 - 1))) fun c14=>
  Option.bind (EA c14 q10 N 0 []) fun l17=>
  some l17
def D5 (p0:(List Ac)):Nat→Int→Int→Option ((Int×Gl) ⊕ (Unit))
 | 0,_,_=>none
 | n+1,c4,t5=>
  if (decide (t5 < (Sh.len p0)))=true then
   Option.bind (Sh.get p0 t5) fun c13=>
   Option.bind (
    if (decide (0≤c4))=true then
     some (decide (c4 < (Sh.len c13.cons)))
    else
     some false
   ) fun t16=>
   if t16=true then
    Option.bind (Sh.get c13.cons c4) fun c20=>
    some (Sum.inl (Sh.w (t5+1),c20))
   else
    D5 p0 n (Sh.w (c4 - (Sh.len c13.cons))) (Sh.w (t5+1))
  else
   some (Sum.inr ())
def F4 (N:Nat) (p0:(List Ac)) (p1:Int):Option (Int×Gl):=
 Sh.cont (D5 p0 N p1 0) (id) fun ()=>
 some (-1,(Gl.mk []))
def Ea (N:Nat) (p0:(List Ac)) (p1:Int):Option ((List Int)):=
 Option.bind (F4 N p0 p1) fun q3=>
 some q3.2.fields
end RC


namespace RC
end RC


namespace RC
def KT (p0:(List AP)) (rec_laws_szExpr:AP→Int→Option (Int)):Nat→Int→Int→Option ((Int) ⊕ (Int))
 | 0,_,_=>none
 | n+1,left9,i10=>
  if (decide (i10 < (Sh.len p0)))=true then
   Option.bind (Sh.get p0 i10) fun c19=>
   Option.bind (rec_laws_szExpr c19 left9) fun q20=>
   if (decide (q20 < 0))=true then
    some (Sum.inl (-1))
   else
    KT p0 rec_laws_szExpr n q20 (Sh.w (i10+1))
  else
   some (Sum.inr left9)
def RQ (N:Nat) (rec_laws_szExpr:AP→Int→Option (Int)) (p0:(List AP)) (p1:Int):Option (Int):=
 if (decide ((Sh.w (p1 - (Sh.len p0))) < 0))=true then
  some (-1)
 else
  Sh.cont (KT p0 rec_laws_szExpr N (Sh.w (p1 - (Sh.len p0))) 0) (id) fun left11=>
  some left11
def Ql (N:Nat) (rec_laws_szExpr:AP→Int→Option (Int)) (p0:AP) (p1:Int):Option (Int):=
 Option.bind (RQ N rec_laws_szExpr p0.kids p1) fun q3=>
 if (decide (q3 < 0))=true then
  some (-1)
 else
  some q3
def QT (N:Nat):Nat→AP→Int→Option (Int)
 | 0,_,_=>none
 | n+1,p0,p1=>Ql N (QT N n) p0 p1
def CY (p0:AP) (rec_spec_nodesLeft:AP→Int→Option (Int)):Nat→Int→Int→Option ((Int) ⊕ (Int))
 | 0,_,_=>none
 | n+1,left9,i10=>
  if (decide (i10 < (Sh.len p0.kids)))=true then
   Option.bind (Sh.get p0.kids i10) fun c19=>
   Option.bind (rec_spec_nodesLeft c19 left9) fun q20=>
   if (decide (q20 < 0))=true then
    some (Sum.inl (-1))
   else
    CY p0 rec_spec_nodesLeft n q20 (Sh.w (i10+1))
  else
   some (Sum.inr left9)
def Gk (N:Nat) (rec_spec_nodesLeft:AP→Int→Option (Int)) (p0:AP) (p1:Int):Option (Int):=
 if (decide (p1 < 1))=true then
  some (-1)
 else
  Sh.cont (CY p0 rec_spec_nodesLeft N (Sh.w (p1 - 1)) 0) (id) fun left11=>
  some left11
def Dx (N:Nat):Nat→AP→Int→Option (Int)
 | 0,_,_=>none
 | n+1,p0,p1=>Gk N (Dx N n) p0 p1
def Iv (N:Nat) (p0:AP) (p1:Int):Option (Int):=Dx N N p0 p1
def Fi (N:Nat) (p0:AP):Option (Int):=
 Option.bind (Iv N p0 30) fun q3=>
 if (decide (q3 < 0))=true then
  some (-1)
 else
  some (Sh.w (30 - q3))
def EH (p0:Af) (p1:(List Int)) (p2:(List AP)) (p3:Int) (rec_spec_typeOf:Af→(List Int)→AP→Option (Int)):Nat→Int→Option ((Bool) ⊕ (Unit))
 | 0,_=>none
 | n+1,i10=>
  if (decide (i10 < p3))=true then
   Option.bind (Sh.get p2 i10) fun c18=>
   Option.bind (rec_spec_typeOf p0 p1 c18) fun q19=>
   if (!decide (q19=0))=true then
    some (Sum.inl false)
   else
    EH p0 p1 p2 p3 rec_spec_typeOf n (Sh.w (i10+1))
  else
   some (Sum.inr ())
def GX (N:Nat) (rec_spec_typeOf:Af→(List Int)→AP→Option (Int)) (p0:Af) (p1:(List Int)) (p2:(List AP)) (p3:Int):Option (Bool):=
 if (!decide ((Sh.len p2)=p3))=true then
  some false
 else
  Sh.cont (EH p0 p1 p2 p3 rec_spec_typeOf N 0) (id) fun ()=>
  some true
def Ev (p0:Af) (p1:(List Int)) (p2:(List AP)) (p3:(List Int)) (rec_spec_typeOf:Af→(List Int)→AP→Option (Int)):Nat→Int→Option ((Bool) ⊕ (Unit))
 | 0,_=>none
 | n+1,i10=>
  if (decide (i10 < (Sh.len p3)))=true then
   Option.bind (Sh.get p2 i10) fun c18=>
   Option.bind (rec_spec_typeOf p0 p1 c18) fun q19=>
   Option.bind (Sh.get p3 i10) fun c20=>
   if (!decide (q19=c20))=true then
    some (Sum.inl false)
   else
    Ev p0 p1 p2 p3 rec_spec_typeOf n (Sh.w (i10+1))
  else
   some (Sum.inr ())
def G1 (N:Nat) (rec_spec_typeOf:Af→(List Int)→AP→Option (Int)) (p0:Af) (p1:(List Int)) (p2:(List AP)) (p3:(List Int)):Option (Bool):=
 if (!decide ((Sh.len p2)=(Sh.len p3)))=true then
  some false
 else
  Sh.cont (Ev p0 p1 p2 p3 rec_spec_typeOf N 0) (id) fun ()=>
  some true
def Hv (p0:(List Int)):Option ((List Int)):=
 Option.bind (Sh.app ([]:List Int) p0 8) fun l3=>
 some l3
def DO (p0:(List Int)) (p1:(List Int)):Option ((List Int)):=
 Option.bind (Hv p0) fun q3=>
 Option.bind (Sh.app q3 p1 8) fun l4=>
 some l4
def C2 (N:Nat) (p0:Af) (p1:(List Int)) (p2:AP) (q15:Int) (q3:(List Int)) (rec_spec_typeOf:Af→(List Int)→AP→Option (Int)):Nat→Int→Option ((Int) ⊕ (Unit))
 | 0,_=>none
 | n+1,i18=>
  if (decide (i18 < (Sh.len q3)))=true then
   Option.bind (Sh.get q3 i18) fun c26=>
   Option.bind (Bf N p0.decls c26) fun q27=>
   Option.bind (DO p1 q27) fun q28=>
   Option.bind (Sh.get p2.kids (Sh.w (1+i18))) fun c29=>
   Option.bind (rec_spec_typeOf p0 q28 c29) fun q30=>
   if (!decide (q30=q15))=true then
    some (Sum.inl (-1))
   else
    C2 N p0 p1 p2 q15 q3 rec_spec_typeOf n (Sh.w (i18+1))
  else
   some (Sum.inr ())
def HY (N:Nat) (rec_spec_typeOf:Af→(List Int)→AP→Option (Int)) (p0:Af) (p1:(List Int)) (p2:AP):Option (Int):=
 Option.bind (E7 N p0.decls p2.num) fun q3=>
 Option.bind (
  if (decide ((Sh.len q3)=0))=true then
   some true
  else
  if (!decide ((Sh.len p2.kids)=(Sh.w (1+(Sh.len q3)))))=true then
   some true
  else
   Option.bind (Sh.get p2.kids 0) fun c37=>
   Option.bind (rec_spec_typeOf p0 p1 c37) fun q38=>
   some (!decide (q38=p2.num))
 ) fun t6=>
 if t6=true then
  some (-1)
 else
  Option.bind (Sh.get q3 0) fun c11=>
  Option.bind (Bf N p0.decls c11) fun q12=>
  Option.bind (DO p1 q12) fun q13=>
  Option.bind (Sh.get p2.kids 1) fun c14=>
  Option.bind (rec_spec_typeOf p0 q13 c14) fun q15=>
  Sh.cont (C2 N p0 p1 p2 q15 q3 rec_spec_typeOf N 1) (id) fun ()=>
  some q15
def Dq (p0:(List Ac)) (p1:Int) (p2:Int):Nat→Int→Option ((Int) ⊕ (Unit))
 | 0,_=>none
 | n+1,i4=>
  if (decide (i4 < (Sh.len p0)))=true then
   Option.bind (
    Option.bind (Sh.get p0 i4) fun c16=>
    if (decide ((Sh.len c16.cons)=0))=true then
     if (decide (c16.from_=p1))=true then
      some (decide (c16.to=p2))
     else
      some false
    else
     some false
   ) fun t12=>
   if t12=true then
    some (Sum.inl (Sh.w (i4+1)))
   else
    Dq p0 p1 p2 n (Sh.w (i4+1))
  else
   some (Sum.inr ())
def GS (N:Nat) (p0:(List Ac)) (p1:Int) (p2:Int):Option (Int):=
 Sh.cont (Dq p0 p1 p2 N 0) (id) fun ()=>
 some (-1)
def EV (N:Nat) (rec_spec_typeOf:Af→(List Int)→AP→Option (Int)) (p0:Af) (p1:(List Int)) (p2:AP):Option (Int):=
 Option.bind (CD p2.num 0 (Sh.w ((Sh.len p0.funcs) - 1))) fun q4=>
 if (!q4)=true then
  some (-1)
 else
  Option.bind (Sh.get p0.funcs p2.num) fun c10=>
  if (decide (p2.op=9))=true then
   Option.bind (G1 N rec_spec_typeOf p0 p1 p2.kids c10.params) fun q17=>
   if (!q17)=true then
    some (-1)
   else
    some c10.result
  else
   Option.bind (
    if (decide ((Sh.len c10.params)=0))=true then
     some true
    else
     Option.bind (Sh.sl c10.params 0 (Sh.w ((Sh.len c10.params) - 1))) fun l33=>
     Option.bind (G1 N rec_spec_typeOf p0 p1 p2.kids l33) fun q34=>
     some (!q34)
   ) fun t25=>
   if t25=true then
    some (-1)
   else
    Option.bind (Sh.get c10.params (Sh.w ((Sh.len c10.params) - 1))) fun c30=>
    Option.bind (GS N p0.decls c30 c10.result) fun q31=>
    some q31
def FC (p0:(List Ac)) (p1:Int):Option (Bool):=
 Option.bind (
  Option.bind (CD p1 1 (Sh.len p0)) fun q5=>
  if q5=true then
   Option.bind (Sh.get p0 (Sh.w (p1 - 1))) fun c7=>
   some (decide ((Sh.len c7.cons)=0))
  else
   some false
 ) fun t3=>
 some t3
def Be (N:Nat) (rec_spec_typeOf:Af→(List Int)→AP→Option (Int)) (p0:Af) (p1:(List Int)) (p2:AP):Option (Int):=
 Sh.cont (
  if (decide (p2.op=0))=true then
   Option.bind (
    if (decide ((Sh.len p2.kids)=0))=true then
     Option.bind (CD p2.num (-999) 999) fun q15=>
     some q15
    else
     some false
   ) fun t10=>
   if t10=true then
    some (Sum.inl 0)
   else
    some (Sum.inr ())
  else
  if (decide (p2.op=12))=true then
   Option.bind (
    if (decide ((Sh.len p2.kids)=0))=true then
     Option.bind (CD p2.num 0 (Sh.w ((Sh.len p1) - 1))) fun q25=>
     some q25
    else
     some false
   ) fun t19=>
   if t19=true then
    Option.bind (Sh.get p1 p2.num) fun c23=>
    some (Sum.inl c23)
   else
    some (Sum.inr ())
  else
   Option.bind (
    if (decide (p2.op=1))=true then
     some true
    else
    if (decide (p2.op=2))=true then
     some true
    else
    if (decide (p2.op=3))=true then
     some true
    else
     some (decide (p2.op=4))
   ) fun t27=>
   if t27=true then
    Option.bind (
     if (decide (p2.num=0))=true then
      Option.bind (GX N rec_spec_typeOf p0 p1 p2.kids 2) fun q36=>
      some q36
     else
      some false
    ) fun t31=>
    if t31=true then
     some (Sum.inl 0)
    else
     some (Sum.inr ())
   else
   if (decide (p2.op=5))=true then
    Option.bind (
     if (decide (p2.num=0))=true then
      Option.bind (GX N rec_spec_typeOf p0 p1 p2.kids 1) fun q45=>
      some q45
     else
      some false
    ) fun t40=>
    if t40=true then
     some (Sum.inl 0)
    else
     some (Sum.inr ())
   else
   if (decide (p2.op=6))=true then
    Option.bind (
     Option.bind (Er N p0.decls p2.num) fun q54=>
     if (decide (0 < q54))=true then
      Option.bind (Bf N p0.decls p2.num) fun q56=>
      Option.bind (G1 N rec_spec_typeOf p0 p1 p2.kids q56) fun q57=>
      some q57
     else
      some false
    ) fun t49=>
    if t49=true then
     Option.bind (Er N p0.decls p2.num) fun q53=>
     some (Sum.inl q53)
    else
     some (Sum.inr ())
   else
   if (decide (p2.op=13))=true then
    Option.bind (
     if (decide (p2.num=0))=true then
      some (decide ((Sh.len p2.kids)=2))
     else
      some false
    ) fun t61=>
    if t61=true then
     Option.bind (Sh.get p2.kids 0) fun c65=>
     Option.bind (rec_spec_typeOf p0 p1 c65) fun q66=>
     if (decide (0≤q66))=true then
      Option.bind (DO p1 [q66]) fun q70=>
      Option.bind (Sh.get p2.kids 1) fun c71=>
      Option.bind (rec_spec_typeOf p0 q70 c71) fun q72=>
      some (Sum.inl q72)
     else
      some (Sum.inr ())
    else
     some (Sum.inr ())
   else
   if (decide (p2.op=7))=true then
    Option.bind (
     if (decide (p2.num=0))=true then
      if (decide ((Sh.len p2.kids)=3))=true then
       Option.bind (Sh.get p2.kids 0) fun c90=>
       Option.bind (rec_spec_typeOf p0 p1 c90) fun q91=>
       some (decide (q91=0))
      else
       some false
     else
      some false
    ) fun t77=>
    if t77=true then
     Option.bind (Sh.get p2.kids 1) fun c81=>
     Option.bind (rec_spec_typeOf p0 p1 c81) fun q82=>
     Option.bind (Sh.get p2.kids 2) fun c84=>
     Option.bind (rec_spec_typeOf p0 p1 c84) fun q85=>
     if (decide (q85=q82))=true then
      some (Sum.inl q82)
     else
      some (Sum.inr ())
    else
     some (Sum.inr ())
   else
   if (decide (p2.op=8))=true then
    Option.bind (HY N rec_spec_typeOf p0 p1 p2) fun q95=>
    some (Sum.inl q95)
   else
    Option.bind (
     if (decide (p2.op=9))=true then
      some true
     else
      some (decide (p2.op=10))
    ) fun t97=>
    if t97=true then
     Option.bind (EV N rec_spec_typeOf p0 p1 p2) fun q101=>
     some (Sum.inl q101)
    else
    if (decide (p2.op=11))=true then
     Option.bind (
      if (decide (p2.num=0))=true then
       some (decide ((Sh.len p2.kids)=2))
      else
       some false
     ) fun t105=>
     if t105=true then
      Option.bind (Sh.get p2.kids 0) fun c109=>
      Option.bind (rec_spec_typeOf p0 p1 c109) fun q110=>
      Option.bind (
       Option.bind (FC p0.decls q110) fun q117=>
       if q117=true then
        Option.bind (Sh.get p2.kids 1) fun c119=>
        Option.bind (rec_spec_typeOf p0 p1 c119) fun q120=>
        Option.bind (Sh.get p0.decls (Sh.w (q110 - 1))) fun c121=>
        some (decide (q120=c121.from_))
       else
        some false
      ) fun t112=>
      if t112=true then
       Option.bind (Sh.get p0.decls (Sh.w (q110 - 1))) fun c116=>
       some (Sum.inl c116.to)
      else
       some (Sum.inr ())
     else
      some (Sum.inr ())
    else
     some (Sum.inr ())
 ) (id) fun ()=>
 some (-1)
def Cq (N:Nat):Nat→Af→(List Int)→AP→Option (Int)
 | 0,_,_,_=>none
 | n+1,p0,p1,p2=>Be N (Cq N n) p0 p1 p2
def I4 (N:Nat) (p0:Af) (p1:(List Int)) (p2:AP):Option (Int):=Cq N N p0 p1 p2
def B0 (N:Nat) (p0:Af):Nat→Int→Option ((Bool) ⊕ (Unit))
 | 0,_=>none
 | n+1,i11=>
  if (decide (i11 < (Sh.len p0.funcs)))=true then
   Option.bind (
    Option.bind (Sh.get p0.funcs i11) fun c23=>
    Option.bind (Fi N c23.body) fun q24=>
    if (decide (q24 < 0))=true then
     some true
    else
     Option.bind (I4 N p0 c23.params c23.body) fun q26=>
     some (!decide (q26=c23.result))
   ) fun t19=>
   if t19=true then
    some (Sum.inl false)
   else
    B0 N p0 n (Sh.w (i11+1))
  else
   some (Sum.inr ())
def C4 (N:Nat) (p0:Af):Option (Bool):=
 Option.bind (FQ N p0) fun q4=>
 if (!q4)=true then
  some false
 else
  Sh.cont (B0 N p0 N 0) (id) fun ()=>
  some true
def Ce (p0:Af):Nat→Int→(List BW)→Option ((List BW))
 | 0,_,_=>none
 | n+1,t9,l10=>
  if (decide (t9 < (Sh.len p0.funcs)))=true then
   Option.bind (Sh.get p0.funcs t9) fun c20=>
   Option.bind (Sh.app l10 ([(BW.mk c20.params [] c20.result)]) 56) fun l21=>
   Ce p0 n (Sh.w (t9+1)) l21
  else
   some l10
def FP (N:Nat) (p0:Af):Option (Bool):=
 if (decide (4 < (Sh.len p0.funcs)))=true then
  some false
 else
  Option.bind (Ce p0 N 0 []) fun l11=>
  Option.bind (GI N p0.decls l11) fun q14=>
  some q14
def CI (p0:AP) (rec_impl_countNodes:Int→AP→Option (Bool×Int)):Nat→Int→Int→Option ((Bool×Int) ⊕ (Int))
 | 0,_,_=>none
 | n+1,t9,f10=>
  if (decide (t9 < (Sh.len p0.kids)))=true then
   Option.bind (Sh.get p0.kids t9) fun c19=>
   Option.bind (rec_impl_countNodes f10 c19) fun q21=>
   if (!q21.1)=true then
    some (Sum.inl (false,q21.2))
   else
    CI p0 rec_impl_countNodes n (Sh.w (t9+1)) q21.2
  else
   some (Sum.inr f10)
def F9 (N:Nat) (rec_impl_countNodes:Int→AP→Option (Bool×Int)) (s0_0:Int) (p0:AP):Option (Bool×Int):=
 if (decide (30 < (Sh.w (s0_0+1))))=true then
  some (false,Sh.w (s0_0+1))
 else
  Sh.cont (CI p0 rec_impl_countNodes N 0 (Sh.w (s0_0+1))) (id) fun f11=>
  some (true,f11)
def Dc (N:Nat):Nat→Int→AP→Option (Bool×Int)
 | 0,_,_=>none
 | n+1,s0_0,p0=>F9 N (Dc N n) s0_0 p0
def IV (N:Nat) (s0_0:Int) (p0:AP):Option (Bool×Int):=Dc N N s0_0 p0
def HQ (N:Nat) (p0:AP):Option (Int):=
 Option.bind (IV N 0 p0) fun q5=>
 if (!q5.1)=true then
  some (-1)
 else
  some q5.2
def ED (p0:Af):Nat→Int→(List BW)→Option ((List BW))
 | 0,_,_=>none
 | n+1,t5,l6=>
  if (decide (t5 < (Sh.len p0.funcs)))=true then
   Option.bind (Sh.get p0.funcs t5) fun c15=>
   Option.bind (Sh.app l6 ([(BW.mk c15.params [] c15.result)]) 56) fun l16=>
   ED p0 n (Sh.w (t5+1)) l16
  else
   some l6
def H7 (N:Nat) (p0:Af):Option (BF):=
 Option.bind (ED p0 N 0 []) fun l7=>
 some (BF.mk p0.decls l7)
def Es (p1:Int):Option ((List Int)):=
 if (decide (p1 < 0))=true then
  none
 else
  Option.bind (
   if (decide (0 < (Sh.w (p1 - (Sh.w (0 - 0))))))=true then
    Option.bind (Sh.mk 0 (Sh.w (p1 - (Sh.w (0 - 0)))) 8) fun l12=>
    Option.bind (Sh.hi l12 0) fun l13=>
    some l13
   else
    some []
  ) fun l6=>
  some l6
def Bx (p0:(List (List Int))):Nat→Int→(List Int)→Option ((List Int))
 | 0,_,_=>none
 | n+1,t13,l14=>
  if (decide (t13 < (Sh.len p0)))=true then
   Option.bind (Sh.get p0 t13) fun c23=>
   Option.bind (Sh.app l14 c23 8) fun l24=>
   Bx p0 n (Sh.w (t13+1)) l24
  else
   some l14
def By (p0:(List (List Int))):Nat→Int→Int→Option (Int)
 | 0,_,_=>none
 | n+1,size5,t6=>
  if (decide (t6 < (Sh.len p0)))=true then
   Option.bind (Sh.get p0 t6) fun c30=>
   if (decide ((Sh.w (size5+(Sh.len c30))) < 0))=true then
    none
   else
    By p0 n (Sh.w (size5+(Sh.len c30))) (Sh.w (t6+1))
  else
   some size5
def ES (N:Nat) (p0:(List (List Int))):Option ((List Int)):=
 Option.bind (By p0 N 0 0) fun size7=>
 Option.bind (Es size7) fun q10=>
 Option.bind (Bx p0 N 0 q10) fun l15=>
 some l15
def BT (N:Nat) (p0:BF) (p1:(List Int)) (p2:(List AP)) (p3:(List (List Int))) (rec_impl_signatures_typeOf:(List Int)→BF→AP→Option (Int)):Nat→Int→Int→Option ((Int) ⊕ (Int))
 | 0,_,_=>none
 | n+1,result5,t6=>
  if (decide (t6 < (Sh.len p2)))=true then
   Option.bind (Sh.get p2 t6) fun c15=>
   Option.bind (Sh.get p3 t6) fun c17=>
   Option.bind (ES N [p1,c17]) fun q18=>
   Option.bind (rec_impl_signatures_typeOf q18 p0 c15) fun q19=>
   Option.bind (
    if (decide (q19 < 0))=true then
     some true
    else
    if (decide (0 < t6))=true then
     some (!decide (q19=result5))
    else
     some false
   ) fun t23=>
   if t23=true then
    some (Sum.inl (-1))
   else
    BT N p0 p1 p2 p3 rec_impl_signatures_typeOf n q19 (Sh.w (t6+1))
  else
   some (Sum.inr result5)
def DI (N:Nat) (rec_impl_signatures_typeOf:(List Int)→BF→AP→Option (Int)) (p0:BF) (p1:(List Int)) (p2:(List AP)) (p3:(List (List Int))):Option (Int):=
 Sh.cont (BT N p0 p1 p2 p3 rec_impl_signatures_typeOf N (-1) 0) (id) fun result7=>
 some result7
def HU (p0:(List Ac)) (p1:Int):Option (Ac×Bool):=
 Option.bind (
  if (decide (p1 < 1))=true then
   some true
  else
  if (decide ((Sh.len p0) < p1))=true then
   some true
  else
   Option.bind (Sh.get p0 (Sh.w (p1 - 1))) fun c12=>
   some (decide (0 < (Sh.len c12.cons)))
 ) fun t4=>
 if t4=true then
  some ((Ac.mk 0 0 []),false)
 else
  Option.bind (Sh.get p0 (Sh.w (p1 - 1))) fun c9=>
  some (c9,true)
def CE (p0:(List Int)) (p1:(List Int)):Nat→Int→Option ((Bool) ⊕ (Unit))
 | 0,_=>none
 | n+1,t10=>
  if (decide (t10 < (Sh.len p0)))=true then
   Option.bind (Sh.get p0 t10) fun c19=>
   Option.bind (Sh.get p1 t10) fun c20=>
   if (!decide (c19=c20))=true then
    some (Sum.inl false)
   else
    CE p0 p1 n (Sh.w (t10+1))
  else
   some (Sum.inr ())
def CJ (N:Nat) (p0:(List Int)) (p1:(List Int)):Option (Bool):=
 if (!decide ((Sh.len p0)=(Sh.len p1)))=true then
  some false
 else
  Sh.cont (CE p0 p1 N 0) (id) fun ()=>
  some true
def Dl (p0:(List Ac)) (p1:Int) (p2:Int):Nat→Int→Option ((Int) ⊕ (Unit))
 | 0,_=>none
 | n+1,t4=>
  if (decide (t4 < (Sh.len p0)))=true then
   Option.bind (Sh.get p0 t4) fun c12=>
   Option.bind (
    if (decide ((Sh.len c12.cons)=0))=true then
     if (decide (c12.from_=p1))=true then
      some (decide (c12.to=p2))
     else
      some false
    else
     some false
   ) fun t14=>
   if t14=true then
    some (Sum.inl (Sh.w (t4+1)))
   else
    Dl p0 p1 p2 n (Sh.w (t4+1))
  else
   some (Sum.inr ())
def HP (N:Nat) (p0:(List Ac)) (p1:Int) (p2:Int):Option (Int):=
 Sh.cont (Dl p0 p1 p2 N 0) (id) fun ()=>
 some (-1)
def A6 (N:Nat) (p0:BF) (p1:Int) (p2:Int) (p3:(List Int)):Option (Int×Bool):=
 Sh.cont (
  if (decide (p1=0))=true then
   Option.bind (
    if (decide ((-999)≤p2))=true then
     if (decide (p2≤999))=true then
      some (decide ((Sh.len p3)=0))
     else
      some false
    else
     some false
   ) fun t15=>
   some (Sum.inl (0,t15))
  else
   Option.bind (
    if (decide (p1=1))=true then
     some true
    else
    if (decide (p1=2))=true then
     some true
    else
    if (decide (p1=3))=true then
     some true
    else
     some (decide (p1=4))
   ) fun t20=>
   if t20=true then
    some (Sum.inr [(0:Int),0])
   else
   if (decide (p1=5))=true then
    some (Sum.inr [(0:Int)])
   else
   if (decide (p1=11))=true then
    if (!decide ((Sh.len p3)=2))=true then
     some (Sum.inl (-1,false))
    else
     Option.bind (Sh.get p3 0) fun c34=>
     Option.bind (HU p0.decls c34) fun q35=>
     Option.bind (
      if q35.2=true then
       Option.bind (Sh.get p3 1) fun c41=>
       if (decide (c41=q35.1.from_))=true then
        some (decide (p2=0))
       else
        some false
      else
       some false
     ) fun t38=>
     some (Sum.inl (q35.1.to,t38))
   else
   if (decide (p1=6))=true then
    Option.bind (F4 N p0.decls p2) fun q40=>
    Option.bind (
     if (decide (0≤q40.1))=true then
      Option.bind (CJ N p3 q40.2.fields) fun q45=>
      some q45
     else
      some false
    ) fun t42=>
    some (Sum.inl (q40.1,t42))
   else
    Option.bind (
     if (decide (p1=9))=true then
      some true
     else
      some (decide (p1=10))
    ) fun t47=>
    if t47=true then
     Option.bind (
      if (decide (p2 < 0))=true then
       some true
      else
       some (decide ((Sh.len p0.funcs)≤p2))
     ) fun t52=>
     if t52=true then
      some (Sum.inl (-1,false))
     else
      Option.bind (Sh.get p0.funcs p2) fun c57=>
      if (decide (p1=9))=true then
       Option.bind (CJ N p3 c57.params) fun q62=>
       some (Sum.inl (c57.result,q62))
      else
      if (decide ((Sh.w ((Sh.len c57.params) - 1)) < 0))=true then
       some (Sum.inl (-1,false))
      else
       Option.bind (Sh.get c57.params (Sh.w ((Sh.len c57.params) - 1))) fun c69=>
       Option.bind (HP N p0.decls c69 c57.result) fun q70=>
       Option.bind (
        if (decide (0≤q70))=true then
         Option.bind (Sh.sl c57.params 0 (Sh.w ((Sh.len c57.params) - 1))) fun l75=>
         Option.bind (CJ N p3 l75) fun q76=>
         some q76
        else
         some false
       ) fun t72=>
       some (Sum.inl (q70,t72))
    else
     some (Sum.inl (-1,false))
 ) (id) fun l4=>
 Option.bind (
  if (decide (p2=0))=true then
   Option.bind (CJ N p3 l4) fun q10=>
   some q10
  else
   some false
 ) fun t7=>
 some (0,t7)
def Bg (N:Nat) (p0:BF) (q56:(List Int)):Nat→Int→(List (List Int))→Option ((List (List Int)))
 | 0,_,_=>none
 | n+1,t67,l68=>
  if (decide (t67 < (Sh.len q56)))=true then
   Option.bind (Sh.get q56 t67) fun c79=>
   Option.bind (Ea N p0.decls c79) fun q80=>
   Option.bind (Sh.get l68 t67) fun c81=>
   Bg N p0 q56 n (Sh.w (t67+1)) (Sh.put l68 t67 q80)
  else
   some l68
def Bh (s0:(List Int)) (p0:BF) (p2:AP) (rec_impl_signatures_typeOf:(List Int)→BF→AP→Option (Int)):Nat→Int→(List Int)→Option ((Int) ⊕ ((List Int)))
 | 0,_,_=>none
 | n+1,t90,l91=>
  if (decide (t90 < (Sh.len p2.kids)))=true then
   Option.bind (Sh.get p2.kids t90) fun c108=>
   Option.bind (rec_impl_signatures_typeOf s0 p0 c108) fun q110=>
   Option.bind (Sh.get l91 t90) fun c111=>
   Option.bind (Sh.get (Sh.put l91 t90 q110) t90) fun c113=>
   if (decide (c113 < 0))=true then
    some (Sum.inl (-1))
   else
    Bh s0 p0 p2 rec_impl_signatures_typeOf n (Sh.w (t90+1)) (Sh.put l91 t90 q110)
  else
   some (Sum.inr l91)
def BK (N:Nat) (rec_impl_signatures_typeOf:(List Int)→BF→AP→Option (Int)) (s0:(List Int)) (p0:BF) (p2:AP):Option (Int):=
 if (decide (p2.op=12))=true then
  Option.bind (
   if (decide (0 < (Sh.len p2.kids)))=true then
    some true
   else
   if (decide (p2.num < 0))=true then
    some true
   else
    some (decide ((Sh.len s0)≤p2.num))
  ) fun t8=>
  if t8=true then
   some (-1)
  else
   Option.bind (Sh.get s0 p2.num) fun c13=>
   some c13
 else
 if (decide (p2.op=13))=true then
  Option.bind (
   if (!decide ((Sh.len p2.kids)=2))=true then
    some true
   else
    some (!decide (p2.num=0))
  ) fun t20=>
  if t20=true then
   some (-1)
  else
   Option.bind (Sh.get p2.kids 0) fun c25=>
   Option.bind (rec_impl_signatures_typeOf s0 p0 c25) fun q26=>
   if (decide (q26 < 0))=true then
    some (-1)
   else
    Option.bind (Sh.app s0 [q26] 8) fun l32=>
    Option.bind (Sh.get p2.kids 1) fun c33=>
    Option.bind (rec_impl_signatures_typeOf l32 p0 c33) fun q34=>
    some q34
 else
 if (decide (p2.op=7))=true then
  Option.bind (
   if (!decide ((Sh.len p2.kids)=3))=true then
    some true
   else
   if (!decide (p2.num=0))=true then
    some true
   else
    Option.bind (Sh.get p2.kids 0) fun c51=>
    Option.bind (rec_impl_signatures_typeOf s0 p0 c51) fun q52=>
    some (!decide (q52=0))
  ) fun t41=>
  if t41=true then
   some (-1)
  else
   Option.bind (Sh.sl p2.kids 1 (Sh.len p2.kids)) fun l46=>
   Option.bind (Sh.mk [] 2 24) fun l47=>
   Option.bind (DI N rec_impl_signatures_typeOf p0 s0 l46 l47) fun q48=>
   some q48
 else
 if (decide (p2.op=8))=true then
  Option.bind (Hs N p0.decls p2.num) fun q56=>
  Option.bind (
   if (decide ((Sh.len q56)=0))=true then
    some true
   else
   if (!decide ((Sh.len p2.kids)=(Sh.w (1+(Sh.len q56)))))=true then
    some true
   else
    Option.bind (Sh.get p2.kids 0) fun c84=>
    Option.bind (rec_impl_signatures_typeOf s0 p0 c84) fun q85=>
    some (!decide (q85=p2.num))
  ) fun t59=>
  if t59=true then
   some (-1)
  else
   Option.bind (Sh.mk [] (Sh.len q56) 24) fun l64=>
   Option.bind (Bg N p0 q56 N 0 l64) fun l69=>
   Option.bind (Sh.sl p2.kids 1 (Sh.len p2.kids)) fun l72=>
   Option.bind (DI N rec_impl_signatures_typeOf p0 s0 l72 l69) fun q73=>
   some q73
 else
  Option.bind (Sh.mk 0 (Sh.len p2.kids) 8) fun l87=>
  Sh.cont (Bh s0 p0 p2 rec_impl_signatures_typeOf N 0 l87) (id) fun l92=>
  Option.bind (A6 N p0 p2.op p2.num l92) fun q95=>
  if (!q95.2)=true then
   some (-1)
  else
   some q95.1
def Bp (N:Nat):Nat→(List Int)→BF→AP→Option (Int)
 | 0,_,_,_=>none
 | n+1,s0,p0,p2=>BK N (Bp N n) s0 p0 p2
def Ft (N:Nat) (s0:(List Int)) (p0:BF) (p2:AP):Option (Int):=Bp N N s0 p0 p2
def I1 (N:Nat) (p0:Af) (p1:(List Int)) (p2:AP):Option (Int):=
 Option.bind (
  Option.bind (FP N p0) fun q13=>
  if (!q13)=true then
   some true
  else
   Option.bind (HQ N p2) fun q15=>
   if (decide (q15 < 0))=true then
    some true
   else
    Option.bind (FJ N p0.decls p1) fun q17=>
    some (!q17)
 ) fun t4=>
 if t4=true then
  some (-1)
 else
  Option.bind (H7 N p0) fun q9=>
  Option.bind (Ei p1) fun q10=>
  Option.bind (Ft N q10 q9 p2) fun q11=>
  some q11
def Ci (N:Nat) (p0:Af):Nat→Int→Option ((Bool) ⊕ (Unit))
 | 0,_=>none
 | n+1,t11=>
  if (decide (t11 < (Sh.len p0.funcs)))=true then
   Option.bind (Sh.get p0.funcs t11) fun c19=>
   Option.bind (I1 N p0 c19.params c19.body) fun q21=>
   if (!decide (q21=c19.result))=true then
    some (Sum.inl false)
   else
    Ci N p0 n (Sh.w (t11+1))
  else
   some (Sum.inr ())
def B7 (N:Nat) (p0:Af):Option (Bool):=
 Option.bind (FP N p0) fun q4=>
 if (!q4)=true then
  some false
 else
  Sh.cont (Ci N p0 N 0) (id) fun ()=>
  some true
end RC


namespace RC
end RC


namespace RC
end RC


namespace RC
end RC


namespace RC
def CQ (p0:(List Int)) (p1:Int):Nat→Bool→Int→(List Int)→Option (Bool×(List Int))
 | 0,_,_,_=>none
 | n+1,done6,i7,l8=>
  if (decide (i7 < (Sh.len p0)))=true then
   Option.bind (
    Option.bind (
     if (!done6)=true then
      Option.bind (Sh.get p0 i7) fun c43=>
      some (decide (p1≤c43))
     else
      some false
    ) fun t32=>
    if t32=true then
     Option.bind (
      Option.bind (Sh.get p0 i7) fun c39=>
      if (decide (p1 < c39))=true then
       Option.bind (Sh.app l8 [p1] 8) fun l41=>
       some l41
      else
       some l8
     ) fun l36=>
     some (true,l36)
    else
     some (done6,l8)
   ) fun (done26,l27)=>
   Option.bind (Sh.get p0 i7) fun c29=>
   Option.bind (Sh.app l27 [c29] 8) fun l30=>
   CQ p0 p1 n done26 (Sh.w (i7+1)) l30
  else
   some (done6,l8)
def FV (N:Nat) (p0:(List Int)) (p1:Int):Option ((List Int)):=
 Option.bind (CQ p0 p1 N false 0 []) fun (done9,l10)=>
 Option.bind (
  if (!done9)=true then
   Option.bind (Sh.app l10 [p1] 8) fun l19=>
   some l19
  else
   some l10
 ) fun l13=>
 some l13
end RC


namespace RC
def CU (p0:AP) (rec_spec_calleesIn:AP→(List Int)→Option ((List Int))):Nat→(List Int)→Int→Option ((List Int))
 | 0,_,_=>none
 | n+1,list7,i8=>
  if (decide (i8 < (Sh.len p0.kids)))=true then
   Option.bind (Sh.get p0.kids i8) fun c16=>
   Option.bind (rec_spec_calleesIn c16 list7) fun q17=>
   CU p0 rec_spec_calleesIn n q17 (Sh.w (i8+1))
  else
   some list7
def Gc (N:Nat) (rec_spec_calleesIn:AP→(List Int)→Option ((List Int))) (p0:AP) (p1:(List Int)):Option ((List Int)):=
 Option.bind (
  Option.bind (
   if (decide (p0.op=9))=true then
    some true
   else
    some (decide (p0.op=10))
  ) fun t19=>
  if t19=true then
   Option.bind (FV N p1 p0.num) fun q22=>
   some q22
  else
   some p1
 ) fun list3=>
 Option.bind (CU p0 rec_spec_calleesIn N list3 0) fun list9=>
 some list9
def Dw (N:Nat):Nat→AP→(List Int)→Option ((List Int))
 | 0,_,_=>none
 | n+1,p0,p1=>Gc N (Dw N n) p0 p1
def GM (N:Nat) (p0:AP) (p1:(List Int)):Option ((List Int)):=Dw N N p0 p1
def DH (p0:(List Int)) (p1:Int):Nat→Int→Option ((Bool) ⊕ (Unit))
 | 0,_=>none
 | n+1,i4=>
  if (decide (i4 < (Sh.len p0)))=true then
   Option.bind (Sh.get p0 i4) fun c12=>
   if (decide (c12=p1))=true then
    some (Sum.inl true)
   else
    DH p0 p1 n (Sh.w (i4+1))
  else
   some (Sum.inr ())
def E0 (N:Nat) (p0:(List Int)) (p1:Int):Option (Bool):=
 Sh.cont (DH p0 p1 N 0) (id) fun ()=>
 some false
def Cc (N:Nat) (q30:(List Int)):Nat→Int→(List Int)→Option ((List Int))
 | 0,_,_=>none
 | n+1,k33,l34=>
  if (decide (k33 < (Sh.len q30)))=true then
   Option.bind (Sh.get q30 k33) fun c41=>
   Option.bind (FV N l34 c41) fun q42=>
   Cc N q30 n (Sh.w (k33+1)) q42
  else
   some l34
def CV (N:Nat) (p0:Af):Nat→Int→(List Int)→Option ((List Int))
 | 0,_,_=>none
 | n+1,i15,l16=>
  if (decide (i15 < (Sh.len p0.funcs)))=true then
   Option.bind (
    Option.bind (E0 N l16 i15) fun q26=>
    if q26=true then
     Option.bind (Sh.get p0.funcs i15) fun c29=>
     Option.bind (GM N c29.body ([]:List Int)) fun q30=>
     Option.bind (Cc N q30 N 0 l16) fun l35=>
     some l35
    else
     some l16
   ) fun l23=>
   CV N p0 n (Sh.w (i15+1)) l23
  else
   some l16
def Cb (N:Nat) (p0:Af):Nat→Int→(List Int)→Option ((List Int))
 | 0,_,_=>none
 | n+1,round5,l6=>
  if (decide (round5 < (Sh.len p0.funcs)))=true then
   Option.bind (CV N p0 N 0 l6) fun l17=>
   Cb N p0 n (Sh.w (round5+1)) l17
  else
   some l6
def FZ (N:Nat) (p0:Af) (p1:Int):Option ((List Int)):=
 Option.bind (Cb N p0 N 0 [p1]) fun l7=>
 some l7
def CH (N:Nat) (p0:Af) (p1:Int) (q11:(List Int)):Nat→Int→Option ((Bool) ⊕ (Unit))
 | 0,_=>none
 | n+1,i14=>
  if (decide (i14 < (Sh.len q11)))=true then
   Option.bind (Sh.get q11 i14) fun c22=>
   Option.bind (FZ N p0 c22) fun q23=>
   Option.bind (E0 N q23 p1) fun q24=>
   if q24=true then
    some (Sum.inl false)
   else
    CH N p0 p1 q11 n (Sh.w (i14+1))
  else
   some (Sum.inr ())
def GH (N:Nat) (p0:Af) (p1:Int):Option (Bool):=
 Option.bind (CD p1 1 (Sh.w ((Sh.len p0.funcs) - 1))) fun q4=>
 if (!q4)=true then
  some false
 else
  Option.bind (Sh.get p0.funcs p1) fun c10=>
  Option.bind (GM N c10.body ([]:List Int)) fun q11=>
  Sh.cont (CH N p0 p1 q11 N 0) (id) fun ()=>
  some true
def Dg (N:Nat) (p0:Af) (p1:Int):Option (Bool):=
 Option.bind (
  Option.bind (C4 N p0) fun q5=>
  if q5=true then
   Option.bind (GH N p0 p1) fun q7=>
   some q7
  else
   some false
 ) fun t3=>
 some t3
def Gg (s1:(List Bool)) (p0:AP):Option ((List Bool)):=
 Option.bind (
  if (decide (p0.op=9))=true then
   some true
  else
   some (decide (p0.op=10))
 ) fun t3=>
 if t3=true then
  Option.bind (Sh.get s1 p0.num) fun c6=>
  some (Sh.put s1 p0.num true)
 else
  some s1
def DU (p0:AP) (rec_impl_walk_3:(List Bool)→AP→Option ((List Bool))):Nat→Int→(List Bool)→Option ((List Bool))
 | 0,_,_=>none
 | n+1,t6,l7=>
  if (decide (t6 < (Sh.len p0.kids)))=true then
   Option.bind (Sh.get p0.kids t6) fun c15=>
   Option.bind (rec_impl_walk_3 l7 c15) fun q16=>
   DU p0 rec_impl_walk_3 n (Sh.w (t6+1)) q16
  else
   some l7
def H0 (N:Nat) (rec_impl_walk_3:(List Bool)→AP→Option ((List Bool))) (s1:(List Bool)) (p0:AP):Option ((List Bool)):=
 Option.bind (Gg s1 p0) fun q3=>
 Option.bind (DU p0 rec_impl_walk_3 N 0 q3) fun l8=>
 some l8
def Eu (N:Nat):Nat→(List Bool)→AP→Option ((List Bool))
 | 0,_,_=>none
 | n+1,s1,p0=>H0 N (Eu N n) s1 p0
def Kh (N:Nat) (s1:(List Bool)) (p0:AP):Option ((List Bool)):=Eu N N s1 p0
def FT (N:Nat) (p0:Af) (p1:Int):Option ((List Bool)):=
 Option.bind (Sh.mk false (Sh.len p0.funcs) 1) fun l3=>
 Option.bind (Sh.get p0.funcs p1) fun c5=>
 Option.bind (Kh N l3 c5.body) fun q6=>
 some q6
def C3 (p0:(List Bool)):Nat→Int→(List Int)→Option ((List Int))
 | 0,_,_=>none
 | n+1,t5,l6=>
  if (decide (t5 < (Sh.len p0)))=true then
   Option.bind (
    Option.bind (Sh.get p0 t5) fun c17=>
    if c17=true then
     Option.bind (Sh.app l6 [t5] 8) fun l20=>
     some l20
    else
     some l6
   ) fun l14=>
   C3 p0 n (Sh.w (t5+1)) l14
  else
   some l6
def Ed (N:Nat) (p0:(List Bool)):Option ((List Int)):=
 Option.bind (C3 p0 N 0 []) fun l7=>
 some l7
def Dh (N:Nat) (p0:Af) (p1:Int):Option ((List Int)):=
 Option.bind (
  Option.bind (B7 N p0) fun q11=>
  if (!q11)=true then
   some true
  else
  if (decide (p1 < 0))=true then
   some true
  else
   some (decide ((Sh.len p0.funcs)≤p1))
 ) fun t4=>
 if t4=true then
  some []
 else
  Option.bind (FT N p0 p1) fun q9=>
  Option.bind (Ed N q9) fun q10=>
  some q10
def CS (q27:(List Int)):Nat→Int→(List Bool)→(List Int)→Option ((List Bool)×(List Int))
 | 0,_,_,_=>none
 | n+1,t28,l29,l30=>
  if (decide (t28 < (Sh.len q27)))=true then
   Option.bind (
    Option.bind (Sh.get q27 t28) fun c43=>
    Option.bind (Sh.get l29 c43) fun c45=>
    if (!c45)=true then
     Option.bind (Sh.app l30 [c43] 8) fun l49=>
     some (Sh.put l29 c43 true,l49)
    else
     some (l29,l30)
   ) fun (l39,l40)=>
   CS q27 n (Sh.w (t28+1)) l39 l40
  else
   some (l29,l30)
def Db (N:Nat) (p0:Af):Nat→(List Bool)→(List Int)→Option ((List Bool))
 | 0,_,_=>none
 | n+1,l14,l15=>
  if (decide (0 < (Sh.len l15)))=true then
   Option.bind (Sh.get l15 0) fun c25=>
   Option.bind (FT N p0 c25) fun q26=>
   Option.bind (Ed N q26) fun q27=>
   Option.bind (CS q27 N 0 l14 l15) fun (l31,l32)=>
   Option.bind (Sh.sl l32 1 (Sh.len l32)) fun l34=>
   Db N p0 n l31 l34
  else
   some l14
def Ey (N:Nat) (p0:Af) (p1:Int):Option ((List Int)):=
 Option.bind (
  Option.bind (B7 N p0) fun q51=>
  if (!q51)=true then
   some true
  else
  if (decide (p1 < 0))=true then
   some true
  else
   some (decide ((Sh.len p0.funcs)≤p1))
 ) fun t4=>
 if t4=true then
  some []
 else
  Option.bind (Sh.mk false (Sh.len p0.funcs) 1) fun l9=>
  Option.bind (Sh.get l9 p1) fun c11=>
  Option.bind (Db N p0 N (Sh.put l9 p1 true) [p1]) fun l16=>
  Option.bind (Ed N l16) fun q19=>
  some q19
def Bo (p0:(List Int)) (p1:Int):Nat→Int→Option ((Int) ⊕ (Unit))
 | 0,_=>none
 | n+1,t4=>
  if (decide (t4 < (Sh.len p0)))=true then
   Option.bind (Sh.get p0 t4) fun c13=>
   if (decide (p1=c13))=true then
    some (Sum.inl t4)
   else
    Bo p0 p1 n (Sh.w (t4+1))
  else
   some (Sum.inr ())
def FM (N:Nat) (p0:(List Int)) (p1:Int):Option (Int):=
 Sh.cont (Bo p0 p1 N 0) (id) fun ()=>
 some (-1)
def D6 (N:Nat) (p0:(List Int)) (p1:Int):Option (Bool):=
 Option.bind (FM N p0 p1) fun q3=>
 some (decide (0≤q3))
def CG (N:Nat) (p0:Af) (p1:Int) (q10:(List Int)):Nat→Int→Option ((Bool) ⊕ (Unit))
 | 0,_=>none
 | n+1,t11=>
  if (decide (t11 < (Sh.len q10)))=true then
   Option.bind (Sh.get q10 t11) fun c19=>
   Option.bind (Ey N p0 c19) fun q21=>
   Option.bind (D6 N q21 p1) fun q22=>
   if q22=true then
    some (Sum.inl false)
   else
    CG N p0 p1 q10 n (Sh.w (t11+1))
  else
   some (Sum.inr ())
def EC (N:Nat) (p0:Af) (p1:Int):Option (Bool):=
 Option.bind (
  Option.bind (B7 N p0) fun q25=>
  if (!q25)=true then
   some true
  else
  if (decide (p1 < 1))=true then
   some true
  else
   some (decide ((Sh.len p0.funcs)≤p1))
 ) fun t4=>
 if t4=true then
  some false
 else
  Option.bind (Dh N p0 p1) fun q10=>
  Sh.cont (CG N p0 p1 q10 N 0) (id) fun ()=>
  some true
end RC


namespace RC
def GC (p0:(List Int)):Option ((List Int)×Int):=
 Option.bind (
  if (decide (2000 < (Sh.len p0)))=true then
   Option.bind (Sh.sl p0 0 2000) fun l8=>
   some l8
  else
   some p0
 ) fun code3=>
 some (code3,0)
def D0 (p0:(List Int)):Option (Gl):=
 some (Gl.mk p0)
def Aw (s0_0:(List Int)) (s0_1:Int) (p1:Int):Option (Int×Int):=
 Option.bind (
  if (decide (p1 < 1))=true then
   some true
  else
   some (decide ((Sh.len s0_0)=0))
 ) fun t5=>
 if t5=true then
  some (0,Sh.w (s0_1+1))
 else
 if (decide ((Sh.w ((Sh.w (s0_1+1)) - 1)) < (Sh.len s0_0)))=true then
  Option.bind (Sh.get s0_0 (Sh.w ((Sh.w (s0_1+1)) - 1))) fun c14=>
  Option.bind (Sh.rem (Sh.wk .i64 c14) p1) fun d15=>
  some (d15,Sh.w (s0_1+1))
 else
  Option.bind (Sh.rem (Sh.w ((Sh.w (s0_1+1)) - 1)) (Sh.len s0_0)) fun d17=>
  Option.bind (Sh.get s0_0 d17) fun c18=>
  Option.bind (Sh.rem (Sh.w ((Sh.w ((Sh.w ((Sh.w (s0_1+1)) - 1)) * 7)) + 3)) (Sh.len s0_0)) fun d19=>
  Option.bind (Sh.get s0_0 d19) fun c20=>
  Option.bind (Sh.quo (Sh.w ((Sh.w (s0_1+1)) - 1)) (Sh.len s0_0)) fun d21=>
  Option.bind (Sh.rem (Sh.xor (Sh.w ((Sh.w ((Sh.w ((Sh.w ((Sh.wk .i64 c18) * 131)) + (Sh.w ((Sh.wk .i64 c20) * 1117)))) + (Sh.w ((Sh.w ((Sh.w (s0_1+1)) - 1)) * 29)))) + (Sh.w (d21 * 53)))) (Sh.w (Int.tdiv (Sh.w ((Sh.w ((Sh.w ((Sh.w ((Sh.wk .i64 c18) * 131)) + (Sh.w ((Sh.wk .i64 c20) * 1117)))) + (Sh.w ((Sh.w ((Sh.w (s0_1+1)) - 1)) * 29)))) + (Sh.w (d21 * 53)))) 64))) p1) fun d24=>
  some (d24,Sh.w (s0_1+1))
def FR (s0_0:(List Int)) (s0_1:Int):Option ((List Ac)×Int):=
 Option.bind (D0 ([]:List Int)) fun q3=>
 Option.bind (D0 [(0:Int),1]) fun q4=>
 Option.bind (D0 ([]:List Int)) fun q6=>
 Option.bind (D0 [(3:Int),0,3]) fun q7=>
 Option.bind (D0 [(1:Int),3]) fun q9=>
 Option.bind (D0 [(1:Int),1,0]) fun q10=>
 Option.bind (D0 [(0:Int)]) fun q11=>
 Option.bind (D0 [(3:Int)]) fun q12=>
 Option.bind (Aw s0_0 s0_1 5) fun q15=>
 Option.bind (
  if (decide (q15.1 < 4))=true then
   Option.bind (Sh.get ([(Ac.mk 0 0 [q9]),(Ac.mk 1 0 []),(Ac.mk 0 0 [q10,q11,q12]),(Ac.mk 0 1 [])]) q15.1) fun c22=>
   Option.bind (Sh.app ([(Ac.mk 0 0 [q3,q4]),(Ac.mk 0 0 []),(Ac.mk 0 0 [q6,q7])]) [c22] 40) fun l23=>
   some l23
  else
   some ([(Ac.mk 0 0 [q3,q4]),(Ac.mk 0 0 []),(Ac.mk 0 0 [q6,q7])])
 ) fun l17=>
 some (l17,q15.2)
def Dj (p0:(List Int)) (p1:Int):Option (Ar):=
 some (Ar.mk p0 p1 (AP.mk 0 0 []))
def BY (s0_0:(List Int)) (s0_1:Int) (p1:(List Int)):Option (Int×Int):=
 Option.bind (Aw s0_0 s0_1 (Sh.len p1)) fun q3=>
 Option.bind (Sh.get p1 q3.1) fun c4=>
 some (c4,q3.2)
def Dn (p0:(List Int)) (p1:Int):Nat→Int→Option ((Int) ⊕ (Unit))
 | 0,_=>none
 | n+1,i4=>
  if (decide (i4 < (Sh.len p0)))=true then
   Option.bind (Sh.get p0 i4) fun c12=>
   if (decide (c12=p1))=true then
    some (Sum.inl i4)
   else
    Dn p0 p1 n (Sh.w (i4+1))
  else
   some (Sum.inr ())
def HR (N:Nat) (p0:(List Int)) (p1:Int):Option (Int):=
 Sh.cont (Dn p0 p1 N 0) (id) fun ()=>
 some (-1)
def D2 (p0:Int):Option (AP):=
 some (AP.mk 0 p0 [])
def Ck (p0:(List Int)) (p1:Int):Nat→Int→(List Int)→Option ((List Int))
 | 0,_,_=>none
 | n+1,i5,l6=>
  if (decide (i5 < (Sh.len p0)))=true then
   Option.bind (
    Option.bind (Sh.get p0 i5) fun c17=>
    if (decide (c17=p1))=true then
     Option.bind (Sh.app l6 [i5] 8) fun l19=>
     some l19
    else
     some l6
   ) fun l14=>
   Ck p0 p1 n (Sh.w (i5+1)) l14
  else
   some l6
def Fq (N:Nat) (p0:(List Int)) (p1:Int):Option ((List Int)):=
 Option.bind (Ck p0 p1 N 0 []) fun l7=>
 some l7
def DP (N:Nat) (p0:Af) (p1:Int):Nat→Int→(List Int)→Option ((List Int))
 | 0,_,_=>none
 | n+1,f5,l6=>
  if (decide (f5 < (Sh.len p0.funcs)))=true then
   Option.bind (
    Option.bind (Sh.get p0.funcs f5) fun c17=>
    Option.bind (
     if (decide (0 < (Sh.len c17.params)))=true then
      Option.bind (Sh.get c17.params (Sh.w ((Sh.len c17.params) - 1))) fun c24=>
      Option.bind (GS N p0.decls c24 c17.result) fun q25=>
      some (decide (q25=p1))
     else
      some false
    ) fun t19=>
    if t19=true then
     Option.bind (Sh.app l6 [f5] 8) fun l22=>
     some l22
    else
     some l6
   ) fun l14=>
   DP N p0 p1 n (Sh.w (f5+1)) l14
  else
   some l6
def Fp (N:Nat) (p0:Af) (p1:Int):Option ((List Int)):=
 Option.bind (DP N p0 p1 N 0 []) fun l7=>
 some l7
def FB (N:Nat) (p0:Af) (p1:(List Int)) (p2:Int):Option (Bool):=
 Option.bind (
  Option.bind (FC p0.decls p2) fun q5=>
  if (!q5)=true then
   some true
  else
   Option.bind (Fp N p0 p2) fun q7=>
   if (decide (0 < (Sh.len q7)))=true then
    some true
   else
    Option.bind (E0 N p1 p2) fun q9=>
    some q9
 ) fun t3=>
 some t3
def Bt (p0:Int):Option (AP):=
 some (AP.mk 12 p0 [])
def BQ (p0:Int) (p1:Int) (p2:(List AP)):Option (AP):=
 some (AP.mk p0 p1 p2)
def GU (s0_0:(List Int)) (s0_1:Int):Option (Int×Int):=
 Option.bind (Aw s0_0 s0_1 6) fun q3=>
 Option.bind (Aw s0_0 q3.2 6) fun q4=>
 Option.bind (Aw s0_0 q4.2 40) fun q5=>
 Option.bind (BY s0_0 q5.2 [q3.1,q4.1,0,1,2,-1,3,q5.1,999,-998]) fun q6=>
 some (q6.1,q6.2)
def B9 (s0_0:(List Int)) (s1:(List Ar)) (p1_0:(List Ac)) (q18:(List Int)) (rec_spec_smallest:(List Int)→Int→(List Ar)→(List Ac)→Int→Option (AP×Int)):Nat→Int→Int→(List AP)→Option (Int×(List AP))
 | 0,_,_,_=>none
 | n+1,i21,f22,l23=>
  if (decide (i21 < (Sh.len q18)))=true then
   Option.bind (Sh.get q18 i21) fun c33=>
   Option.bind (rec_spec_smallest s0_0 f22 s1 p1_0 c33) fun q34=>
   Option.bind (Sh.app l23 [q34.1] 40) fun l35=>
   B9 s0_0 s1 p1_0 q18 rec_spec_smallest n (Sh.w (i21+1)) q34.2 l35
  else
   some (f22,l23)
def Cp (c59:Ar) (s0_0:(List Int)) (s1:(List Ar)) (p1_0:(List Ac)) (rec_spec_smallest:(List Int)→Int→(List Ar)→(List Ac)→Int→Option (AP×Int)):Nat→Int→Int→(List AP)→Option (Int×(List AP))
 | 0,_,_,_=>none
 | n+1,i63,f64,l65=>
  if (decide ((Sh.w (i63+1)) < (Sh.len c59.params)))=true then
   Option.bind (Sh.get c59.params i63) fun c75=>
   Option.bind (rec_spec_smallest s0_0 f64 s1 p1_0 c75) fun q76=>
   Option.bind (Sh.app l65 [q76.1] 40) fun l77=>
   Cp c59 s0_0 s1 p1_0 rec_spec_smallest n (Sh.w (i63+1)) q76.2 l77
  else
   some (f64,l65)
def Fs (N:Nat) (rec_spec_smallest:(List Int)→Int→(List Ar)→(List Ac)→Int→Option (AP×Int)) (s0_0:(List Int)) (s0_1:Int) (s1:(List Ar)) (p1_0:(List Ac)) (p2:Int):Option (AP×Int):=
 Option.bind (E7 N p1_0 p2) fun q3=>
 if (decide (0 < (Sh.len q3)))=true then
  Option.bind (Sh.get q3 0) fun c8=>
  Option.bind (
   Option.bind (
    if (decide (1 < (Sh.len q3)))=true then
     Option.bind (Aw s0_0 s0_1 4) fun q47=>
     some (decide (q47.1=0),q47.2)
    else
     some (false,s0_1)
   ) fun (t41,f42)=>
   if t41=true then
    Option.bind (Sh.get q3 1) fun c45=>
    some (c45,f42)
   else
    some (c8,f42)
  ) fun (c10,f11)=>
  Option.bind (
   Option.bind (Bf N p1_0 c10) fun q37=>
   Option.bind (E0 N q37 p2) fun q38=>
   if q38=true then
    some c8
   else
    some c10
  ) fun c14=>
  Option.bind (Bf N p1_0 c14) fun q18=>
  Option.bind (B9 s0_0 s1 p1_0 q18 rec_spec_smallest N 0 f11 []) fun (f24,l25)=>
  Option.bind (BQ 6 c14 l25) fun q28=>
  some (q28,f24)
 else
  Option.bind (Fp N (Af.mk p1_0 s1) p2) fun q49=>
  Option.bind (
   if (decide (0 < p2))=true then
    some (decide (0 < (Sh.len q49)))
   else
    some false
  ) fun t52=>
  if t52=true then
   Option.bind (Aw s0_0 s0_1 (Sh.len q49)) fun q56=>
   Option.bind (Sh.get q49 q56.1) fun c57=>
   Option.bind (Sh.get s1 c57) fun c59=>
   Option.bind (Cp c59 s0_0 s1 p1_0 rec_spec_smallest N 0 q56.2 []) fun (f66,l67)=>
   Option.bind (BQ 10 c57 l67) fun q70=>
   some (q70,f66)
  else
   Option.bind (GU s0_0 s0_1) fun q79=>
   Option.bind (D2 q79.1) fun q80=>
   some (q80,q79.2)
def CM (N:Nat):Nat→(List Int)→Int→(List Ar)→(List Ac)→Int→Option (AP×Int)
 | 0,_,_,_,_,_=>none
 | n+1,s0_0,s0_1,s1,p1_0,p2=>Fs N (CM N n) s0_0 s0_1 s1 p1_0 p2
def JY (N:Nat) (s0_0:(List Int)) (s0_1:Int) (s1:(List Ar)) (p1_0:(List Ac)) (p2:Int):Option (AP×Int):=CM N N s0_0 s0_1 s1 p1_0 p2
def Fh (N:Nat) (s0_0:(List Int)) (s0_1:Int) (s1:(List Ar)) (p1_0:(List Ac)) (p2:(List Int)) (p3:Int):Option (AP×Int):=
 Option.bind (Fq N p2 p3) fun q3=>
 Option.bind (
  if (decide (0 < (Sh.len q3)))=true then
   Option.bind (Aw s0_0 s0_1 6) fun q17=>
   if (decide (0 < q17.1))=true then
    some (true,q17.2)
   else
    Option.bind (FB N (Af.mk p1_0 s1) ([]:List Int) p3) fun q19=>
    some (!q19,q17.2)
  else
   some (false,s0_1)
 ) fun (t6,f7)=>
 if t6=true then
  Option.bind (Aw s0_0 f7 (Sh.len q3)) fun q11=>
  Option.bind (Sh.get q3 q11.1) fun c12=>
  Option.bind (Bt c12) fun q13=>
  some (q13,q11.2)
 else
  Option.bind (JY N s0_0 f7 s1 p1_0 p3) fun q15=>
  some (q15.1,q15.2)
def HV (N:Nat) (s0_0:(List Int)) (s0_1:Int) (s1:(List Ar)) (p1_0:(List Ac)) (p2:(List Int)):Option (Int×Int):=
 Option.bind (BY s0_0 s0_1 [(1:Int),1,3,0,2,4,3]) fun q3=>
 Option.bind (
  if (decide ((Sh.len p1_0) < q3.1))=true then
   some true
  else
   Option.bind (FB N (Af.mk p1_0 s1) p2 q3.1) fun q12=>
   some (!q12)
 ) fun t6=>
 if t6=true then
  some (1,q3.2)
 else
  some (q3.1,q3.2)
def EB (s0_0:(List Int)) (s1:(List Ar)) (p1_0:(List Ac)) (p2:(List Int)) (p3:(List Int)) (p4:Int) (rec_spec_gen:(List Int)→Int→(List Ar)→(List Ac)→(List Int)→Int→Int→Option (AP×Int)):Nat→Int→Int→(List AP)→Option (Int×(List AP))
 | 0,_,_,_=>none
 | n+1,i5,f6,l7=>
  if (decide (i5 < (Sh.len p3)))=true then
   Option.bind (Sh.get p3 i5) fun c16=>
   Option.bind (Sh.quo p4 (Sh.len p3)) fun d17=>
   Option.bind (rec_spec_gen s0_0 f6 s1 p1_0 p2 c16 d17) fun q18=>
   Option.bind (Sh.app l7 [q18.1] 40) fun l19=>
   EB s0_0 s1 p1_0 p2 p3 p4 rec_spec_gen n (Sh.w (i5+1)) q18.2 l19
  else
   some (f6,l7)
def EZ (N:Nat) (rec_spec_gen:(List Int)→Int→(List Ar)→(List Ac)→(List Int)→Int→Int→Option (AP×Int)) (s0_0:(List Int)) (s0_1:Int) (s1:(List Ar)) (p1_0:(List Ac)) (p2:(List Int)) (p3:(List Int)) (p4:Int):Option ((List AP)×Int):=
 Option.bind (EB s0_0 s1 p1_0 p2 p3 p4 rec_spec_gen N 0 s0_1 []) fun (f8,l9)=>
 some (l9,f8)
def Cv (N:Nat) (s0_0:(List Int)) (s1:(List Ar)) (p1_0:(List Ac)) (p2:(List Int)) (p3:Int) (p4:Int) (q8:(List Int)) (rec_spec_gen:(List Int)→Int→(List Ar)→(List Ac)→(List Int)→Int→Int→Option (AP×Int)):Nat→Int→Int→(List AP)→Option (Int×(List AP))
 | 0,_,_,_=>none
 | n+1,i13,f14,l15=>
  if (decide (i13 < (Sh.len q8)))=true then
   Option.bind (Sh.get q8 i13) fun c25=>
   Option.bind (Bf N p1_0 c25) fun q26=>
   Option.bind (DO p2 q26) fun q27=>
   Option.bind (Sh.quo (Sh.w (p4 - 2)) (Sh.len q8)) fun d28=>
   Option.bind (rec_spec_gen s0_0 f14 s1 p1_0 q27 p3 d28) fun q29=>
   Option.bind (Sh.app l15 [q29.1] 40) fun l30=>
   Cv N s0_0 s1 p1_0 p2 p3 p4 q8 rec_spec_gen n (Sh.w (i13+1)) q29.2 l30
  else
   some (f14,l15)
def G9 (N:Nat) (rec_spec_gen:(List Int)→Int→(List Ar)→(List Ac)→(List Int)→Int→Int→Option (AP×Int)) (s0_0:(List Int)) (s0_1:Int) (s1:(List Ar)) (p1_0:(List Ac)) (p2:(List Int)) (p3:Int) (p4:Int):Option (AP×Int):=
 Option.bind (BY s0_0 s0_1 [(1:Int),1,3,4]) fun q3=>
 Option.bind (
  Option.bind (
   if (decide ((Sh.len p1_0) < q3.1))=true then
    some true
   else
    Option.bind (FC p1_0 q3.1) fun q36=>
    some q36
  ) fun t32=>
  if t32=true then
   some 1
  else
   some q3.1
 ) fun d5=>
 Option.bind (E7 N p1_0 d5) fun q8=>
 Option.bind (Fh N s0_0 q3.2 s1 p1_0 p2 d5) fun q10=>
 Option.bind (Cv N s0_0 s1 p1_0 p2 p3 p4 q8 rec_spec_gen N 0 q10.2 [q10.1]) fun (f16,l17)=>
 Option.bind (BQ 8 d5 l17) fun q20=>
 some (q20,f16)
def DS (N:Nat) (c17:Ar) (p0:Af):Nat→Bool→Int→Option (Bool)
 | 0,_,_=>none
 | n+1,ok20,i21=>
  if (decide (i21 < (Sh.len c17.params)))=true then
   Option.bind (
    if ok20=true then
     Option.bind (Sh.get c17.params i21) fun c34=>
     Option.bind (FB N p0 ([]:List Int) c34) fun q35=>
     some q35
    else
     some false
   ) fun ok31=>
   DS N c17 p0 n ok31 (Sh.w (i21+1))
  else
   some ok20
def DW (N:Nat) (p0:Af) (p1:Int):Nat→Int→(List Int)→Option ((List Int))
 | 0,_,_=>none
 | n+1,f5,l6=>
  if (decide (f5 < (Sh.len p0.funcs)))=true then
   Option.bind (
    Option.bind (Sh.get p0.funcs f5) fun c17=>
    Option.bind (DS N c17 p0 N (decide (c17.result=p1)) 0) fun ok22=>
    if ok22=true then
     Option.bind (Sh.app l6 [f5] 8) fun l26=>
     some l26
    else
     some l6
   ) fun l14=>
   DW N p0 p1 n (Sh.w (f5+1)) l14
  else
   some l6
def G7 (N:Nat) (p0:Af) (p1:Int):Option ((List Int)):=
 Option.bind (DW N p0 p1 N 1 []) fun l7=>
 some l7
def DY (N:Nat) (s0_0:(List Int)) (s1:(List Ar)) (p1_0:(List Ac)) (p2:(List Int)) (p3:Int) (p4:Int) (q34:Int×Int) (rec_spec_gen:(List Int)→Int→(List Ar)→(List Ac)→(List Int)→Int→Int→Option (AP×Int)):Nat→Int→Option ((AP×Int) ⊕ (Unit))
 | 0,_=>none
 | n+1,a38=>
  if (decide (a38≤(Sh.len p1_0)))=true then
   Option.bind (
    Option.bind (FC p1_0 a38) fun q53=>
    if q53=true then
     Option.bind (Sh.get p1_0 (Sh.w (a38 - 1))) fun c55=>
     if (decide (c55.to=p3))=true then
      Option.bind (FB N (Af.mk p1_0 s1) p2 a38) fun q57=>
      some q57
     else
      some false
    else
     some false
   ) fun t45=>
   if t45=true then
    Option.bind (Fh N s0_0 q34.2 s1 p1_0 p2 a38) fun q49=>
    Option.bind (Sh.get p1_0 (Sh.w (a38 - 1))) fun c50=>
    Option.bind (rec_spec_gen s0_0 q49.2 s1 p1_0 p2 c50.from_ (Sh.w (p4 - 2))) fun q51=>
    Option.bind (BQ 11 0 [q49.1,q51.1]) fun q52=>
    some (Sum.inl (q52,q51.2))
   else
    DY N s0_0 s1 p1_0 p2 p3 p4 q34 rec_spec_gen n (Sh.w (a38+1))
  else
   some (Sum.inr ())
def G5 (N:Nat) (rec_spec_gen:(List Int)→Int→(List Ar)→(List Ac)→(List Int)→Int→Int→Option (AP×Int)) (s0_0:(List Int)) (s0_1:Int) (s1:(List Ar)) (p1_0:(List Ac)) (p2:(List Int)) (p3:Int) (p4:Int):Option (AP×Int):=
 Sh.cont (
  Option.bind (Aw s0_0 s0_1 4) fun q34=>
  if (decide (q34.1=0))=true then
   Sh.cont (DY N s0_0 s1 p1_0 p2 p3 p4 q34 rec_spec_gen N 1) (fun x=>Sum.inl x) fun ()=>
   some (Sum.inr q34.2)
  else
   some (Sum.inr q34.2)
 ) (id) fun f3=>
 Option.bind (E7 N p1_0 p3) fun q6=>
 if (decide (0 < (Sh.len q6)))=true then
  Option.bind (Aw s0_0 f3 (Sh.len q6)) fun q11=>
  Option.bind (Sh.get q6 q11.1) fun c12=>
  Option.bind (Bf N p1_0 c12) fun q14=>
  Option.bind (EZ N rec_spec_gen s0_0 q11.2 s1 p1_0 p2 q14 (Sh.w (p4 - 1))) fun q15=>
  Option.bind (BQ 6 c12 q15.1) fun q16=>
  some (q16,q15.2)
 else
 if (decide (0 < p3))=true then
  Option.bind (Fh N s0_0 f3 s1 p1_0 p2 p3) fun q21=>
  some (q21.1,q21.2)
 else
  Option.bind (Aw s0_0 f3 3) fun q24=>
  if (decide (q24.1=0))=true then
   Option.bind (EZ N rec_spec_gen s0_0 q24.2 s1 p1_0 p2 [(0:Int)] (Sh.w (p4 - 1))) fun q27=>
   Option.bind (BQ 5 0 q27.1) fun q28=>
   some (q28,q27.2)
  else
   Option.bind (BY s0_0 q24.2 [(1:Int),2,3,4]) fun q30=>
   Option.bind (EZ N rec_spec_gen s0_0 q30.2 s1 p1_0 p2 [(0:Int),0] (Sh.w (p4 - 1))) fun q31=>
   Option.bind (BQ q30.1 0 q31.1) fun q32=>
   some (q32,q31.2)
def Ii (N:Nat) (rec_spec_gen:(List Int)→Int→(List Ar)→(List Ac)→(List Int)→Int→Int→Option (AP×Int)) (s0_0:(List Int)) (s0_1:Int) (s1:(List Ar)) (p1_0:(List Ac)) (p2:(List Int)) (p3:Int) (p4:Int):Option (AP×Int):=
 if (decide (p4 < 3))=true then
  Option.bind (Fh N s0_0 s0_1 s1 p1_0 p2 p3) fun q6=>
  some (q6.1,q6.2)
 else
  Sh.cont (
   Option.bind (Aw s0_0 s0_1 12) fun q13=>
   if (decide (q13.1=0))=true then
    Option.bind (Fh N s0_0 q13.2 s1 p1_0 p2 p3) fun q17=>
    some (Sum.inl (q17.1,q17.2))
   else
    Option.bind (
     if (decide (q13.1=1))=true then
      some true
     else
      some (decide (q13.1=2))
    ) fun t19=>
    if t19=true then
     Option.bind (HV N s0_0 q13.2 s1 p1_0 p2) fun q23=>
     Option.bind (rec_spec_gen s0_0 q23.2 s1 p1_0 p2 q23.1 (Sh.w (Int.tdiv p4 2))) fun q25=>
     Option.bind (DO p2 [q23.1]) fun q26=>
     Option.bind (rec_spec_gen s0_0 q25.2 s1 p1_0 q26 p3 (Sh.w (Int.tdiv p4 2))) fun q27=>
     Option.bind (BQ 13 0 [q25.1,q27.1]) fun q28=>
     some (Sum.inl (q28,q27.2))
    else
    if (decide (q13.1=3))=true then
     Option.bind (EZ N rec_spec_gen s0_0 q13.2 s1 p1_0 p2 [0,p3,p3] (Sh.w (p4 - 1))) fun q32=>
     Option.bind (BQ 7 0 q32.1) fun q33=>
     some (Sum.inl (q33,q32.2))
    else
     Option.bind (
      if (decide (q13.1=4))=true then
       some true
      else
      if (decide (q13.1=5))=true then
       some true
      else
       some (decide (q13.1=6))
     ) fun t35=>
     if t35=true then
      Option.bind (G9 N rec_spec_gen s0_0 q13.2 s1 p1_0 p2 p3 p4) fun q39=>
      some (Sum.inl (q39.1,q39.2))
     else
      Option.bind (
       if (decide (q13.1=7))=true then
        some true
       else
        some (decide (q13.1=8))
      ) fun t41=>
      if t41=true then
       Option.bind (G7 N (Af.mk p1_0 s1) p3) fun q45=>
       if (decide (0 < (Sh.len q45)))=true then
        Option.bind (Aw s0_0 q13.2 (Sh.len q45)) fun q49=>
        Option.bind (Sh.get q45 q49.1) fun c50=>
        Option.bind (Sh.get s1 c50) fun c52=>
        Option.bind (EZ N rec_spec_gen s0_0 q49.2 s1 p1_0 p2 c52.params (Sh.w (p4 - 1))) fun q53=>
        Option.bind (BQ 9 c50 q53.1) fun q54=>
        some (Sum.inl (q54,q53.2))
       else
        some (Sum.inr q13.2)
      else
       some (Sum.inr q13.2)
  ) (id) fun f8=>
  Option.bind (G5 N rec_spec_gen s0_0 f8 s1 p1_0 p2 p3 p4) fun q11=>
  some (q11.1,q11.2)
def Gx (N:Nat):Nat→(List Int)→Int→(List Ar)→(List Ac)→(List Int)→Int→Int→Option (AP×Int)
 | 0,_,_,_,_,_,_,_=>none
 | n+1,s0_0,s0_1,s1,p1_0,p2,p3,p4=>Ii N (Gx N n) s0_0 s0_1 s1 p1_0 p2 p3 p4
def FG (N:Nat) (s0_0:(List Int)) (s0_1:Int) (s1:(List Ar)) (p1_0:(List Ac)) (p2:(List Int)) (p3:Int) (p4:Int):Option (AP×Int):=Gx N N s0_0 s0_1 s1 p1_0 p2 p3 p4
def EK (s0_0:(List Int)):Nat→Int→Int→Int→Int→(List AP)→Option (Int×Int×Int×(List AP))
 | 0,_,_,_,_,_=>none
 | n+1,n21,f22,f23,f24,f25=>
  if (decide (0 < n21))=true then
   Option.bind (GU s0_0 f22) fun q36=>
   Option.bind (D2 q36.1) fun q37=>
   Option.bind (BQ 6 1 [q37,(AP.mk f23 f24 f25)]) fun q38=>
   EK s0_0 n (Sh.w (n21 - 1)) q36.2 q38.op q38.num q38.kids
  else
   some (f22,f23,f24,f25)
def HO (N:Nat) (s0_0:(List Int)) (s0_1:Int) (p1:Int):Option (AP×Int):=
 Option.bind (BQ 6 0 ([]:List AP)) fun q3=>
 if (decide (p1=3))=true then
  Option.bind (BQ 6 2 ([]:List AP)) fun q8=>
  Option.bind (Aw s0_0 s0_1 9) fun q10=>
  Option.bind (D2 q10.1) fun q11=>
  Option.bind (BQ 6 3 [q8,q11,q8]) fun q12=>
  Option.bind (Aw s0_0 q10.2 9) fun q14=>
  Option.bind (D2 q14.1) fun q15=>
  Option.bind (BQ 6 3 [q12,q15,q8]) fun q16=>
  some (q16,q14.2)
 else
  Option.bind (Aw s0_0 s0_1 3) fun q20=>
  Option.bind (EK s0_0 N (Sh.w (1+q20.1)) q20.2 q3.op q3.num q3.kids) fun (f26,f27,f28,f29)=>
  some ((AP.mk f27 f28 f29),f26)
def Gu (N:Nat) (s0_0:(List Int)) (s0_1:Int) (s1:(List Ar)) (p1_0:(List Ac)):Option (AP×Int):=
 Option.bind (BY s0_0 s0_1 [(1:Int),1,3]) fun q3=>
 Option.bind (FG N s0_0 q3.2 s1 p1_0 [q3.1] 0 16) fun q5=>
 Option.bind (
  Option.bind (Aw s0_0 q5.2 3) fun q16=>
  if (decide (q16.1=0))=true then
   Option.bind (BQ 5 0 [q5.1]) fun q18=>
   some (q16.2,q18.op,q18.num,q18.kids)
  else
   some (q16.2,q5.1.op,q5.1.num,q5.1.kids)
 ) fun (f7,f8,f9,f10)=>
 Option.bind (HO N s0_0 f7 q3.1) fun q13=>
 Option.bind (BQ 13 0 [q13.1,(AP.mk f8 f9 f10)]) fun q14=>
 some (q14,q13.2)
def DV (c3:Ar) (s0_0:(List Int)) (p3:Int):Nat→Int→Int→(List AP)→Option (Int×(List AP))
 | 0,_,_,_=>none
 | n+1,i10,f11,l12=>
  if (decide (i10 < (Sh.len c3.params)))=true then
   Option.bind (
    if (decide (i10=p3))=true then
     Option.bind (Bt (Sh.w ((Sh.len c3.params) + 1))) fun q67=>
     Option.bind (Sh.app l12 [q67] 40) fun l68=>
     some (f11,l68)
    else
     Option.bind (
      Option.bind (Sh.get c3.params i10) fun c80=>
      if (decide (c80=0))=true then
       Option.bind (Aw s0_0 f11 2) fun q82=>
       some (decide (q82.1=0),q82.2)
      else
       some (false,f11)
     ) fun (t70,f71)=>
     if t70=true then
      Option.bind (Bt i10) fun q74=>
      Option.bind (Bt (Sh.len c3.params)) fun q75=>
      Option.bind (BQ 1 0 [q74,q75]) fun q76=>
      Option.bind (Sh.app l12 [q76] 40) fun l77=>
      some (f71,l77)
     else
      Option.bind (Bt i10) fun q78=>
      Option.bind (Sh.app l12 [q78] 40) fun l79=>
      some (f71,l79)
   ) fun (f62,l63)=>
   DV c3 s0_0 p3 n (Sh.w (i10+1)) f62 l63
  else
   some (f11,l12)
def HA (N:Nat) (s0_0:(List Int)) (s0_1:Int) (s1:(List Ar)) (p1_0:(List Ac)) (p2:Int) (p3:Int):Option (AP×Int):=
 Option.bind (Sh.get s1 p2) fun c3=>
 Option.bind (DO c3.params [(0:Int),1]) fun q6=>
 Option.bind (DV c3 s0_0 p3 N 0 s0_1 []) fun (f13,l14)=>
 Option.bind (BQ 9 p2 l14) fun q17=>
 Option.bind (
  Option.bind (
   if (decide (c3.result=1))=true then
    Option.bind (Aw s0_0 f13 5) fun q57=>
    some (decide (0 < q57.1),q57.2)
   else
    some (false,f13)
  ) fun (t30,f31)=>
  if t30=true then
   Option.bind (FG N s0_0 f31 s1 p1_0 q6 0 4) fun q35=>
   Option.bind (
    Option.bind (
     if (decide (1 < (Sh.len c3.params)))=true then
      Option.bind (Sh.get c3.params 0) fun c50=>
      some (decide (c50=2))
     else
      some false
    ) fun t43=>
    if t43=true then
     Option.bind (Bt 0) fun q46=>
     Option.bind (Bt (Sh.len c3.params)) fun q47=>
     Option.bind (BQ 11 0 [q46,q47]) fun q48=>
     some (q48.op,q48.num,q48.kids)
    else
     some (q35.1.op,q35.1.num,q35.1.kids)
   ) fun (f37,f38,f39)=>
   Option.bind (BQ 6 1 [(AP.mk f37 f38 f39),q17]) fun q41=>
   some (q35.2,q41.op,q41.num,q41.kids)
  else
  if (decide (c3.result=0))=true then
   Option.bind (BY s0_0 f31 [(1:Int),2]) fun q53=>
   Option.bind (FG N s0_0 q53.2 s1 p1_0 q6 0 4) fun q54=>
   Option.bind (BQ q53.1 0 [q54.1,q17]) fun q55=>
   some (q54.2,q55.op,q55.num,q55.kids)
  else
   some (f31,q17.op,q17.num,q17.kids)
 ) fun (f20,f21,f22,f23)=>
 Option.bind (Bt p3) fun q26=>
 Option.bind (FG N s0_0 f20 s1 p1_0 c3.params c3.result 4) fun q27=>
 Option.bind (BQ 8 1 [q26,q27.1,(AP.mk f21 f22 f23)]) fun q28=>
 some (q28,q27.2)
def DR (c3:Ar):Nat→Int→(List AP)→(List AP)→Option ((List AP)×(List AP))
 | 0,_,_,_=>none
 | n+1,i11,l12,l13=>
  if (decide (i11 < (Sh.len c3.params)))=true then
   Option.bind (Bt i11) fun q47=>
   Option.bind (Sh.app l12 [q47] 40) fun l48=>
   Option.bind (Bt i11) fun q49=>
   Option.bind (Sh.app l13 [q49] 40) fun l50=>
   DR c3 n (Sh.w (i11+1)) l48 l50
  else
   some (l12,l13)
def Gq (N:Nat) (s0_0:(List Int)) (s0_1:Int) (s1:(List Ar)) (p1_0:(List Ac)) (p2:Int):Option (AP×Int):=
 Option.bind (Sh.get s1 p2) fun c3=>
 Option.bind (Bt (Sh.len c3.params)) fun q6=>
 Option.bind (Bt (Sh.w ((Sh.len c3.params) + 2))) fun q8=>
 Option.bind (DR c3 N 1 [q6] [q8]) fun (l14,l15)=>
 Option.bind (BQ 9 p2 l14) fun q18=>
 Option.bind (BQ 9 p2 l15) fun q20=>
 Option.bind (DO c3.params [(3:Int),0,3]) fun q22=>
 Option.bind (FG N s0_0 s0_1 s1 p1_0 q22 0 4) fun q23=>
 Option.bind (BQ 1 0 [q23.1,q20]) fun q24=>
 Option.bind (BQ 1 0 [q18,q24]) fun q25=>
 Option.bind (
  if (decide (c3.result=3))=true then
   Option.bind (DO c3.params [(3:Int),0,3]) fun q38=>
   Option.bind (FG N s0_0 q23.2 s1 p1_0 q38 0 4) fun q39=>
   Option.bind (Bt (Sh.w ((Sh.len c3.params) + 2))) fun q40=>
   Option.bind (BQ 6 3 [q18,q39.1,q40]) fun q41=>
   some (q39.2,q41.op,q41.num,q41.kids)
  else
   some (q23.2,q25.op,q25.num,q25.kids)
 ) fun (f27,f28,f29,f30)=>
 Option.bind (Bt 0) fun q33=>
 Option.bind (FG N s0_0 f27 s1 p1_0 c3.params c3.result 4) fun q34=>
 Option.bind (BQ 8 3 [q33,q34.1,(AP.mk f28 f29 f30)]) fun q35=>
 some (q35,q34.2)
def DQ (N:Nat) (c3:Ar) (s0_0:(List Int)) (s1:(List Ar)) (p1_0:(List Ac)):Nat→Int→Int→(List AP)→Option (Int×(List AP))
 | 0,_,_,_=>none
 | n+1,i10,f11,l12=>
  if (decide (i10 < (Sh.len c3.params)))=true then
   Option.bind (Sh.get c3.params i10) fun c39=>
   Option.bind (Fh N s0_0 f11 s1 p1_0 c3.params c39) fun q40=>
   Option.bind (Sh.app l12 [q40.1] 40) fun l41=>
   DQ N c3 s0_0 s1 p1_0 n (Sh.w (i10+1)) q40.2 l41
  else
   some (f11,l12)
def G3 (N:Nat) (s0_0:(List Int)) (s0_1:Int) (s1:(List Ar)) (p1_0:(List Ac)) (p2:Int):Option (AP×Int):=
 Option.bind (Sh.get s1 p2) fun c3=>
 Option.bind (Bt 0) fun q5=>
 Option.bind (D2 1) fun q6=>
 Option.bind (BQ 2 0 [q5,q6]) fun q7=>
 Option.bind (DQ N c3 s0_0 s1 p1_0 N 1 s0_1 [q7]) fun (f13,l14)=>
 Option.bind (BQ 9 p2 l14) fun q17=>
 Option.bind (
  if (decide (c3.result=1))=true then
   Option.bind (FG N s0_0 f13 s1 p1_0 c3.params 0 3) fun q33=>
   Option.bind (BQ 6 1 [q33.1,q17]) fun q34=>
   some (q33.2,q34.op,q34.num,q34.kids)
  else
   some (f13,q17.op,q17.num,q17.kids)
 ) fun (f19,f20,f21,f22)=>
 Option.bind (D2 0) fun q25=>
 Option.bind (Bt 0) fun q26=>
 Option.bind (BQ 4 0 [q25,q26]) fun q27=>
 Option.bind (FG N s0_0 f19 s1 p1_0 c3.params c3.result 4) fun q29=>
 Option.bind (BQ 7 0 [q27,(AP.mk f20 f21 f22),q29.1]) fun q30=>
 some (q30,q29.2)
def El (N:Nat) (s0_0:(List Int)) (s1:(List Ar)) (p1_0:(List Ac)) (p2:(List Int)) (p3:Int):Nat→Int→Int→Int→Int→(List AP)→Option (Int×Int×Int×(List AP))
 | 0,_,_,_,_,_=>none
 | n+1,budget5,f6,f7,f8,f9=>
  Option.bind (
   Option.bind (Fi N (AP.mk f7 f8 f9)) fun q23=>
   if (decide (q23 < 0))=true then
    some (decide (2 < budget5))
   else
    some false
  ) fun t18=>
  if t18=true then
   Option.bind (FG N s0_0 f6 s1 p1_0 p2 p3 (Sh.w (Int.tdiv budget5 2))) fun q22=>
   El N s0_0 s1 p1_0 p2 p3 n (Sh.w (Int.tdiv budget5 2)) q22.2 q22.1.op q22.1.num q22.1.kids
  else
   some (f6,f7,f8,f9)
def GW (N:Nat) (s0_0:(List Int)) (s0_1:Int) (s1:(List Ar)) (p1_0:(List Ac)) (p2:(List Int)) (p3:Int) (p4:Int):Option (AP×Int):=
 Option.bind (FG N s0_0 s0_1 s1 p1_0 p2 p3 p4) fun q3=>
 Option.bind (El N s0_0 s1 p1_0 p2 p3 N p4 q3.2 q3.1.op q3.1.num q3.1.kids) fun (f10,f11,f12,f13)=>
 some ((AP.mk f11 f12 f13),f10)
def H8 (N:Nat) (s0_0:(List Int)) (s0_1:Int) (s1:(List Ar)) (p1_0:(List Ac)) (p2:Int):Option (AP×Int):=
 Option.bind (Sh.get s1 p2) fun c3=>
 Option.bind (HR N c3.params 1) fun q6=>
 Option.bind (D2 0) fun q8=>
 Option.bind (Aw s0_0 s0_1 4) fun q10=>
 Option.bind (
  Option.bind (
   if (decide (q10.1 < 3))=true then
    some (decide (p2=0))
   else
    some false
  ) fun t25=>
  if t25=true then
   Option.bind (Gu N s0_0 q10.2 s1 p1_0) fun q28=>
   some (q28.2,q28.1.op,q28.1.num,q28.1.kids)
  else
   Option.bind (
    if (decide (q10.1 < 3))=true then
     if (decide (0≤q6))=true then
      if (decide (c3.result=0))=true then
       some true
      else
       some (decide (c3.result=1))
     else
      some false
    else
     some false
   ) fun t30=>
   if t30=true then
    Option.bind (HA N s0_0 q10.2 s1 p1_0 p2 q6) fun q33=>
    some (q33.2,q33.1.op,q33.1.num,q33.1.kids)
   else
    Option.bind (
     if (decide (q10.1 < 3))=true then
      if (decide (0 < (Sh.len c3.params)))=true then
       Option.bind (Sh.get c3.params 0) fun c52=>
       if (decide (c52=3))=true then
        if (decide (c3.result=0))=true then
         some true
        else
         some (decide (c3.result=3))
       else
        some false
      else
       some false
     else
      some false
    ) fun t35=>
    if t35=true then
     Option.bind (Gq N s0_0 q10.2 s1 p1_0 p2) fun q38=>
     some (q38.2,q38.1.op,q38.1.num,q38.1.kids)
    else
     Option.bind (
      if (decide (q10.1 < 3))=true then
       if (decide (0 < (Sh.len c3.params)))=true then
        Option.bind (Sh.get c3.params 0) fun c47=>
        if (decide (c47=0))=true then
         if (decide (c3.result=0))=true then
          some true
         else
          some (decide (c3.result=1))
        else
         some false
       else
        some false
      else
       some false
     ) fun t40=>
     if t40=true then
      Option.bind (G3 N s0_0 q10.2 s1 p1_0 p2) fun q43=>
      some (q43.2,q43.1.op,q43.1.num,q43.1.kids)
     else
      Option.bind (GW N s0_0 q10.2 s1 p1_0 c3.params c3.result 18) fun q44=>
      some (q44.2,q44.1.op,q44.1.num,q44.1.kids)
 ) fun (f12,f13,f14,f15)=>
 Option.bind (Fi N (AP.mk f13 f14 f15)) fun q19=>
 if (decide (q19 < 0))=true then
  Option.bind (GW N s0_0 f12 s1 p1_0 c3.params c3.result 12) fun q22=>
  some (q22.1,q22.2)
 else
  some ((AP.mk f13 f14 f15),f12)
def Cy (N:Nat) (s0_0:(List Int)) (q3:(List Ac)×Int):Nat→Int→Int→(List Ar)→Option (Int×(List Ar))
 | 0,_,_,_=>none
 | n+1,f37,f38,l39=>
  if (decide (0≤f37))=true then
   Option.bind (H8 N s0_0 f38 l39 q3.1 f37) fun q49=>
   Option.bind (Sh.get l39 f37) fun c50=>
   Cy N s0_0 q3 n (Sh.w (f37 - 1)) q49.2 (Sh.put l39 f37 (Ar.mk c50.params c50.result q49.1))
  else
   some (f38,l39)
def Ff (N:Nat) (s0_0:(List Int)) (s0_1:Int):Option (Af×Int):=
 Option.bind (FR s0_0 s0_1) fun q3=>
 Option.bind (Dj [(1:Int)] 0) fun q5=>
 Option.bind (Dj [(1:Int),1] 1) fun q6=>
 Option.bind (Dj [(1:Int)] 1) fun q7=>
 Option.bind (Dj [(1:Int),0] 1) fun q8=>
 Option.bind (Dj [(2:Int),1] 1) fun q9=>
 Option.bind (Dj [(1:Int),1] 0) fun q10=>
 Option.bind (Dj [(3:Int)] 0) fun q12=>
 Option.bind (Dj [(0:Int)] 1) fun q13=>
 Option.bind (Dj [(0:Int),1] 1) fun q14=>
 Option.bind (Dj [(3:Int),0] 3) fun q15=>
 Option.bind (Dj [(3:Int)] 1) fun q16=>
 Option.bind (Dj [(1:Int),3,0] 0) fun q17=>
 Option.bind (Dj [(0:Int)] 0) fun q19=>
 Option.bind (Dj [(0:Int),0] 0) fun q20=>
 Option.bind (Dj [(1:Int),0] 0) fun q21=>
 Option.bind (Dj [(0:Int)] 1) fun q22=>
 Option.bind (Dj ([]:List Int) 0) fun q24=>
 Option.bind (Aw s0_0 q3.2 (Sh.len [q5,q6,q7,q8,q9,q10])) fun q25=>
 Option.bind (Sh.get [q5,q6,q7,q8,q9,q10] q25.1) fun c26=>
 Option.bind (Aw s0_0 q25.2 (Sh.len [q12,q13,q14,q15,q16,q17])) fun q27=>
 Option.bind (Sh.get [q12,q13,q14,q15,q16,q17] q27.1) fun c28=>
 Option.bind (Aw s0_0 q27.2 (Sh.len [q19,q20,q21,q22])) fun q29=>
 Option.bind (Sh.get [q19,q20,q21,q22] q29.1) fun c30=>
 Option.bind (BY s0_0 q29.2 [(4:Int),4,3,2,4]) fun q32=>
 Option.bind (Sh.hi [q24,c26,c28,c30] q32.1) fun l34=>
 Option.bind (Cy N s0_0 q3 N (Sh.w (q32.1 - 1)) q32.2 l34) fun (f40,l41)=>
 some ((Af.mk q3.1 l41),f40)
def Hz (rec_spec_copyExprs:(List AP)→Option ((List AP))) (p0:AP):Option (AP):=
 Option.bind (rec_spec_copyExprs p0.kids) fun q3=>
 some (AP.mk p0.op p0.num q3)
def CR (p0:(List AP)) (rec_spec_copyExprs:(List AP)→Option ((List AP))):Nat→Int→(List AP)→Option ((List AP))
 | 0,_,_=>none
 | n+1,i5,l6=>
  if (decide (i5 < (Sh.len p0)))=true then
   Option.bind (Sh.get p0 i5) fun c14=>
   Option.bind (Hz rec_spec_copyExprs c14) fun q15=>
   Option.bind (Sh.app l6 [q15] 40) fun l16=>
   CR p0 rec_spec_copyExprs n (Sh.w (i5+1)) l16
  else
   some l6
def Gi (N:Nat) (rec_spec_copyExprs:(List AP)→Option ((List AP))) (p0:(List AP)):Option ((List AP)):=
 Option.bind (CR p0 rec_spec_copyExprs N 0 []) fun l7=>
 some l7
def Dv (N:Nat):Nat→(List AP)→Option ((List AP))
 | 0,_=>none
 | n+1,p0=>Gi N (Dv N n) p0
def Iw (N:Nat) (p0:(List AP)):Option ((List AP)):=Dv N N p0
def I9 (N:Nat) (rec_spec_bend:(List Int)→Int→AP→Option (AP×Int)) (s0_0:(List Int)) (s0_1:Int) (p1:AP):Option (AP×Int):=
 Option.bind (
  if (decide (0 < (Sh.len p1.kids)))=true then
   Option.bind (Aw s0_0 s0_1 3) fun q47=>
   some (decide (0 < q47.1),q47.2)
  else
   some (false,s0_1)
 ) fun (t4,f5)=>
 if t4=true then
  Option.bind (Iw N p1.kids) fun q9=>
  Option.bind (Aw s0_0 f5 (Sh.len q9)) fun q11=>
  Option.bind (Sh.get q9 q11.1) fun c13=>
  Option.bind (rec_spec_bend s0_0 q11.2 c13) fun q14=>
  Option.bind (BQ p1.op p1.num (Sh.put q9 q11.1 q14.1)) fun q16=>
  some (q16,q14.2)
 else
  Option.bind (Aw s0_0 f5 5) fun q19=>
  if (decide (q19.1=0))=true then
   Option.bind (Aw s0_0 q19.2 15) fun q23=>
   Option.bind (BQ q23.1 p1.num p1.kids) fun q24=>
   some (q24,q23.2)
  else
  if (decide (q19.1=1))=true then
   Option.bind (BY s0_0 q19.2 [(1:Int),-1,1000,2]) fun q28=>
   Option.bind (BQ p1.op (Sh.w (p1.num+q28.1)) p1.kids) fun q29=>
   some (q29,q28.2)
  else
  if (decide (q19.1=2))=true then
   Option.bind (Iw N p1.kids) fun q33=>
   Option.bind (D2 1) fun q34=>
   Option.bind (Sh.app q33 [q34] 40) fun l35=>
   Option.bind (BQ p1.op p1.num l35) fun q36=>
   some (q36,q19.2)
  else
  if (decide (q19.1=3))=true then
   Option.bind (BY s0_0 q19.2 [(0:Int),1,2,5,100,-1]) fun q41=>
   Option.bind (Bt q41.1) fun q42=>
   some (q42,q41.2)
  else
   Option.bind (BY s0_0 q19.2 [(0:Int),1000,-1000,5]) fun q44=>
   Option.bind (D2 q44.1) fun q45=>
   some (q45,q44.2)
def HC (N:Nat):Nat→(List Int)→Int→AP→Option (AP×Int)
 | 0,_,_,_=>none
 | n+1,s0_0,s0_1,p1=>I9 N (HC N n) s0_0 s0_1 p1
def NF (N:Nat) (s0_0:(List Int)) (s0_1:Int) (p1:AP):Option (AP×Int):=HC N N s0_0 s0_1 p1
def G6 (s0_0:(List Int)) (s0_1:Int):Option ((List Ac)×Int):=
 Option.bind (FR s0_0 s0_1) fun q3=>
 Option.bind (Aw s0_0 q3.2 (Sh.len q3.1)) fun q5=>
 Option.bind (
  Option.bind (Aw s0_0 q5.2 14) fun q12=>
  if (decide (q12.1=0))=true then
   Option.bind (BY s0_0 q12.2 [(-1:Int),5,0,2]) fun q15=>
   Option.bind (BY s0_0 q15.2 [(0:Int),1,5]) fun q16=>
   Option.bind (Sh.get q3.1 q5.1) fun c17=>
   some (q16.2,Sh.put q3.1 q5.1 (Ac.mk q15.1 q16.1 []))
  else
  if (decide (q12.1=1))=true then
   Option.bind (BY s0_0 q12.2 [(-1:Int),0,4,5]) fun q20=>
   Option.bind (D0 [q20.1]) fun q21=>
   Option.bind (D0 [(0:Int),0,0,0]) fun q22=>
   Option.bind (D0 ([]:List Int)) fun q23=>
   Option.bind (Sh.get q3.1 q5.1) fun c24=>
   some (q20.2,Sh.put q3.1 q5.1 (Ac.mk 0 0 [q21,q22,q23]))
  else
  if (decide (q12.1=2))=true then
   Option.bind (D0 [Sh.w (q5.1+1)]) fun q27=>
   Option.bind (Sh.get q3.1 q5.1) fun c28=>
   some (q12.2,Sh.put q3.1 q5.1 (Ac.mk 0 0 [q27]))
  else
  if (decide (q12.1=3))=true then
   Option.bind (BY s0_0 q12.2 [(0:Int),2,1]) fun q31=>
   Option.bind (Sh.app q3.1 ([(Ac.mk 2 q31.1 [])]) 40) fun l32=>
   some (q31.2,l32)
  else
  if (decide (q12.1=4))=true then
   Option.bind (Aw s0_0 q12.2 2) fun q35=>
   Option.bind (D0 ([]:List Int)) fun q36=>
   Option.bind (D0 [(2:Int)]) fun q37=>
   Option.bind (D0 ([]:List Int)) fun q38=>
   Option.bind (D0 ([]:List Int)) fun q39=>
   Option.bind (Aw s0_0 q35.2 3) fun q40=>
   Option.bind (Sh.sl [q36,q37,q38,q39] q40.1 (Sh.len [q36,q37,q38,q39])) fun l41=>
   Option.bind (Sh.get q3.1 q5.1) fun c42=>
   some (q40.2,Sh.put q3.1 q5.1 (Ac.mk q35.1 0 l41))
  else
  if (decide (q12.1=5))=true then
   Option.bind (Sh.app q3.1 ([(Ac.mk 0 0 []),(Ac.mk 3 0 [])]) 40) fun l45=>
   some (q12.2,l45)
  else
   some (q12.2,q3.1)
 ) fun (f7,l8)=>
 some (l8,f7)
def FH (N:Nat) (s0_0:(List Int)) (s0_1:Int) (s1:(List Ar)) (p1_0:(List Ac)):Option (Af×Int):=
 Option.bind (Aw s0_0 s0_1 (Sh.len s1)) fun q3=>
 Option.bind (Sh.get s1 q3.1) fun c5=>
 Option.bind (
  Option.bind (Aw s0_0 q3.2 24) fun q13=>
  if (decide (q13.1=0))=true then
   Option.bind (NF N s0_0 q13.2 c5.body) fun q16=>
   some (q16.2,Sh.put s1 q3.1 (Ar.mk c5.params c5.result q16.1),p1_0)
  else
  if (decide (q13.1=1))=true then
   Option.bind (BY s0_0 q13.2 [(0:Int),1,9,-1]) fun q19=>
   Option.bind (DO c5.params [q19.1]) fun q20=>
   some (q19.2,Sh.put s1 q3.1 (Ar.mk q20 c5.result c5.body),p1_0)
  else
  if (decide (q13.1=2))=true then
   Option.bind (BY s0_0 q13.2 [(0:Int),1,3,5,-1]) fun q23=>
   some (q23.2,Sh.put s1 q3.1 (Ar.mk c5.params q23.1 c5.body),p1_0)
  else
  if (decide (q13.1=3))=true then
   Option.bind (G6 s0_0 q13.2) fun q26=>
   some (q26.2,s1,q26.1)
  else
  if (decide (q13.1=4))=true then
   Option.bind (Sh.app s1 [c5] 72) fun l29=>
   some (q13.2,l29,p1_0)
  else
   some (q13.2,s1,p1_0)
 ) fun (f7,l8,f9)=>
 some ((Af.mk f9 l8),f7)
def F3 (N:Nat) (s0_0:(List Int)) (s0_1:Int):Option (Af×Int):=
 Option.bind (Ff N s0_0 s0_1) fun q3=>
 Option.bind (FH N s0_0 q3.2 q3.1.funcs q3.1.decls) fun q4=>
 some (q4.1,q4.2)
def E3 (N:Nat) (p0:(List Int)):Option (Af×Int):=
 Option.bind (GC p0) fun q3=>
 Option.bind (F3 N q3.1 q3.2) fun q5=>
 Option.bind (
  Option.bind (BY q3.1 q5.2 [(1:Int),2,3,1,3,0,-1,4]) fun q9=>
  some q9.1
 ) fun t7=>
 some (q5.1,t7)
def En (p0:(List Int)) (p1:Int):Nat→Int→Option ((Bool) ⊕ (Unit))
 | 0,_=>none
 | n+1,i4=>
  if (decide (i4 < (Sh.len p0)))=true then
   Option.bind (Sh.get p0 i4) fun c12=>
   if (decide (c12=p1))=true then
    some (Sum.inl true)
   else
    En p0 p1 n (Sh.w (i4+1))
  else
   some (Sum.inr ())
def JI (N:Nat) (p0:(List Int)) (p1:Int):Option (Bool):=
 Sh.cont (En p0 p1 N 0) (id) fun ()=>
 some false
end RC


namespace RC
def CT (N:Nat) (q19:(List Int)) (q7:Af×Int):Nat→Bool→Int→Option (Bool)
 | 0,_,_=>none
 | n+1,again22,i23=>
  if (decide (i23 < (Sh.len q19)))=true then
   Option.bind (
    if again22=true then
     some true
    else
     Option.bind (Sh.get q19 i23) fun c37=>
     Option.bind (Ey N q7.1 c37) fun q38=>
     Option.bind (JI N q38 q7.2) fun q39=>
     some q39
   ) fun again34=>
   CT N q19 q7 n again34 (Sh.w (i23+1))
  else
   some again22
def Gh (N:Nat) (p0:(List Int)):Option (Bool):=
 if (decide (1048576 < (Sh.len p0)))=true then
  some true
 else
  Option.bind (E3 N p0) fun q7=>
  Option.bind (EC N q7.1 q7.2) fun q9=>
  Option.bind (
   Option.bind (Dg N q7.1 q7.2) fun q40=>
   if (q9 != q40)=true then
    some true
   else
    Option.bind (B7 N q7.1) fun q42=>
    if (!q42)=true then
     some true
    else
    if (decide (q7.2 < 0))=true then
     some true
    else
     some (decide ((Sh.len q7.1.funcs)≤q7.2))
  ) fun t12=>
  if t12=true then
   Option.bind (Dg N q7.1 q7.2) fun q16=>
   some (q9 == q16)
  else
   Option.bind (Dh N q7.1 q7.2) fun q19=>
   Option.bind (CT N q19 q7 N false 0) fun again24=>
   Option.bind (
    if (decide (0 < q7.2))=true then
     some (q9 == (!again24))
    else
     some (q9 == false)
   ) fun t27=>
   some t27
end RC

