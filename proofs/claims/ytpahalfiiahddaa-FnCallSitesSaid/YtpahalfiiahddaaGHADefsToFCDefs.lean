import Derived.Test.YtpahalfiiahddaaGEncToEncB
import Derived.Test.YtpahalfiiahddaaGEncCToSSDefs
import Derived.Test.YtpahalfiiahddaaSufC
import Derived.Test.YtpahalfiiahddaaSufD
namespace RC
def SB (p0:(List Int)) (p1:Int):Option (Int):=
 if (decide ((Sh.w (p1 - (Sh.len p0))) < 0))=true then
  some (-1)
 else
  some (Sh.w (p1 - (Sh.len p0)))
def CB (p0:Int) (p1:Int) (p2:Int):Option (Bool):=
 Option.bind (
  if (decide (p1≤p0))=true then
   some (decide (p0≤p2))
  else
   some false
 ) fun t3=>
 some t3
def ES (p0:(List Int)):Option ((List Int)):=
 Option.bind (Sh.app ([]:List Int) p0 8) fun l6=>
 some l6
end RC


namespace RC
def Ss (p0:GN) (p1:Int):Option (Int):=
 Option.bind (SB p0.fields p1) fun q3=>
 if (decide (q3 < 0))=true then
  some (-1)
 else
  some q3
def PA (p0:(List GN)):Nat→Int→Int→Option ((Int) ⊕ (Int))
 | 0,_,_=>none
 | n+1,left9,i10=>
  if (decide (i10 < (Sh.len p0)))=true then
   Option.bind (Sh.get p0 i10) fun c19=>
   Option.bind (Ss c19 left9) fun q20=>
   if (decide (q20 < 0))=true then
    some (Sum.inl (-1))
   else
    PA p0 n q20 (Sh.w (i10+1))
  else
   some (Sum.inr left9)
def Dg (p0:(List Ac)) (p1:(List Int)):Nat→Int→Option ((Bool) ⊕ (Unit))
 | 0,_=>none
 | n+1,i4=>
  if (decide (i4 < (Sh.len p1)))=true then
   Option.bind (Sh.get p1 i4) fun c12=>
   Option.bind (CB c12 0 (Sh.len p0)) fun q13=>
   if (!q13)=true then
    some (Sum.inl false)
   else
    Dg p0 p1 n (Sh.w (i4+1))
  else
   some (Sum.inr ())
def Fe (N:Nat) (p0:(List Ac)) (p1:(List Int)):Option (Bool):=
 Sh.cont (Dg p0 p1 N 0) (id) fun ()=>
 some true
def DT (N:Nat) (c3:Ac) (p0:(List Ac)):Nat→Int→Option ((Bool) ⊕ (Unit))
 | 0,_=>none
 | n+1,i15=>
  if (decide (i15 < (Sh.len c3.cons)))=true then
   Option.bind (
    Option.bind (Sh.get c3.cons i15) fun c27=>
    if (decide (3 < (Sh.len c27.fields)))=true then
     some true
    else
     Option.bind (Fe N p0 c27.fields) fun q29=>
     some (!q29)
   ) fun t23=>
   if t23=true then
    some (Sum.inl false)
   else
    DT N c3 p0 n (Sh.w (i15+1))
  else
   some (Sum.inr ())
def DV (c3:Ac) (p0:(List Ac)) (p1:Int):Nat→Int→Option ((Bool) ⊕ (Unit))
 | 0,_=>none
 | n+1,i34=>
  if (decide (i34 < p1))=true then
   Option.bind (
    Option.bind (Sh.get p0 i34) fun c51=>
    if (decide ((Sh.len c51.cons)=0))=true then
     if (decide (c51.from_=c3.from_))=true then
      some (decide (c51.to=c3.to))
     else
      some false
    else
     some false
   ) fun t47=>
   if t47=true then
    some (Sum.inl false)
   else
    DV c3 p0 p1 n (Sh.w (i34+1))
  else
   some (Sum.inr ())
def Fz (N:Nat) (p0:(List Ac)) (p1:Int):Option (Bool):=
 Option.bind (Sh.get p0 p1) fun c3=>
 if (decide (0 < (Sh.len c3.cons)))=true then
  Option.bind (
   if (decide (3 < (Sh.len c3.cons)))=true then
    some true
   else
   if (!decide (c3.from_=0))=true then
    some true
   else
    some (!decide (c3.to=0))
  ) fun t9=>
  if t9=true then
   some false
  else
   Sh.cont (DT N c3 p0 N 0) (id) fun ()=>
   some true
 else
  Sh.cont (DV c3 p0 p1 N 0) (id) fun ()=>
  Option.bind (
   Option.bind (CB c3.from_ 0 (Sh.len p0)) fun q39=>
   if q39=true then
    Option.bind (CB c3.to 0 (Sh.len p0)) fun q41=>
    some q41
   else
    some false
  ) fun t37=>
  some t37
def C7 (N:Nat) (p0:(List Ac)):Nat→Int→Option ((Bool) ⊕ (Unit))
 | 0,_=>none
 | n+1,i8=>
  if (decide (i8 < (Sh.len p0)))=true then
   Option.bind (Fz N p0 i8) fun q16=>
   if (!q16)=true then
    some (Sum.inl false)
   else
    C7 N p0 n (Sh.w (i8+1))
  else
   some (Sum.inr ())
def Fh (N:Nat) (p0:(List Ac)):Option (Bool):=
 if (decide (4 < (Sh.len p0)))=true then
  some false
 else
  Sh.cont (C7 N p0 N 0) (id) fun ()=>
  some true
def Cy (N:Nat) (p0:Ai):Nat→Int→Option ((Bool) ⊕ (Unit))
 | 0,_=>none
 | n+1,i10=>
  if (decide (i10 < (Sh.len p0.funcs)))=true then
   Option.bind (Sh.get p0.funcs i10) fun c22=>
   Option.bind (
    if (decide (3 < (Sh.len c22.params)))=true then
     some true
    else
     Option.bind (Fe N p0.decls c22.params) fun q29=>
     if (!q29)=true then
      some true
     else
      Option.bind (CB c22.result 0 (Sh.len p0.decls)) fun q31=>
      some (!q31)
   ) fun t24=>
   if t24=true then
    some (Sum.inl false)
   else
    Cy N p0 n (Sh.w (i10+1))
  else
   some (Sum.inr ())
def E6 (N:Nat) (p0:Ai):Option (Bool):=
 Option.bind (
  Option.bind (Fh N p0.decls) fun q32=>
  if (!q32)=true then
   some true
  else
   Option.bind (CB (Sh.len p0.funcs) 1 4) fun q34=>
   some (!q34)
 ) fun t4=>
 if t4=true then
  some false
 else
  Sh.cont (Cy N p0 N 0) (id) fun ()=>
  Option.bind (
   Option.bind (Sh.get p0.funcs 0) fun c15=>
   if (decide ((Sh.len c15.params)=0))=true then
    some (decide (c15.result=0))
   else
    some false
  ) fun t13=>
  some t13
def DB (p0:(List Ac)) (p1:Int):Nat→Int→Int→Option (Int)
 | 0,_,_=>none
 | n+1,n5,i6=>
  if (decide (i6 < p1))=true then
   Option.bind (Sh.get p0 i6) fun c14=>
   DB p0 p1 n (Sh.w (n5+(Sh.len c14.cons))) (Sh.w (i6+1))
  else
   some n5
def E0 (N:Nat) (p0:(List Ac)) (p1:Int):Option (Int):=
 Option.bind (DB p0 p1 N 0 0) fun n7=>
 some n7
def Ci (N:Nat) (p0:(List Ac)) (p1:Int):Nat→Int→Option ((Int) ⊕ (Unit))
 | 0,_=>none
 | n+1,i4=>
  if (decide (i4 < (Sh.len p0)))=true then
   Option.bind (E0 N p0 i4) fun q12=>
   Option.bind (Sh.get p0 i4) fun c14=>
   Option.bind (CB p1 q12 (Sh.w ((Sh.w (q12+(Sh.len c14.cons))) - 1))) fun q15=>
   if q15=true then
    some (Sum.inl (Sh.w (i4+1)))
   else
    Ci N p0 p1 n (Sh.w (i4+1))
  else
   some (Sum.inr ())
def EY (N:Nat) (p0:(List Ac)) (p1:Int):Option (Int):=
 Sh.cont (Ci N p0 p1 N 0) (id) fun ()=>
 some (-1)
def Be (N:Nat) (p0:(List Ac)) (p1:Int):Option ((List Int)):=
 Option.bind (EY N p0 p1) fun q3=>
 if (decide (q3 < 1))=true then
  some []
 else
  Option.bind (Sh.get p0 (Sh.w (q3 - 1))) fun c9=>
  Option.bind (E0 N p0 (Sh.w (q3 - 1))) fun q10=>
  Option.bind (Sh.get c9.cons (Sh.w (p1 - q10))) fun c11=>
  some c11.fields
def Dv (N:Nat) (p0:(List Ac)) (p1:Int):Nat→Int→(List Int)→Option ((List Int))
 | 0,_,_=>none
 | n+1,i12,l13=>
  Option.bind (Sh.get p0 (Sh.w (p1 - 1))) fun c19=>
  if (decide (i12 < (Sh.len c19.cons)))=true then
   Option.bind (E0 N p0 (Sh.w (p1 - 1))) fun q22=>
   Option.bind (Sh.app l13 [Sh.w (q22+i12)] 8) fun l23=>
   Dv N p0 p1 n (Sh.w (i12+1)) l23
  else
   some l13
def Eo (N:Nat) (p0:(List Ac)) (p1:Int):Option ((List Int)):=
 Option.bind (CB p1 1 (Sh.len p0)) fun q5=>
 if (!q5)=true then
  some []
 else
  Option.bind (Dv N p0 p1 N 0 []) fun l14=>
  some l14
def FI (p0:(List Ac)) (p1:Int):Option (Bool):=
 Option.bind (
  if (decide (0≤p1))=true then
   some (decide (p1≤(Sh.len p0)))
  else
   some false
 ) fun t3=>
 some t3
def Df (p0:(List Ac)) (p1:(List Int)):Nat→Int→Option ((Bool) ⊕ (Unit))
 | 0,_=>none
 | n+1,t4=>
  if (decide (t4 < (Sh.len p1)))=true then
   Option.bind (Sh.get p1 t4) fun c12=>
   Option.bind (FI p0 c12) fun q14=>
   if (!q14)=true then
    some (Sum.inl false)
   else
    Df p0 p1 n (Sh.w (t4+1))
  else
   some (Sum.inr ())
def Ex (N:Nat) (p0:(List Ac)) (p1:(List Int)):Option (Bool):=
 Sh.cont (Df p0 p1 N 0) (id) fun ()=>
 some true
def Cd (c16:Ac) (l28:(List Ac)):Nat→Int→Option ((Bool) ⊕ (Unit))
 | 0,_=>none
 | n+1,t29=>
  if (decide (t29 < (Sh.len l28)))=true then
   Option.bind (Sh.get l28 t29) fun c36=>
   Option.bind (
    if (decide ((Sh.len c16.cons)=0))=true then
     if (decide ((Sh.len c36.cons)=0))=true then
      if (decide (c36.from_=c16.from_))=true then
       some (decide (c36.to=c16.to))
      else
       some false
     else
      some false
    else
     some false
   ) fun t38=>
   if t38=true then
    some (Sum.inl false)
   else
    Cd c16 l28 n (Sh.w (t29+1))
  else
   some (Sum.inr ())
def Cc (N:Nat) (c16:Ac) (p0:(List Ac)):Nat→Int→Option ((Bool) ⊕ (Unit))
 | 0,_=>none
 | n+1,t25=>
  if (decide (t25 < (Sh.len c16.cons)))=true then
   Option.bind (Sh.get c16.cons t25) fun c50=>
   Option.bind (
    if (decide (3 < (Sh.len c50.fields)))=true then
     some true
    else
     Option.bind (Ex N p0 c50.fields) fun q57=>
     some (!q57)
   ) fun t52=>
   if t52=true then
    some (Sum.inl false)
   else
    Cc N c16 p0 n (Sh.w (t25+1))
  else
   some (Sum.inr ())
def C8 (N:Nat) (p0:(List Ac)):Nat→Int→Option ((Bool) ⊕ (Unit))
 | 0,_=>none
 | n+1,t8=>
  if (decide (t8 < (Sh.len p0)))=true then
   Option.bind (Sh.get p0 t8) fun c16=>
   Option.bind (
    Option.bind (FI p0 c16.from_) fun q58=>
    if (!q58)=true then
     some true
    else
     Option.bind (FI p0 c16.to) fun q60=>
     if (!q60)=true then
      some true
     else
     if (decide (3 < (Sh.len c16.cons)))=true then
      some true
     else
     if (decide (0 < (Sh.len c16.cons)))=true then
      if (!decide (c16.from_=0))=true then
       some true
      else
       some (!decide (c16.to=0))
     else
      some false
   ) fun t19=>
   if t19=true then
    some (Sum.inl false)
   else
    Sh.cont (Cc N c16 p0 N 0) (fun x=>Sum.inl x) fun ()=>
    Option.bind (Sh.sl p0 0 t8) fun l28=>
    Sh.cont (Cd c16 l28 N 0) (fun x=>Sum.inl x) fun ()=>
    C8 N p0 n (Sh.w (t8+1))
  else
   some (Sum.inr ())
def FY (N:Nat) (p0:(List Ac)):Option (Bool):=
 if (decide (4 < (Sh.len p0)))=true then
  some false
 else
  Sh.cont (C8 N p0 N 0) (id) fun ()=>
  some true
def Cq (c18:BY):Nat→Int→Option ((Bool) ⊕ (Unit))
 | 0,_=>none
 | n+1,t26=>
  if (decide (t26 < (Sh.len c18.EN)))=true then
   Option.bind (Sh.get c18.EN t26) fun c33=>
   Option.bind (
    if (decide (c33 < 0))=true then
     some true
    else
    if (decide ((Sh.len c18.params)≤c33))=true then
     some true
    else
     Option.bind (Sh.get c18.params c33) fun c41=>
     if (decide (c41=0))=true then
      some true
     else
     if (decide (0 < t26))=true then
      Option.bind (Sh.get c18.EN (Sh.w (t26 - 1))) fun c44=>
      some (decide (c33≤c44))
     else
      some false
   ) fun t35=>
   if t35=true then
    some (Sum.inl false)
   else
    Cq c18 n (Sh.w (t26+1))
  else
   some (Sum.inr ())
def Cx (N:Nat) (p0:(List Ac)) (p1:(List BY)):Nat→Int→Option ((Bool) ⊕ (Unit))
 | 0,_=>none
 | n+1,t10=>
  if (decide (t10 < (Sh.len p1)))=true then
   Option.bind (Sh.get p1 t10) fun c18=>
   Option.bind (
    if (decide (3 < (Sh.len c18.params)))=true then
     some true
    else
     Option.bind (Ex N p0 c18.params) fun q46=>
     if (!q46)=true then
      some true
     else
      Option.bind (FI p0 c18.result) fun q48=>
      some (!q48)
   ) fun t21=>
   if t21=true then
    some (Sum.inl false)
   else
    Sh.cont (Cq c18 N 0) (fun x=>Sum.inl x) fun ()=>
    Cx N p0 p1 n (Sh.w (t10+1))
  else
   some (Sum.inr ())
def Fu (N:Nat) (p0:(List Ac)) (p1:(List BY)):Option (Bool):=
 Option.bind (
  Option.bind (FY N p0) fun q49=>
  if (!q49)=true then
   some true
  else
  if (decide ((Sh.len p1) < 1))=true then
   some true
  else
  if (decide (4 < (Sh.len p1)))=true then
   some true
  else
   Option.bind (Sh.get p1 0) fun c53=>
   if (decide (0 < (Sh.len c53.params)))=true then
    some true
   else
    some (!decide (c53.result=0))
 ) fun t4=>
 if t4=true then
  some false
 else
  Sh.cont (Cx N p0 p1 N 0) (id) fun ()=>
  some true
def DC (p0:(List Ac)):Nat→Int→Int→Option (Int)
 | 0,_,_=>none
 | n+1,n5,t6=>
  if (decide (t6 < (Sh.len p0)))=true then
   Option.bind (Sh.get p0 t6) fun c15=>
   DC p0 n (Sh.w (n5+(Sh.len c15.cons))) (Sh.w (t6+1))
  else
   some n5
def Gp (N:Nat) (p0:(List Ac)):Option (Int):=
 Option.bind (DC p0 N 0 0) fun n7=>
 some n7
def Dt (c14:Ac) (q10:Int):Nat→Int→(List Int)→Option ((List Int))
 | 0,_,_=>none
 | n+1,t15,l16=>
  if (decide (t15 < (Sh.len c14.cons)))=true then
   Option.bind (Sh.app l16 [Sh.w (q10+t15)] 8) fun l25=>
   Dt c14 q10 n (Sh.w (t15+1)) l25
  else
   some l16
def Hj (N:Nat) (p0:(List Ac)) (p1:Int):Option ((List Int)):=
 Option.bind (
  if (decide (p1 < 1))=true then
   some true
  else
   some (decide ((Sh.len p0) < p1))
 ) fun t4=>
 if t4=true then
  some []
 else
  Option.bind (Sh.sl p0 0 (Sh.w (p1 - 1))) fun l9=>
  Option.bind (Gp N l9) fun q10=>
  Option.bind (Sh.get p0 (Sh.w (p1 - 1))) fun c14=>
  Option.bind (Dt c14 q10 N 0 []) fun l17=>
  some l17
def Dn (p0:(List Ac)):Nat→Int→Int→Option ((Int×GN) ⊕ (Unit))
 | 0,_,_=>none
 | n+1,c4,t5=>
  if (decide (t5 < (Sh.len p0)))=true then
   Option.bind (Sh.get p0 t5) fun c13=>
   Option.bind (
    if (decide (0≤c4))=true then
     some (decide (c4 < (Sh.len c13.cons)))
    else
     some false
   ) fun t16=>
   if t16=true then
    Option.bind (Sh.get c13.cons c4) fun c20=>
    some (Sum.inl (Sh.w (t5+1),c20))
   else
    Dn p0 n (Sh.w (c4 - (Sh.len c13.cons))) (Sh.w (t5+1))
  else
   some (Sum.inr ())
def Fi (N:Nat) (p0:(List Ac)) (p1:Int):Option (Int×GN):=
 Sh.cont (Dn p0 N p1 0) (id) fun ()=>
 some (-1,(GN.mk []))
def EF (N:Nat) (p0:(List Ac)) (p1:Int):Option ((List Int)):=
 Option.bind (Fi N p0 p1) fun q3=>
 some q3.2.fields
end RC


namespace RC
end RC


namespace RC
def Jw (p0:(List AP)) (rec_laws_szExpr:AP→Int→Option (Int)):Nat→Int→Int→Option ((Int) ⊕ (Int))
 | 0,_,_=>none
 | n+1,left9,i10=>
  if (decide (i10 < (Sh.len p0)))=true then
   Option.bind (Sh.get p0 i10) fun c19=>
   Option.bind (rec_laws_szExpr c19 left9) fun q20=>
   if (decide (q20 < 0))=true then
    some (Sum.inl (-1))
   else
    Jw p0 rec_laws_szExpr n q20 (Sh.w (i10+1))
  else
   some (Sum.inr left9)
def Qk (N:Nat) (rec_laws_szExpr:AP→Int→Option (Int)) (p0:(List AP)) (p1:Int):Option (Int):=
 if (decide ((Sh.w (p1 - (Sh.len p0))) < 0))=true then
  some (-1)
 else
  Sh.cont (Jw p0 rec_laws_szExpr N (Sh.w (p1 - (Sh.len p0))) 0) (id) fun left11=>
  some left11
def Pm (N:Nat) (rec_laws_szExpr:AP→Int→Option (Int)) (p0:AP) (p1:Int):Option (Int):=
 Option.bind (Qk N rec_laws_szExpr p0.kids p1) fun q3=>
 if (decide (q3 < 0))=true then
  some (-1)
 else
  some q3
def PX (N:Nat):Nat→AP→Int→Option (Int)
 | 0,_,_=>none
 | n+1,p0,p1=>Pm N (PX N n) p0 p1
def CO (p0:AP) (rec_spec_nodesLeft:AP→Int→Option (Int)):Nat→Int→Int→Option ((Int) ⊕ (Int))
 | 0,_,_=>none
 | n+1,left9,i10=>
  if (decide (i10 < (Sh.len p0.kids)))=true then
   Option.bind (Sh.get p0.kids i10) fun c19=>
   Option.bind (rec_spec_nodesLeft c19 left9) fun q20=>
   if (decide (q20 < 0))=true then
    some (Sum.inl (-1))
   else
    CO p0 rec_spec_nodesLeft n q20 (Sh.w (i10+1))
  else
   some (Sum.inr left9)
def GU (N:Nat) (rec_spec_nodesLeft:AP→Int→Option (Int)) (p0:AP) (p1:Int):Option (Int):=
 if (decide (p1 < 1))=true then
  some (-1)
 else
  Sh.cont (CO p0 rec_spec_nodesLeft N (Sh.w (p1 - 1)) 0) (id) fun left11=>
  some left11
def Dh (N:Nat):Nat→AP→Int→Option (Int)
 | 0,_,_=>none
 | n+1,p0,p1=>GU N (Dh N n) p0 p1
def IX (N:Nat) (p0:AP) (p1:Int):Option (Int):=Dh N N p0 p1
def FJ (N:Nat) (p0:AP):Option (Int):=
 Option.bind (IX N p0 30) fun q3=>
 if (decide (q3 < 0))=true then
  some (-1)
 else
  some (Sh.w (30 - q3))
def D5 (p0:Ai) (p1:(List Int)) (p2:(List AP)) (p3:Int) (rec_spec_typeOf:Ai→(List Int)→AP→Option (Int)):Nat→Int→Option ((Bool) ⊕ (Unit))
 | 0,_=>none
 | n+1,i10=>
  if (decide (i10 < p3))=true then
   Option.bind (Sh.get p2 i10) fun c18=>
   Option.bind (rec_spec_typeOf p0 p1 c18) fun q19=>
   if (!decide (q19=0))=true then
    some (Sum.inl false)
   else
    D5 p0 p1 p2 p3 rec_spec_typeOf n (Sh.w (i10+1))
  else
   some (Sum.inr ())
def GB (N:Nat) (rec_spec_typeOf:Ai→(List Int)→AP→Option (Int)) (p0:Ai) (p1:(List Int)) (p2:(List AP)) (p3:Int):Option (Bool):=
 if (!decide ((Sh.len p2)=p3))=true then
  some false
 else
  Sh.cont (D5 p0 p1 p2 p3 rec_spec_typeOf N 0) (id) fun ()=>
  some true
def Eb (p0:Ai) (p1:(List Int)) (p2:(List AP)) (p3:(List Int)) (rec_spec_typeOf:Ai→(List Int)→AP→Option (Int)):Nat→Int→Option ((Bool) ⊕ (Unit))
 | 0,_=>none
 | n+1,i10=>
  if (decide (i10 < (Sh.len p3)))=true then
   Option.bind (Sh.get p2 i10) fun c18=>
   Option.bind (rec_spec_typeOf p0 p1 c18) fun q19=>
   Option.bind (Sh.get p3 i10) fun c20=>
   if (!decide (q19=c20))=true then
    some (Sum.inl false)
   else
    Eb p0 p1 p2 p3 rec_spec_typeOf n (Sh.w (i10+1))
  else
   some (Sum.inr ())
def Gf (N:Nat) (rec_spec_typeOf:Ai→(List Int)→AP→Option (Int)) (p0:Ai) (p1:(List Int)) (p2:(List AP)) (p3:(List Int)):Option (Bool):=
 if (!decide ((Sh.len p2)=(Sh.len p3)))=true then
  some false
 else
  Sh.cont (Eb p0 p1 p2 p3 rec_spec_typeOf N 0) (id) fun ()=>
  some true
def Hq (p0:(List Int)):Option ((List Int)):=
 Option.bind (Sh.app ([]:List Int) p0 8) fun l3=>
 some l3
def DK (p0:(List Int)) (p1:(List Int)):Option ((List Int)):=
 Option.bind (Hq p0) fun q3=>
 Option.bind (Sh.app q3 p1 8) fun l4=>
 some l4
def Cw (N:Nat) (p0:Ai) (p1:(List Int)) (p2:AP) (q15:Int) (q3:(List Int)) (rec_spec_typeOf:Ai→(List Int)→AP→Option (Int)):Nat→Int→Option ((Int) ⊕ (Unit))
 | 0,_=>none
 | n+1,i18=>
  if (decide (i18 < (Sh.len q3)))=true then
   Option.bind (Sh.get q3 i18) fun c26=>
   Option.bind (Be N p0.decls c26) fun q27=>
   Option.bind (DK p1 q27) fun q28=>
   Option.bind (Sh.get p2.kids (Sh.w (1+i18))) fun c29=>
   Option.bind (rec_spec_typeOf p0 q28 c29) fun q30=>
   if (!decide (q30=q15))=true then
    some (Sum.inl (-1))
   else
    Cw N p0 p1 p2 q15 q3 rec_spec_typeOf n (Sh.w (i18+1))
  else
   some (Sum.inr ())
def HH (N:Nat) (rec_spec_typeOf:Ai→(List Int)→AP→Option (Int)) (p0:Ai) (p1:(List Int)) (p2:AP):Option (Int):=
 Option.bind (Eo N p0.decls p2.num) fun q3=>
 Option.bind (
  if (decide ((Sh.len q3)=0))=true then
   some true
  else
  if (!decide ((Sh.len p2.kids)=(Sh.w (1+(Sh.len q3)))))=true then
   some true
  else
   Option.bind (Sh.get p2.kids 0) fun c37=>
   Option.bind (rec_spec_typeOf p0 p1 c37) fun q38=>
   some (!decide (q38=p2.num))
 ) fun t6=>
 if t6=true then
  some (-1)
 else
  Option.bind (Sh.get q3 0) fun c11=>
  Option.bind (Be N p0.decls c11) fun q12=>
  Option.bind (DK p1 q12) fun q13=>
  Option.bind (Sh.get p2.kids 1) fun c14=>
  Option.bind (rec_spec_typeOf p0 q13 c14) fun q15=>
  Sh.cont (Cw N p0 p1 p2 q15 q3 rec_spec_typeOf N 1) (id) fun ()=>
  some q15
def DY (p0:(List Ac)) (p1:Int) (p2:Int):Nat→Int→Option ((Int) ⊕ (Unit))
 | 0,_=>none
 | n+1,i4=>
  if (decide (i4 < (Sh.len p0)))=true then
   Option.bind (
    Option.bind (Sh.get p0 i4) fun c16=>
    if (decide ((Sh.len c16.cons)=0))=true then
     if (decide (c16.from_=p1))=true then
      some (decide (c16.to=p2))
     else
      some false
    else
     some false
   ) fun t12=>
   if t12=true then
    some (Sum.inl (Sh.w (i4+1)))
   else
    DY p0 p1 p2 n (Sh.w (i4+1))
  else
   some (Sum.inr ())
def F6 (N:Nat) (p0:(List Ac)) (p1:Int) (p2:Int):Option (Int):=
 Sh.cont (DY p0 p1 p2 N 0) (id) fun ()=>
 some (-1)
def EJ (N:Nat) (rec_spec_typeOf:Ai→(List Int)→AP→Option (Int)) (p0:Ai) (p1:(List Int)) (p2:AP):Option (Int):=
 Option.bind (CB p2.num 0 (Sh.w ((Sh.len p0.funcs) - 1))) fun q4=>
 if (!q4)=true then
  some (-1)
 else
  Option.bind (Sh.get p0.funcs p2.num) fun c10=>
  if (decide (p2.op=9))=true then
   Option.bind (Gf N rec_spec_typeOf p0 p1 p2.kids c10.params) fun q17=>
   if (!q17)=true then
    some (-1)
   else
    some c10.result
  else
   Option.bind (
    if (decide ((Sh.len c10.params)=0))=true then
     some true
    else
     Option.bind (Sh.sl c10.params 0 (Sh.w ((Sh.len c10.params) - 1))) fun l33=>
     Option.bind (Gf N rec_spec_typeOf p0 p1 p2.kids l33) fun q34=>
     some (!q34)
   ) fun t25=>
   if t25=true then
    some (-1)
   else
    Option.bind (Sh.get c10.params (Sh.w ((Sh.len c10.params) - 1))) fun c30=>
    Option.bind (F6 N p0.decls c30 c10.result) fun q31=>
    some q31
def Er (p0:(List Ac)) (p1:Int):Option (Bool):=
 Option.bind (
  Option.bind (CB p1 1 (Sh.len p0)) fun q5=>
  if q5=true then
   Option.bind (Sh.get p0 (Sh.w (p1 - 1))) fun c7=>
   some (decide ((Sh.len c7.cons)=0))
  else
   some false
 ) fun t3=>
 some t3
def Bd (N:Nat) (rec_spec_typeOf:Ai→(List Int)→AP→Option (Int)) (p0:Ai) (p1:(List Int)) (p2:AP):Option (Int):=
 Sh.cont (
  if (decide (p2.op=0))=true then
   Option.bind (
    if (decide ((Sh.len p2.kids)=0))=true then
     Option.bind (CB p2.num (-999) 999) fun q15=>
     some q15
    else
     some false
   ) fun t10=>
   if t10=true then
    some (Sum.inl 0)
   else
    some (Sum.inr ())
  else
  if (decide (p2.op=12))=true then
   Option.bind (
    if (decide ((Sh.len p2.kids)=0))=true then
     Option.bind (CB p2.num 0 (Sh.w ((Sh.len p1) - 1))) fun q25=>
     some q25
    else
     some false
   ) fun t19=>
   if t19=true then
    Option.bind (Sh.get p1 p2.num) fun c23=>
    some (Sum.inl c23)
   else
    some (Sum.inr ())
  else
   Option.bind (
    if (decide (p2.op=1))=true then
     some true
    else
    if (decide (p2.op=2))=true then
     some true
    else
    if (decide (p2.op=3))=true then
     some true
    else
     some (decide (p2.op=4))
   ) fun t27=>
   if t27=true then
    Option.bind (
     if (decide (p2.num=0))=true then
      Option.bind (GB N rec_spec_typeOf p0 p1 p2.kids 2) fun q36=>
      some q36
     else
      some false
    ) fun t31=>
    if t31=true then
     some (Sum.inl 0)
    else
     some (Sum.inr ())
   else
   if (decide (p2.op=5))=true then
    Option.bind (
     if (decide (p2.num=0))=true then
      Option.bind (GB N rec_spec_typeOf p0 p1 p2.kids 1) fun q45=>
      some q45
     else
      some false
    ) fun t40=>
    if t40=true then
     some (Sum.inl 0)
    else
     some (Sum.inr ())
   else
   if (decide (p2.op=6))=true then
    Option.bind (
     Option.bind (EY N p0.decls p2.num) fun q54=>
     if (decide (0 < q54))=true then
      Option.bind (Be N p0.decls p2.num) fun q56=>
      Option.bind (Gf N rec_spec_typeOf p0 p1 p2.kids q56) fun q57=>
      some q57
     else
      some false
    ) fun t49=>
    if t49=true then
     Option.bind (EY N p0.decls p2.num) fun q53=>
     some (Sum.inl q53)
    else
     some (Sum.inr ())
   else
   if (decide (p2.op=13))=true then
    Option.bind (
     if (decide (p2.num=0))=true then
      some (decide ((Sh.len p2.kids)=2))
     else
      some false
    ) fun t61=>
    if t61=true then
     Option.bind (Sh.get p2.kids 0) fun c65=>
     Option.bind (rec_spec_typeOf p0 p1 c65) fun q66=>
     if (decide (0≤q66))=true then
      Option.bind (DK p1 [q66]) fun q70=>
      Option.bind (Sh.get p2.kids 1) fun c71=>
      Option.bind (rec_spec_typeOf p0 q70 c71) fun q72=>
      some (Sum.inl q72)
     else
      some (Sum.inr ())
    else
     some (Sum.inr ())
   else
   if (decide (p2.op=7))=true then
    Option.bind (
     if (decide (p2.num=0))=true then
      if (decide ((Sh.len p2.kids)=3))=true then
       Option.bind (Sh.get p2.kids 0) fun c90=>
       Option.bind (rec_spec_typeOf p0 p1 c90) fun q91=>
       some (decide (q91=0))
      else
       some false
     else
      some false
    ) fun t77=>
    if t77=true then
     Option.bind (Sh.get p2.kids 1) fun c81=>
     Option.bind (rec_spec_typeOf p0 p1 c81) fun q82=>
     Option.bind (Sh.get p2.kids 2) fun c84=>
     Option.bind (rec_spec_typeOf p0 p1 c84) fun q85=>
     if (decide (q85=q82))=true then
      some (Sum.inl q82)
     else
      some (Sum.inr ())
    else
     some (Sum.inr ())
   else
   if (decide (p2.op=8))=true then
    Option.bind (HH N rec_spec_typeOf p0 p1 p2) fun q95=>
    some (Sum.inl q95)
   else
    Option.bind (
     if (decide (p2.op=9))=true then
      some true
     else
      some (decide (p2.op=10))
    ) fun t97=>
    if t97=true then
     Option.bind (EJ N rec_spec_typeOf p0 p1 p2) fun q101=>
     some (Sum.inl q101)
    else
    if (decide (p2.op=11))=true then
     Option.bind (
      if (decide (p2.num=0))=true then
       some (decide ((Sh.len p2.kids)=2))
      else
       some false
     ) fun t105=>
     if t105=true then
      Option.bind (Sh.get p2.kids 0) fun c109=>
      Option.bind (rec_spec_typeOf p0 p1 c109) fun q110=>
      Option.bind (
       Option.bind (Er p0.decls q110) fun q117=>
       if q117=true then
        Option.bind (Sh.get p2.kids 1) fun c119=>
        Option.bind (rec_spec_typeOf p0 p1 c119) fun q120=>
        Option.bind (Sh.get p0.decls (Sh.w (q110 - 1))) fun c121=>
        some (decide (q120=c121.from_))
       else
        some false
      ) fun t112=>
      if t112=true then
       Option.bind (Sh.get p0.decls (Sh.w (q110 - 1))) fun c116=>
       some (Sum.inl c116.to)
      else
       some (Sum.inr ())
     else
      some (Sum.inr ())
    else
     some (Sum.inr ())
 ) (id) fun ()=>
 some (-1)
def Cg (N:Nat):Nat→Ai→(List Int)→AP→Option (Int)
 | 0,_,_,_=>none
 | n+1,p0,p1,p2=>Bd N (Cg N n) p0 p1 p2
def Ic (N:Nat) (p0:Ai) (p1:(List Int)) (p2:AP):Option (Int):=Cg N N p0 p1 p2
def Bx (N:Nat) (p0:Ai):Nat→Int→Option ((Bool) ⊕ (Unit))
 | 0,_=>none
 | n+1,i11=>
  if (decide (i11 < (Sh.len p0.funcs)))=true then
   Option.bind (
    Option.bind (Sh.get p0.funcs i11) fun c23=>
    Option.bind (FJ N c23.body) fun q24=>
    if (decide (q24 < 0))=true then
     some true
    else
     Option.bind (Ic N p0 c23.params c23.body) fun q26=>
     some (!decide (q26=c23.result))
   ) fun t19=>
   if t19=true then
    some (Sum.inl false)
   else
    Bx N p0 n (Sh.w (i11+1))
  else
   some (Sum.inr ())
def DP (N:Nat) (p0:Ai):Option (Bool):=
 Option.bind (E6 N p0) fun q4=>
 if (!q4)=true then
  some false
 else
  Sh.cont (Bx N p0 N 0) (id) fun ()=>
  some true
def C0 (p0:AP) (p1:Int) (rec_spec_callsIn:AP→Int→Option (Int)):Nat→Int→Int→Option (Int)
 | 0,_,_=>none
 | n+1,n8,k9=>
  if (decide (k9 < (Sh.len p0.kids)))=true then
   Option.bind (Sh.get p0.kids k9) fun c17=>
   Option.bind (rec_spec_callsIn c17 p1) fun q18=>
   C0 p0 p1 rec_spec_callsIn n (Sh.w (n8+q18)) (Sh.w (k9+1))
  else
   some n8
def HI (N:Nat) (rec_spec_callsIn:AP→Int→Option (Int)) (p0:AP) (p1:Int):Option (Int):=
 Option.bind (
  Option.bind (
   if (decide (p0.op=9))=true then
    some (decide (p0.num=p1))
   else
    some false
  ) fun t20=>
  if t20=true then
   some 1
  else
   some 0
 ) fun n4=>
 Option.bind (C0 p0 p1 rec_spec_callsIn N n4 0) fun n10=>
 some n10
def EM (N:Nat):Nat→AP→Int→Option (Int)
 | 0,_,_=>none
 | n+1,p0,p1=>HI N (EM N n) p0 p1
def Jd (N:Nat) (p0:AP) (p1:Int):Option (Int):=EM N N p0 p1
def Cv (N:Nat) (p0:Ai) (p1:Int):Nat→Int→Int→Option (Int)
 | 0,_,_=>none
 | n+1,n11,i12=>
  if (decide (i12 < (Sh.len p0.funcs)))=true then
   Option.bind (Sh.get p0.funcs i12) fun c20=>
   Option.bind (Jd N c20.body p1) fun q21=>
   Cv N p0 p1 n (Sh.w (n11+q21)) (Sh.w (i12+1))
  else
   some n11
def E8 (N:Nat) (p0:Ai) (p1:Int):Option (Int):=
 Option.bind (
  Option.bind (DP N p0) fun q22=>
  if (!q22)=true then
   some true
  else
   Option.bind (CB p1 0 (Sh.w ((Sh.len p0.funcs) - 1))) fun q24=>
   some (!q24)
 ) fun t4=>
 if t4=true then
  some (-1)
 else
  Option.bind (Cv N p0 p1 N 0 0) fun n13=>
  some n13
def CT (p0:Ai):Nat→Int→(List BY)→Option ((List BY))
 | 0,_,_=>none
 | n+1,t9,l10=>
  if (decide (t9 < (Sh.len p0.funcs)))=true then
   Option.bind (Sh.get p0.funcs t9) fun c20=>
   Option.bind (Sh.app l10 ([(BY.mk c20.params [] c20.result)]) 56) fun l21=>
   CT p0 n (Sh.w (t9+1)) l21
  else
   some l10
def E4 (N:Nat) (p0:Ai):Option (Bool):=
 if (decide (4 < (Sh.len p0.funcs)))=true then
  some false
 else
  Option.bind (CT p0 N 0 []) fun l11=>
  Option.bind (Fu N p0.decls l11) fun q14=>
  some q14
def CK (p0:AP) (rec_impl_countNodes:Int→AP→Option (Bool×Int)):Nat→Int→Int→Option ((Bool×Int) ⊕ (Int))
 | 0,_,_=>none
 | n+1,t9,f10=>
  if (decide (t9 < (Sh.len p0.kids)))=true then
   Option.bind (Sh.get p0.kids t9) fun c19=>
   Option.bind (rec_impl_countNodes f10 c19) fun q21=>
   if (!q21.1)=true then
    some (Sum.inl (false,q21.2))
   else
    CK p0 rec_impl_countNodes n (Sh.w (t9+1)) q21.2
  else
   some (Sum.inr f10)
def Fp (N:Nat) (rec_impl_countNodes:Int→AP→Option (Bool×Int)) (s0_0:Int) (p0:AP):Option (Bool×Int):=
 if (decide (30 < (Sh.w (s0_0+1))))=true then
  some (false,Sh.w (s0_0+1))
 else
  Sh.cont (CK p0 rec_impl_countNodes N 0 (Sh.w (s0_0+1))) (id) fun f11=>
  some (true,f11)
def DQ (N:Nat):Nat→Int→AP→Option (Bool×Int)
 | 0,_,_=>none
 | n+1,s0_0,p0=>Fp N (DQ N n) s0_0 p0
def H4 (N:Nat) (s0_0:Int) (p0:AP):Option (Bool×Int):=DQ N N s0_0 p0
def HD (N:Nat) (p0:AP):Option (Int):=
 Option.bind (H4 N 0 p0) fun q5=>
 if (!q5.1)=true then
  some (-1)
 else
  some q5.2
def Dp (p0:Ai):Nat→Int→(List BY)→Option ((List BY))
 | 0,_,_=>none
 | n+1,t5,l6=>
  if (decide (t5 < (Sh.len p0.funcs)))=true then
   Option.bind (Sh.get p0.funcs t5) fun c15=>
   Option.bind (Sh.app l6 ([(BY.mk c15.params [] c15.result)]) 56) fun l16=>
   Dp p0 n (Sh.w (t5+1)) l16
  else
   some l6
def Hl (N:Nat) (p0:Ai):Option (BI):=
 Option.bind (Dp p0 N 0 []) fun l7=>
 some (BI.mk p0.decls l7)
def Ea (p1:Int):Option ((List Int)):=
 if (decide (p1 < 0))=true then
  none
 else
  Option.bind (
   if (decide (0 < (Sh.w (p1 - (Sh.w (0 - 0))))))=true then
    Option.bind (Sh.mk 0 (Sh.w (p1 - (Sh.w (0 - 0)))) 8) fun l12=>
    Option.bind (Sh.hi l12 0) fun l13=>
    some l13
   else
    some []
  ) fun l6=>
  some l6
def Bw (p0:(List (List Int))):Nat→Int→(List Int)→Option ((List Int))
 | 0,_,_=>none
 | n+1,t13,l14=>
  if (decide (t13 < (Sh.len p0)))=true then
   Option.bind (Sh.get p0 t13) fun c23=>
   Option.bind (Sh.app l14 c23 8) fun l24=>
   Bw p0 n (Sh.w (t13+1)) l24
  else
   some l14
def Bv (p0:(List (List Int))):Nat→Int→Int→Option (Int)
 | 0,_,_=>none
 | n+1,size5,t6=>
  if (decide (t6 < (Sh.len p0)))=true then
   Option.bind (Sh.get p0 t6) fun c30=>
   if (decide ((Sh.w (size5+(Sh.len c30))) < 0))=true then
    none
   else
    Bv p0 n (Sh.w (size5+(Sh.len c30))) (Sh.w (t6+1))
  else
   some size5
def EE (N:Nat) (p0:(List (List Int))):Option ((List Int)):=
 Option.bind (Bv p0 N 0 0) fun size7=>
 Option.bind (Ea size7) fun q10=>
 Option.bind (Bw p0 N 0 q10) fun l15=>
 some l15
def BU (N:Nat) (p0:BI) (p1:(List Int)) (p2:(List AP)) (p3:(List (List Int))) (rec_impl_signatures_typeOf:(List Int)→BI→AP→Option (Int)):Nat→Int→Int→Option ((Int) ⊕ (Int))
 | 0,_,_=>none
 | n+1,result5,t6=>
  if (decide (t6 < (Sh.len p2)))=true then
   Option.bind (Sh.get p2 t6) fun c15=>
   Option.bind (Sh.get p3 t6) fun c17=>
   Option.bind (EE N [p1,c17]) fun q18=>
   Option.bind (rec_impl_signatures_typeOf q18 p0 c15) fun q19=>
   Option.bind (
    if (decide (q19 < 0))=true then
     some true
    else
    if (decide (0 < t6))=true then
     some (!decide (q19=result5))
    else
     some false
   ) fun t23=>
   if t23=true then
    some (Sum.inl (-1))
   else
    BU N p0 p1 p2 p3 rec_impl_signatures_typeOf n q19 (Sh.w (t6+1))
  else
   some (Sum.inr result5)
def C6 (N:Nat) (rec_impl_signatures_typeOf:(List Int)→BI→AP→Option (Int)) (p0:BI) (p1:(List Int)) (p2:(List AP)) (p3:(List (List Int))):Option (Int):=
 Sh.cont (BU N p0 p1 p2 p3 rec_impl_signatures_typeOf N (-1) 0) (id) fun result7=>
 some result7
def G7 (p0:(List Ac)) (p1:Int):Option (Ac×Bool):=
 Option.bind (
  if (decide (p1 < 1))=true then
   some true
  else
  if (decide ((Sh.len p0) < p1))=true then
   some true
  else
   Option.bind (Sh.get p0 (Sh.w (p1 - 1))) fun c12=>
   some (decide (0 < (Sh.len c12.cons)))
 ) fun t4=>
 if t4=true then
  some ((Ac.mk 0 0 []),false)
 else
  Option.bind (Sh.get p0 (Sh.w (p1 - 1))) fun c9=>
  some (c9,true)
def CE (p0:(List Int)) (p1:(List Int)):Nat→Int→Option ((Bool) ⊕ (Unit))
 | 0,_=>none
 | n+1,t10=>
  if (decide (t10 < (Sh.len p0)))=true then
   Option.bind (Sh.get p0 t10) fun c19=>
   Option.bind (Sh.get p1 t10) fun c20=>
   if (!decide (c19=c20))=true then
    some (Sum.inl false)
   else
    CE p0 p1 n (Sh.w (t10+1))
  else
   some (Sum.inr ())
def CJ (N:Nat) (p0:(List Int)) (p1:(List Int)):Option (Bool):=
 if (!decide ((Sh.len p0)=(Sh.len p1)))=true then
  some false
 else
  Sh.cont (CE p0 p1 N 0) (id) fun ()=>
  some true
def Dc (p0:(List Ac)) (p1:Int) (p2:Int):Nat→Int→Option ((Int) ⊕ (Unit))
 | 0,_=>none
 | n+1,t4=>
  if (decide (t4 < (Sh.len p0)))=true then
   Option.bind (Sh.get p0 t4) fun c12=>
   Option.bind (
    if (decide ((Sh.len c12.cons)=0))=true then
     if (decide (c12.from_=p1))=true then
      some (decide (c12.to=p2))
     else
      some false
    else
     some false
   ) fun t14=>
   if t14=true then
    some (Sum.inl (Sh.w (t4+1)))
   else
    Dc p0 p1 p2 n (Sh.w (t4+1))
  else
   some (Sum.inr ())
def HA (N:Nat) (p0:(List Ac)) (p1:Int) (p2:Int):Option (Int):=
 Sh.cont (Dc p0 p1 p2 N 0) (id) fun ()=>
 some (-1)
def BB (N:Nat) (p0:BI) (p1:Int) (p2:Int) (p3:(List Int)):Option (Int×Bool):=
 Sh.cont (
  if (decide (p1=0))=true then
   Option.bind (
    if (decide ((-999)≤p2))=true then
     if (decide (p2≤999))=true then
      some (decide ((Sh.len p3)=0))
     else
      some false
    else
     some false
   ) fun t15=>
   some (Sum.inl (0,t15))
  else
   Option.bind (
    if (decide (p1=1))=true then
     some true
    else
    if (decide (p1=2))=true then
     some true
    else
    if (decide (p1=3))=true then
     some true
    else
     some (decide (p1=4))
   ) fun t20=>
   if t20=true then
    some (Sum.inr [(0:Int),0])
   else
   if (decide (p1=5))=true then
    some (Sum.inr [(0:Int)])
   else
   if (decide (p1=11))=true then
    if (!decide ((Sh.len p3)=2))=true then
     some (Sum.inl (-1,false))
    else
     Option.bind (Sh.get p3 0) fun c34=>
     Option.bind (G7 p0.decls c34) fun q35=>
     Option.bind (
      if q35.2=true then
       Option.bind (Sh.get p3 1) fun c41=>
       if (decide (c41=q35.1.from_))=true then
        some (decide (p2=0))
       else
        some false
      else
       some false
     ) fun t38=>
     some (Sum.inl (q35.1.to,t38))
   else
   if (decide (p1=6))=true then
    Option.bind (Fi N p0.decls p2) fun q40=>
    Option.bind (
     if (decide (0≤q40.1))=true then
      Option.bind (CJ N p3 q40.2.fields) fun q45=>
      some q45
     else
      some false
    ) fun t42=>
    some (Sum.inl (q40.1,t42))
   else
    Option.bind (
     if (decide (p1=9))=true then
      some true
     else
      some (decide (p1=10))
    ) fun t47=>
    if t47=true then
     Option.bind (
      if (decide (p2 < 0))=true then
       some true
      else
       some (decide ((Sh.len p0.funcs)≤p2))
     ) fun t52=>
     if t52=true then
      some (Sum.inl (-1,false))
     else
      Option.bind (Sh.get p0.funcs p2) fun c57=>
      if (decide (p1=9))=true then
       Option.bind (CJ N p3 c57.params) fun q62=>
       some (Sum.inl (c57.result,q62))
      else
      if (decide ((Sh.w ((Sh.len c57.params) - 1)) < 0))=true then
       some (Sum.inl (-1,false))
      else
       Option.bind (Sh.get c57.params (Sh.w ((Sh.len c57.params) - 1))) fun c69=>
       Option.bind (HA N p0.decls c69 c57.result) fun q70=>
       Option.bind (
        if (decide (0≤q70))=true then
         Option.bind (Sh.sl c57.params 0 (Sh.w ((Sh.len c57.params) - 1))) fun l75=>
         Option.bind (CJ N p3 l75) fun q76=>
         some q76
        else
         some false
       ) fun t72=>
       some (Sum.inl (q70,t72))
    else
     some (Sum.inl (-1,false))
 ) (id) fun l4=>
 Option.bind (
  if (decide (p2=0))=true then
   Option.bind (CJ N p3 l4) fun q10=>
   some q10
  else
   some false
 ) fun t7=>
 some (0,t7)
def Bf (N:Nat) (p0:BI) (q56:(List Int)):Nat→Int→(List (List Int))→Option ((List (List Int)))
 | 0,_,_=>none
 | n+1,t67,l68=>
  if (decide (t67 < (Sh.len q56)))=true then
   Option.bind (Sh.get q56 t67) fun c79=>
   Option.bind (EF N p0.decls c79) fun q80=>
   Option.bind (Sh.get l68 t67) fun c81=>
   Bf N p0 q56 n (Sh.w (t67+1)) (Sh.put l68 t67 q80)
  else
   some l68
def Bg (s0:(List Int)) (p0:BI) (p2:AP) (rec_impl_signatures_typeOf:(List Int)→BI→AP→Option (Int)):Nat→Int→(List Int)→Option ((Int) ⊕ ((List Int)))
 | 0,_,_=>none
 | n+1,t90,l91=>
  if (decide (t90 < (Sh.len p2.kids)))=true then
   Option.bind (Sh.get p2.kids t90) fun c108=>
   Option.bind (rec_impl_signatures_typeOf s0 p0 c108) fun q110=>
   Option.bind (Sh.get l91 t90) fun c111=>
   Option.bind (Sh.get (Sh.put l91 t90 q110) t90) fun c113=>
   if (decide (c113 < 0))=true then
    some (Sum.inl (-1))
   else
    Bg s0 p0 p2 rec_impl_signatures_typeOf n (Sh.w (t90+1)) (Sh.put l91 t90 q110)
  else
   some (Sum.inr l91)
def BM (N:Nat) (rec_impl_signatures_typeOf:(List Int)→BI→AP→Option (Int)) (s0:(List Int)) (p0:BI) (p2:AP):Option (Int):=
 if (decide (p2.op=12))=true then
  Option.bind (
   if (decide (0 < (Sh.len p2.kids)))=true then
    some true
   else
   if (decide (p2.num < 0))=true then
    some true
   else
    some (decide ((Sh.len s0)≤p2.num))
  ) fun t8=>
  if t8=true then
   some (-1)
  else
   Option.bind (Sh.get s0 p2.num) fun c13=>
   some c13
 else
 if (decide (p2.op=13))=true then
  Option.bind (
   if (!decide ((Sh.len p2.kids)=2))=true then
    some true
   else
    some (!decide (p2.num=0))
  ) fun t20=>
  if t20=true then
   some (-1)
  else
   Option.bind (Sh.get p2.kids 0) fun c25=>
   Option.bind (rec_impl_signatures_typeOf s0 p0 c25) fun q26=>
   if (decide (q26 < 0))=true then
    some (-1)
   else
    Option.bind (Sh.app s0 [q26] 8) fun l32=>
    Option.bind (Sh.get p2.kids 1) fun c33=>
    Option.bind (rec_impl_signatures_typeOf l32 p0 c33) fun q34=>
    some q34
 else
 if (decide (p2.op=7))=true then
  Option.bind (
   if (!decide ((Sh.len p2.kids)=3))=true then
    some true
   else
   if (!decide (p2.num=0))=true then
    some true
   else
    Option.bind (Sh.get p2.kids 0) fun c51=>
    Option.bind (rec_impl_signatures_typeOf s0 p0 c51) fun q52=>
    some (!decide (q52=0))
  ) fun t41=>
  if t41=true then
   some (-1)
  else
   Option.bind (Sh.sl p2.kids 1 (Sh.len p2.kids)) fun l46=>
   Option.bind (Sh.mk [] 2 24) fun l47=>
   Option.bind (C6 N rec_impl_signatures_typeOf p0 s0 l46 l47) fun q48=>
   some q48
 else
 if (decide (p2.op=8))=true then
  Option.bind (Hj N p0.decls p2.num) fun q56=>
  Option.bind (
   if (decide ((Sh.len q56)=0))=true then
    some true
   else
   if (!decide ((Sh.len p2.kids)=(Sh.w (1+(Sh.len q56)))))=true then
    some true
   else
    Option.bind (Sh.get p2.kids 0) fun c84=>
    Option.bind (rec_impl_signatures_typeOf s0 p0 c84) fun q85=>
    some (!decide (q85=p2.num))
  ) fun t59=>
  if t59=true then
   some (-1)
  else
   Option.bind (Sh.mk [] (Sh.len q56) 24) fun l64=>
   Option.bind (Bf N p0 q56 N 0 l64) fun l69=>
   Option.bind (Sh.sl p2.kids 1 (Sh.len p2.kids)) fun l72=>
   Option.bind (C6 N rec_impl_signatures_typeOf p0 s0 l72 l69) fun q73=>
   some q73
 else
  Option.bind (Sh.mk 0 (Sh.len p2.kids) 8) fun l87=>
  Sh.cont (Bg s0 p0 p2 rec_impl_signatures_typeOf N 0 l87) (id) fun l92=>
  Option.bind (BB N p0 p2.op p2.num l92) fun q95=>
  if (!q95.2)=true then
   some (-1)
  else
   some q95.1
def Bn (N:Nat):Nat→(List Int)→BI→AP→Option (Int)
 | 0,_,_,_=>none
 | n+1,s0,p0,p2=>BM N (Bn N n) s0 p0 p2
def FV (N:Nat) (s0:(List Int)) (p0:BI) (p2:AP):Option (Int):=Bn N N s0 p0 p2
def Ig (N:Nat) (p0:Ai) (p1:(List Int)) (p2:AP):Option (Int):=
 Option.bind (
  Option.bind (E4 N p0) fun q13=>
  if (!q13)=true then
   some true
  else
   Option.bind (HD N p2) fun q15=>
   if (decide (q15 < 0))=true then
    some true
   else
    Option.bind (Ex N p0.decls p1) fun q17=>
    some (!q17)
 ) fun t4=>
 if t4=true then
  some (-1)
 else
  Option.bind (Hl N p0) fun q9=>
  Option.bind (ES p1) fun q10=>
  Option.bind (FV N q10 q9 p2) fun q11=>
  some q11
def CZ (N:Nat) (p0:Ai):Nat→Int→Option ((Bool) ⊕ (Unit))
 | 0,_=>none
 | n+1,t11=>
  if (decide (t11 < (Sh.len p0.funcs)))=true then
   Option.bind (Sh.get p0.funcs t11) fun c19=>
   Option.bind (Ig N p0 c19.params c19.body) fun q21=>
   if (!decide (q21=c19.result))=true then
    some (Sum.inl false)
   else
    CZ N p0 n (Sh.w (t11+1))
  else
   some (Sum.inr ())
def DU (N:Nat) (p0:Ai):Option (Bool):=
 Option.bind (E4 N p0) fun q4=>
 if (!q4)=true then
  some false
 else
  Sh.cont (CZ N p0 N 0) (id) fun ()=>
  some true
def GM (s0_0:Int) (s1_0:Int) (p0:AP):Option (Int):=
 Option.bind (
  if (decide (p0.op=9))=true then
   some (decide (p0.num=s0_0))
  else
   some false
 ) fun t3=>
 if t3=true then
  some (Sh.w (s1_0+1))
 else
  some s1_0
def Dr (p0:AP) (rec_impl_walk:Int→Int→AP→Option (Int×Int)):Nat→Int→Int→Int→Option (Int×Int)
 | 0,_,_,_=>none
 | n+1,t6,f7,f8=>
  if (decide (t6 < (Sh.len p0.kids)))=true then
   Option.bind (Sh.get p0.kids t6) fun c17=>
   Option.bind (rec_impl_walk f7 f8 c17) fun q18=>
   Dr p0 rec_impl_walk n (Sh.w (t6+1)) q18.1 q18.2
  else
   some (f7,f8)
def Ie (N:Nat) (rec_impl_walk:Int→Int→AP→Option (Int×Int)) (s0_0:Int) (s1_0:Int) (p0:AP):Option (Int×Int):=
 Option.bind (GM s0_0 s1_0 p0) fun q3=>
 Option.bind (Dr p0 rec_impl_walk N 0 s0_0 q3) fun (f9,f10)=>
 some (f9,f10)
def FG (N:Nat):Nat→Int→Int→AP→Option (Int×Int)
 | 0,_,_,_=>none
 | n+1,s0_0,s1_0,p0=>Ie N (FG N n) s0_0 s1_0 p0
def Mk (N:Nat) (s0_0:Int) (s1_0:Int) (p0:AP):Option (Int×Int):=FG N N s0_0 s1_0 p0
def Cs (N:Nat) (p0:Ai):Nat→Int→Int→Int→Option (Int)
 | 0,_,_,_=>none
 | n+1,t11,f12,f13=>
  if (decide (t11 < (Sh.len p0.funcs)))=true then
   Option.bind (Sh.get p0.funcs t11) fun c22=>
   Option.bind (Mk N f12 f13 c22.body) fun q23=>
   Cs N p0 n (Sh.w (t11+1)) q23.1 q23.2
  else
   some f13
def Fv (N:Nat) (p0:Ai) (p1:Int):Option (Int):=
 Option.bind (
  Option.bind (DU N p0) fun q24=>
  if (!q24)=true then
   some true
  else
  if (decide (p1 < 0))=true then
   some true
  else
   some (decide ((Sh.len p0.funcs)≤p1))
 ) fun t4=>
 if t4=true then
  some (-1)
 else
  Option.bind (Cs N p0 N 0 p1 0) fun f14=>
  some f14
end RC


namespace RC
end RC


namespace RC
end RC


namespace RC
end RC


namespace RC
def Kf (p0:(List Int)) (p1:Int):Nat→Bool→Int→(List Int)→Option (Bool×(List Int))
 | 0,_,_,_=>none
 | n+1,done6,i7,l8=>
  if (decide (i7 < (Sh.len p0)))=true then
   Option.bind (
    Option.bind (
     if (!done6)=true then
      Option.bind (Sh.get p0 i7) fun c43=>
      some (decide (p1≤c43))
     else
      some false
    ) fun t32=>
    if t32=true then
     Option.bind (
      Option.bind (Sh.get p0 i7) fun c39=>
      if (decide (p1 < c39))=true then
       Option.bind (Sh.app l8 [p1] 8) fun l41=>
       some l41
      else
       some l8
     ) fun l36=>
     some (true,l36)
    else
     some (done6,l8)
   ) fun (done26,l27)=>
   Option.bind (Sh.get p0 i7) fun c29=>
   Option.bind (Sh.app l27 [c29] 8) fun l30=>
   Kf p0 p1 n done26 (Sh.w (i7+1)) l30
  else
   some (done6,l8)
def SM (N:Nat) (p0:(List Int)) (p1:Int):Option ((List Int)):=
 Option.bind (Kf p0 p1 N false 0 []) fun (done9,l10)=>
 Option.bind (
  if (!done9)=true then
   Option.bind (Sh.app l10 [p1] 8) fun l19=>
   some l19
  else
   some l10
 ) fun l13=>
 some l13
end RC


namespace RC
def EX (p0:(List Int)) (p1:Int):Nat→Int→Option ((Bool) ⊕ (Unit))
 | 0,_=>none
 | n+1,i4=>
  if (decide (i4 < (Sh.len p0)))=true then
   Option.bind (Sh.get p0 i4) fun c12=>
   if (decide (c12=p1))=true then
    some (Sum.inl true)
   else
    EX p0 p1 n (Sh.w (i4+1))
  else
   some (Sum.inr ())
def HS (N:Nat) (p0:(List Int)) (p1:Int):Option (Bool):=
 Sh.cont (EX p0 p1 N 0) (id) fun ()=>
 some false
def Lb (N:Nat) (q30:(List Int)):Nat→Int→(List Int)→Option ((List Int))
 | 0,_,_=>none
 | n+1,k33,l34=>
  if (decide (k33 < (Sh.len q30)))=true then
   Option.bind (Sh.get q30 k33) fun c41=>
   Option.bind (SM N l34 c41) fun q42=>
   Lb N q30 n (Sh.w (k33+1)) q42
  else
   some l34
def GR (s1:(List Bool)) (p0:AP):Option ((List Bool)):=
 Option.bind (
  if (decide (p0.op=9))=true then
   some true
  else
   some (decide (p0.op=10))
 ) fun t3=>
 if t3=true then
  Option.bind (Sh.get s1 p0.num) fun c6=>
  some (Sh.put s1 p0.num true)
 else
  some s1
def DH (p0:AP) (rec_impl_walk_3:(List Bool)→AP→Option ((List Bool))):Nat→Int→(List Bool)→Option ((List Bool))
 | 0,_,_=>none
 | n+1,t6,l7=>
  if (decide (t6 < (Sh.len p0.kids)))=true then
   Option.bind (Sh.get p0.kids t6) fun c15=>
   Option.bind (rec_impl_walk_3 l7 c15) fun q16=>
   DH p0 rec_impl_walk_3 n (Sh.w (t6+1)) q16
  else
   some l7
def Hn (N:Nat) (rec_impl_walk_3:(List Bool)→AP→Option ((List Bool))) (s1:(List Bool)) (p0:AP):Option ((List Bool)):=
 Option.bind (GR s1 p0) fun q3=>
 Option.bind (DH p0 rec_impl_walk_3 N 0 q3) fun l8=>
 some l8
def Ec (N:Nat):Nat→(List Bool)→AP→Option ((List Bool))
 | 0,_,_=>none
 | n+1,s1,p0=>Hn N (Ec N n) s1 p0
def KT (N:Nat) (s1:(List Bool)) (p0:AP):Option ((List Bool)):=Ec N N s1 p0
def Fq (N:Nat) (p0:Ai) (p1:Int):Option ((List Bool)):=
 Option.bind (Sh.mk false (Sh.len p0.funcs) 1) fun l3=>
 Option.bind (Sh.get p0.funcs p1) fun c5=>
 Option.bind (KT N l3 c5.body) fun q6=>
 some q6
def Cu (p0:(List Bool)):Nat→Int→(List Int)→Option ((List Int))
 | 0,_,_=>none
 | n+1,t5,l6=>
  if (decide (t5 < (Sh.len p0)))=true then
   Option.bind (
    Option.bind (Sh.get p0 t5) fun c17=>
    if c17=true then
     Option.bind (Sh.app l6 [t5] 8) fun l20=>
     some l20
    else
     some l6
   ) fun l14=>
   Cu p0 n (Sh.w (t5+1)) l14
  else
   some l6
def E7 (N:Nat) (p0:(List Bool)):Option ((List Int)):=
 Option.bind (Cu p0 N 0 []) fun l7=>
 some l7
def Fs (N:Nat) (p0:Ai) (p1:Int):Option ((List Int)):=
 Option.bind (
  Option.bind (DU N p0) fun q11=>
  if (!q11)=true then
   some true
  else
  if (decide (p1 < 0))=true then
   some true
  else
   some (decide ((Sh.len p0.funcs)≤p1))
 ) fun t4=>
 if t4=true then
  some []
 else
  Option.bind (Fq N p0 p1) fun q9=>
  Option.bind (E7 N q9) fun q10=>
  some q10
end RC


namespace RC
def Fy (p0:(List Int)):Option ((List Int)×Int):=
 Option.bind (
  if (decide (2000 < (Sh.len p0)))=true then
   Option.bind (Sh.sl p0 0 2000) fun l8=>
   some l8
  else
   some p0
 ) fun code3=>
 some (code3,0)
def Dj (p0:(List Int)):Option (GN):=
 some (GN.mk p0)
def Ay (s0_0:(List Int)) (s0_1:Int) (p1:Int):Option (Int×Int):=
 Option.bind (
  if (decide (p1 < 1))=true then
   some true
  else
   some (decide ((Sh.len s0_0)=0))
 ) fun t5=>
 if t5=true then
  some (0,Sh.w (s0_1+1))
 else
 if (decide ((Sh.w ((Sh.w (s0_1+1)) - 1)) < (Sh.len s0_0)))=true then
  Option.bind (Sh.get s0_0 (Sh.w ((Sh.w (s0_1+1)) - 1))) fun c14=>
  Option.bind (Sh.rem (Sh.wk .i64 c14) p1) fun d15=>
  some (d15,Sh.w (s0_1+1))
 else
  Option.bind (Sh.rem (Sh.w ((Sh.w (s0_1+1)) - 1)) (Sh.len s0_0)) fun d17=>
  Option.bind (Sh.get s0_0 d17) fun c18=>
  Option.bind (Sh.rem (Sh.w ((Sh.w ((Sh.w ((Sh.w (s0_1+1)) - 1)) * 7)) + 3)) (Sh.len s0_0)) fun d19=>
  Option.bind (Sh.get s0_0 d19) fun c20=>
  Option.bind (Sh.quo (Sh.w ((Sh.w (s0_1+1)) - 1)) (Sh.len s0_0)) fun d21=>
  Option.bind (Sh.rem (Sh.xor (Sh.w ((Sh.w ((Sh.w ((Sh.w ((Sh.wk .i64 c18) * 131)) + (Sh.w ((Sh.wk .i64 c20) * 1117)))) + (Sh.w ((Sh.w ((Sh.w (s0_1+1)) - 1)) * 29)))) + (Sh.w (d21 * 53)))) (Sh.w (Int.tdiv (Sh.w ((Sh.w ((Sh.w ((Sh.w ((Sh.wk .i64 c18) * 131)) + (Sh.w ((Sh.wk .i64 c20) * 1117)))) + (Sh.w ((Sh.w ((Sh.w (s0_1+1)) - 1)) * 29)))) + (Sh.w (d21 * 53)))) 64))) p1) fun d24=>
  some (d24,Sh.w (s0_1+1))
def E5 (s0_0:(List Int)) (s0_1:Int):Option ((List Ac)×Int):=
 Option.bind (Dj ([]:List Int)) fun q3=>
 Option.bind (Dj [(0:Int),1]) fun q4=>
 Option.bind (Dj ([]:List Int)) fun q6=>
 Option.bind (Dj [(3:Int),0,3]) fun q7=>
 Option.bind (Dj [(1:Int),3]) fun q9=>
 Option.bind (Dj [(1:Int),1,0]) fun q10=>
 Option.bind (Dj [(0:Int)]) fun q11=>
 Option.bind (Dj [(3:Int)]) fun q12=>
 Option.bind (Ay s0_0 s0_1 5) fun q15=>
 Option.bind (
  if (decide (q15.1 < 4))=true then
   Option.bind (Sh.get ([(Ac.mk 0 0 [q9]),(Ac.mk 1 0 []),(Ac.mk 0 0 [q10,q11,q12]),(Ac.mk 0 1 [])]) q15.1) fun c22=>
   Option.bind (Sh.app ([(Ac.mk 0 0 [q3,q4]),(Ac.mk 0 0 []),(Ac.mk 0 0 [q6,q7])]) [c22] 40) fun l23=>
   some l23
  else
   some ([(Ac.mk 0 0 [q3,q4]),(Ac.mk 0 0 []),(Ac.mk 0 0 [q6,q7])])
 ) fun l17=>
 some (l17,q15.2)
def DW (p0:(List Int)) (p1:Int):Option (Ar):=
 some (Ar.mk p0 p1 (AP.mk 0 0 []))
def Ba (s0_0:(List Int)) (s0_1:Int) (p1:(List Int)):Option (Int×Int):=
 Option.bind (Ay s0_0 s0_1 (Sh.len p1)) fun q3=>
 Option.bind (Sh.get p1 q3.1) fun c4=>
 some (c4,q3.2)
def DZ (p0:(List Int)) (p1:Int):Nat→Int→Option ((Int) ⊕ (Unit))
 | 0,_=>none
 | n+1,i4=>
  if (decide (i4 < (Sh.len p0)))=true then
   Option.bind (Sh.get p0 i4) fun c12=>
   if (decide (c12=p1))=true then
    some (Sum.inl i4)
   else
    DZ p0 p1 n (Sh.w (i4+1))
  else
   some (Sum.inr ())
def G9 (N:Nat) (p0:(List Int)) (p1:Int):Option (Int):=
 Sh.cont (DZ p0 p1 N 0) (id) fun ()=>
 some (-1)
def Dl (p0:Int):Option (AP):=
 some (AP.mk 0 p0 [])
def Ca (p0:(List Int)) (p1:Int):Nat→Int→(List Int)→Option ((List Int))
 | 0,_,_=>none
 | n+1,i5,l6=>
  if (decide (i5 < (Sh.len p0)))=true then
   Option.bind (
    Option.bind (Sh.get p0 i5) fun c17=>
    if (decide (c17=p1))=true then
     Option.bind (Sh.app l6 [i5] 8) fun l19=>
     some l19
    else
     some l6
   ) fun l14=>
   Ca p0 p1 n (Sh.w (i5+1)) l14
  else
   some l6
def Fa (N:Nat) (p0:(List Int)) (p1:Int):Option ((List Int)):=
 Option.bind (Ca p0 p1 N 0 []) fun l7=>
 some l7
def DE (N:Nat) (p0:Ai) (p1:Int):Nat→Int→(List Int)→Option ((List Int))
 | 0,_,_=>none
 | n+1,f5,l6=>
  if (decide (f5 < (Sh.len p0.funcs)))=true then
   Option.bind (
    Option.bind (Sh.get p0.funcs f5) fun c17=>
    Option.bind (
     if (decide (0 < (Sh.len c17.params)))=true then
      Option.bind (Sh.get c17.params (Sh.w ((Sh.len c17.params) - 1))) fun c24=>
      Option.bind (F6 N p0.decls c24 c17.result) fun q25=>
      some (decide (q25=p1))
     else
      some false
    ) fun t19=>
    if t19=true then
     Option.bind (Sh.app l6 [f5] 8) fun l22=>
     some l22
    else
     some l6
   ) fun l14=>
   DE N p0 p1 n (Sh.w (f5+1)) l14
  else
   some l6
def FU (N:Nat) (p0:Ai) (p1:Int):Option ((List Int)):=
 Option.bind (DE N p0 p1 N 0 []) fun l7=>
 some l7
def Es (N:Nat) (p0:Ai) (p1:(List Int)) (p2:Int):Option (Bool):=
 Option.bind (
  Option.bind (Er p0.decls p2) fun q5=>
  if (!q5)=true then
   some true
  else
   Option.bind (FU N p0 p2) fun q7=>
   if (decide (0 < (Sh.len q7)))=true then
    some true
   else
    Option.bind (HS N p1 p2) fun q9=>
    some q9
 ) fun t3=>
 some t3
def Bt (p0:Int):Option (AP):=
 some (AP.mk 12 p0 [])
def BT (p0:Int) (p1:Int) (p2:(List AP)):Option (AP):=
 some (AP.mk p0 p1 p2)
def GC (s0_0:(List Int)) (s0_1:Int):Option (Int×Int):=
 Option.bind (Ay s0_0 s0_1 6) fun q3=>
 Option.bind (Ay s0_0 q3.2 6) fun q4=>
 Option.bind (Ay s0_0 q4.2 40) fun q5=>
 Option.bind (Ba s0_0 q5.2 [q3.1,q4.1,0,1,2,-1,3,q5.1,999,-998]) fun q6=>
 some (q6.1,q6.2)
def B8 (s0_0:(List Int)) (s1:(List Ar)) (p1_0:(List Ac)) (q18:(List Int)) (rec_spec_smallest:(List Int)→Int→(List Ar)→(List Ac)→Int→Option (AP×Int)):Nat→Int→Int→(List AP)→Option (Int×(List AP))
 | 0,_,_,_=>none
 | n+1,i21,f22,l23=>
  if (decide (i21 < (Sh.len q18)))=true then
   Option.bind (Sh.get q18 i21) fun c33=>
   Option.bind (rec_spec_smallest s0_0 f22 s1 p1_0 c33) fun q34=>
   Option.bind (Sh.app l23 [q34.1] 40) fun l35=>
   B8 s0_0 s1 p1_0 q18 rec_spec_smallest n (Sh.w (i21+1)) q34.2 l35
  else
   some (f22,l23)
def Ce (c59:Ar) (s0_0:(List Int)) (s1:(List Ar)) (p1_0:(List Ac)) (rec_spec_smallest:(List Int)→Int→(List Ar)→(List Ac)→Int→Option (AP×Int)):Nat→Int→Int→(List AP)→Option (Int×(List AP))
 | 0,_,_,_=>none
 | n+1,i63,f64,l65=>
  if (decide ((Sh.w (i63+1)) < (Sh.len c59.params)))=true then
   Option.bind (Sh.get c59.params i63) fun c75=>
   Option.bind (rec_spec_smallest s0_0 f64 s1 p1_0 c75) fun q76=>
   Option.bind (Sh.app l65 [q76.1] 40) fun l77=>
   Ce c59 s0_0 s1 p1_0 rec_spec_smallest n (Sh.w (i63+1)) q76.2 l77
  else
   some (f64,l65)
def FZ (N:Nat) (rec_spec_smallest:(List Int)→Int→(List Ar)→(List Ac)→Int→Option (AP×Int)) (s0_0:(List Int)) (s0_1:Int) (s1:(List Ar)) (p1_0:(List Ac)) (p2:Int):Option (AP×Int):=
 Option.bind (Eo N p1_0 p2) fun q3=>
 if (decide (0 < (Sh.len q3)))=true then
  Option.bind (Sh.get q3 0) fun c8=>
  Option.bind (
   Option.bind (
    if (decide (1 < (Sh.len q3)))=true then
     Option.bind (Ay s0_0 s0_1 4) fun q47=>
     some (decide (q47.1=0),q47.2)
    else
     some (false,s0_1)
   ) fun (t41,f42)=>
   if t41=true then
    Option.bind (Sh.get q3 1) fun c45=>
    some (c45,f42)
   else
    some (c8,f42)
  ) fun (c10,f11)=>
  Option.bind (
   Option.bind (Be N p1_0 c10) fun q37=>
   Option.bind (HS N q37 p2) fun q38=>
   if q38=true then
    some c8
   else
    some c10
  ) fun c14=>
  Option.bind (Be N p1_0 c14) fun q18=>
  Option.bind (B8 s0_0 s1 p1_0 q18 rec_spec_smallest N 0 f11 []) fun (f24,l25)=>
  Option.bind (BT 6 c14 l25) fun q28=>
  some (q28,f24)
 else
  Option.bind (FU N (Ai.mk p1_0 s1) p2) fun q49=>
  Option.bind (
   if (decide (0 < p2))=true then
    some (decide (0 < (Sh.len q49)))
   else
    some false
  ) fun t52=>
  if t52=true then
   Option.bind (Ay s0_0 s0_1 (Sh.len q49)) fun q56=>
   Option.bind (Sh.get q49 q56.1) fun c57=>
   Option.bind (Sh.get s1 c57) fun c59=>
   Option.bind (Ce c59 s0_0 s1 p1_0 rec_spec_smallest N 0 q56.2 []) fun (f66,l67)=>
   Option.bind (BT 10 c57 l67) fun q70=>
   some (q70,f66)
  else
   Option.bind (GC s0_0 s0_1) fun q79=>
   Option.bind (Dl q79.1) fun q80=>
   some (q80,q79.2)
def CM (N:Nat):Nat→(List Int)→Int→(List Ar)→(List Ac)→Int→Option (AP×Int)
 | 0,_,_,_,_,_=>none
 | n+1,s0_0,s0_1,s1,p1_0,p2=>FZ N (CM N n) s0_0 s0_1 s1 p1_0 p2
def Ix (N:Nat) (s0_0:(List Int)) (s0_1:Int) (s1:(List Ar)) (p1_0:(List Ac)) (p2:Int):Option (AP×Int):=CM N N s0_0 s0_1 s1 p1_0 p2
def FK (N:Nat) (s0_0:(List Int)) (s0_1:Int) (s1:(List Ar)) (p1_0:(List Ac)) (p2:(List Int)) (p3:Int):Option (AP×Int):=
 Option.bind (Fa N p2 p3) fun q3=>
 Option.bind (
  if (decide (0 < (Sh.len q3)))=true then
   Option.bind (Ay s0_0 s0_1 6) fun q17=>
   if (decide (0 < q17.1))=true then
    some (true,q17.2)
   else
    Option.bind (Es N (Ai.mk p1_0 s1) ([]:List Int) p3) fun q19=>
    some (!q19,q17.2)
  else
   some (false,s0_1)
 ) fun (t6,f7)=>
 if t6=true then
  Option.bind (Ay s0_0 f7 (Sh.len q3)) fun q11=>
  Option.bind (Sh.get q3 q11.1) fun c12=>
  Option.bind (Bt c12) fun q13=>
  some (q13,q11.2)
 else
  Option.bind (Ix N s0_0 f7 s1 p1_0 p3) fun q15=>
  some (q15.1,q15.2)
def HF (N:Nat) (s0_0:(List Int)) (s0_1:Int) (s1:(List Ar)) (p1_0:(List Ac)) (p2:(List Int)):Option (Int×Int):=
 Option.bind (Ba s0_0 s0_1 [(1:Int),1,3,0,2,4,3]) fun q3=>
 Option.bind (
  if (decide ((Sh.len p1_0) < q3.1))=true then
   some true
  else
   Option.bind (Es N (Ai.mk p1_0 s1) p2 q3.1) fun q12=>
   some (!q12)
 ) fun t6=>
 if t6=true then
  some (1,q3.2)
 else
  some (q3.1,q3.2)
def Ds (s0_0:(List Int)) (s1:(List Ar)) (p1_0:(List Ac)) (p2:(List Int)) (p3:(List Int)) (p4:Int) (rec_spec_gen:(List Int)→Int→(List Ar)→(List Ac)→(List Int)→Int→Int→Option (AP×Int)):Nat→Int→Int→(List AP)→Option (Int×(List AP))
 | 0,_,_,_=>none
 | n+1,i5,f6,l7=>
  if (decide (i5 < (Sh.len p3)))=true then
   Option.bind (Sh.get p3 i5) fun c16=>
   Option.bind (Sh.quo p4 (Sh.len p3)) fun d17=>
   Option.bind (rec_spec_gen s0_0 f6 s1 p1_0 p2 c16 d17) fun q18=>
   Option.bind (Sh.app l7 [q18.1] 40) fun l19=>
   Ds s0_0 s1 p1_0 p2 p3 p4 rec_spec_gen n (Sh.w (i5+1)) q18.2 l19
  else
   some (f6,l7)
def EI (N:Nat) (rec_spec_gen:(List Int)→Int→(List Ar)→(List Ac)→(List Int)→Int→Int→Option (AP×Int)) (s0_0:(List Int)) (s0_1:Int) (s1:(List Ar)) (p1_0:(List Ac)) (p2:(List Int)) (p3:(List Int)) (p4:Int):Option ((List AP)×Int):=
 Option.bind (Ds s0_0 s1 p1_0 p2 p3 p4 rec_spec_gen N 0 s0_1 []) fun (f8,l9)=>
 some (l9,f8)
def Cl (N:Nat) (s0_0:(List Int)) (s1:(List Ar)) (p1_0:(List Ac)) (p2:(List Int)) (p3:Int) (p4:Int) (q8:(List Int)) (rec_spec_gen:(List Int)→Int→(List Ar)→(List Ac)→(List Int)→Int→Int→Option (AP×Int)):Nat→Int→Int→(List AP)→Option (Int×(List AP))
 | 0,_,_,_=>none
 | n+1,i13,f14,l15=>
  if (decide (i13 < (Sh.len q8)))=true then
   Option.bind (Sh.get q8 i13) fun c25=>
   Option.bind (Be N p1_0 c25) fun q26=>
   Option.bind (DK p2 q26) fun q27=>
   Option.bind (Sh.quo (Sh.w (p4 - 2)) (Sh.len q8)) fun d28=>
   Option.bind (rec_spec_gen s0_0 f14 s1 p1_0 q27 p3 d28) fun q29=>
   Option.bind (Sh.app l15 [q29.1] 40) fun l30=>
   Cl N s0_0 s1 p1_0 p2 p3 p4 q8 rec_spec_gen n (Sh.w (i13+1)) q29.2 l30
  else
   some (f14,l15)
def Gq (N:Nat) (rec_spec_gen:(List Int)→Int→(List Ar)→(List Ac)→(List Int)→Int→Int→Option (AP×Int)) (s0_0:(List Int)) (s0_1:Int) (s1:(List Ar)) (p1_0:(List Ac)) (p2:(List Int)) (p3:Int) (p4:Int):Option (AP×Int):=
 Option.bind (Ba s0_0 s0_1 [(1:Int),1,3,4]) fun q3=>
 Option.bind (
  Option.bind (
   if (decide ((Sh.len p1_0) < q3.1))=true then
    some true
   else
    Option.bind (Er p1_0 q3.1) fun q36=>
    some q36
  ) fun t32=>
  if t32=true then
   some 1
  else
   some q3.1
 ) fun d5=>
 Option.bind (Eo N p1_0 d5) fun q8=>
 Option.bind (FK N s0_0 q3.2 s1 p1_0 p2 d5) fun q10=>
 Option.bind (Cl N s0_0 s1 p1_0 p2 p3 p4 q8 rec_spec_gen N 0 q10.2 [q10.1]) fun (f16,l17)=>
 Option.bind (BT 8 d5 l17) fun q20=>
 some (q20,f16)
def DA (N:Nat) (c17:Ar) (p0:Ai):Nat→Bool→Int→Option (Bool)
 | 0,_,_=>none
 | n+1,ok20,i21=>
  if (decide (i21 < (Sh.len c17.params)))=true then
   Option.bind (
    if ok20=true then
     Option.bind (Sh.get c17.params i21) fun c34=>
     Option.bind (Es N p0 ([]:List Int) c34) fun q35=>
     some q35
    else
     some false
   ) fun ok31=>
   DA N c17 p0 n ok31 (Sh.w (i21+1))
  else
   some ok20
def DJ (N:Nat) (p0:Ai) (p1:Int):Nat→Int→(List Int)→Option ((List Int))
 | 0,_,_=>none
 | n+1,f5,l6=>
  if (decide (f5 < (Sh.len p0.funcs)))=true then
   Option.bind (
    Option.bind (Sh.get p0.funcs f5) fun c17=>
    Option.bind (DA N c17 p0 N (decide (c17.result=p1)) 0) fun ok22=>
    if ok22=true then
     Option.bind (Sh.app l6 [f5] 8) fun l26=>
     some l26
    else
     some l6
   ) fun l14=>
   DJ N p0 p1 n (Sh.w (f5+1)) l14
  else
   some l6
def Gc (N:Nat) (p0:Ai) (p1:Int):Option ((List Int)):=
 Option.bind (DJ N p0 p1 N 1 []) fun l7=>
 some l7
def DF (N:Nat) (s0_0:(List Int)) (s1:(List Ar)) (p1_0:(List Ac)) (p2:(List Int)) (p3:Int) (p4:Int) (q34:Int×Int) (rec_spec_gen:(List Int)→Int→(List Ar)→(List Ac)→(List Int)→Int→Int→Option (AP×Int)):Nat→Int→Option ((AP×Int) ⊕ (Unit))
 | 0,_=>none
 | n+1,a38=>
  if (decide (a38≤(Sh.len p1_0)))=true then
   Option.bind (
    Option.bind (Er p1_0 a38) fun q53=>
    if q53=true then
     Option.bind (Sh.get p1_0 (Sh.w (a38 - 1))) fun c55=>
     if (decide (c55.to=p3))=true then
      Option.bind (Es N (Ai.mk p1_0 s1) p2 a38) fun q57=>
      some q57
     else
      some false
    else
     some false
   ) fun t45=>
   if t45=true then
    Option.bind (FK N s0_0 q34.2 s1 p1_0 p2 a38) fun q49=>
    Option.bind (Sh.get p1_0 (Sh.w (a38 - 1))) fun c50=>
    Option.bind (rec_spec_gen s0_0 q49.2 s1 p1_0 p2 c50.from_ (Sh.w (p4 - 2))) fun q51=>
    Option.bind (BT 11 0 [q49.1,q51.1]) fun q52=>
    some (Sum.inl (q52,q51.2))
   else
    DF N s0_0 s1 p1_0 p2 p3 p4 q34 rec_spec_gen n (Sh.w (a38+1))
  else
   some (Sum.inr ())
def Gd (N:Nat) (rec_spec_gen:(List Int)→Int→(List Ar)→(List Ac)→(List Int)→Int→Int→Option (AP×Int)) (s0_0:(List Int)) (s0_1:Int) (s1:(List Ar)) (p1_0:(List Ac)) (p2:(List Int)) (p3:Int) (p4:Int):Option (AP×Int):=
 Sh.cont (
  Option.bind (Ay s0_0 s0_1 4) fun q34=>
  if (decide (q34.1=0))=true then
   Sh.cont (DF N s0_0 s1 p1_0 p2 p3 p4 q34 rec_spec_gen N 1) (fun x=>Sum.inl x) fun ()=>
   some (Sum.inr q34.2)
  else
   some (Sum.inr q34.2)
 ) (id) fun f3=>
 Option.bind (Eo N p1_0 p3) fun q6=>
 if (decide (0 < (Sh.len q6)))=true then
  Option.bind (Ay s0_0 f3 (Sh.len q6)) fun q11=>
  Option.bind (Sh.get q6 q11.1) fun c12=>
  Option.bind (Be N p1_0 c12) fun q14=>
  Option.bind (EI N rec_spec_gen s0_0 q11.2 s1 p1_0 p2 q14 (Sh.w (p4 - 1))) fun q15=>
  Option.bind (BT 6 c12 q15.1) fun q16=>
  some (q16,q15.2)
 else
 if (decide (0 < p3))=true then
  Option.bind (FK N s0_0 f3 s1 p1_0 p2 p3) fun q21=>
  some (q21.1,q21.2)
 else
  Option.bind (Ay s0_0 f3 3) fun q24=>
  if (decide (q24.1=0))=true then
   Option.bind (EI N rec_spec_gen s0_0 q24.2 s1 p1_0 p2 [(0:Int)] (Sh.w (p4 - 1))) fun q27=>
   Option.bind (BT 5 0 q27.1) fun q28=>
   some (q28,q27.2)
  else
   Option.bind (Ba s0_0 q24.2 [(1:Int),2,3,4]) fun q30=>
   Option.bind (EI N rec_spec_gen s0_0 q30.2 s1 p1_0 p2 [(0:Int),0] (Sh.w (p4 - 1))) fun q31=>
   Option.bind (BT q30.1 0 q31.1) fun q32=>
   some (q32,q31.2)
def IN (N:Nat) (rec_spec_gen:(List Int)→Int→(List Ar)→(List Ac)→(List Int)→Int→Int→Option (AP×Int)) (s0_0:(List Int)) (s0_1:Int) (s1:(List Ar)) (p1_0:(List Ac)) (p2:(List Int)) (p3:Int) (p4:Int):Option (AP×Int):=
 if (decide (p4 < 3))=true then
  Option.bind (FK N s0_0 s0_1 s1 p1_0 p2 p3) fun q6=>
  some (q6.1,q6.2)
 else
  Sh.cont (
   Option.bind (Ay s0_0 s0_1 12) fun q13=>
   if (decide (q13.1=0))=true then
    Option.bind (FK N s0_0 q13.2 s1 p1_0 p2 p3) fun q17=>
    some (Sum.inl (q17.1,q17.2))
   else
    Option.bind (
     if (decide (q13.1=1))=true then
      some true
     else
      some (decide (q13.1=2))
    ) fun t19=>
    if t19=true then
     Option.bind (HF N s0_0 q13.2 s1 p1_0 p2) fun q23=>
     Option.bind (rec_spec_gen s0_0 q23.2 s1 p1_0 p2 q23.1 (Sh.w (Int.tdiv p4 2))) fun q25=>
     Option.bind (DK p2 [q23.1]) fun q26=>
     Option.bind (rec_spec_gen s0_0 q25.2 s1 p1_0 q26 p3 (Sh.w (Int.tdiv p4 2))) fun q27=>
     Option.bind (BT 13 0 [q25.1,q27.1]) fun q28=>
     some (Sum.inl (q28,q27.2))
    else
    if (decide (q13.1=3))=true then
     Option.bind (EI N rec_spec_gen s0_0 q13.2 s1 p1_0 p2 [0,p3,p3] (Sh.w (p4 - 1))) fun q32=>
     Option.bind (BT 7 0 q32.1) fun q33=>
     some (Sum.inl (q33,q32.2))
    else
     Option.bind (
      if (decide (q13.1=4))=true then
       some true
      else
      if (decide (q13.1=5))=true then
       some true
      else
       some (decide (q13.1=6))
     ) fun t35=>
     if t35=true then
      Option.bind (Gq N rec_spec_gen s0_0 q13.2 s1 p1_0 p2 p3 p4) fun q39=>
      some (Sum.inl (q39.1,q39.2))
     else
      Option.bind (
       if (decide (q13.1=7))=true then
        some true
       else
        some (decide (q13.1=8))
      ) fun t41=>
      if t41=true then
       Option.bind (Gc N (Ai.mk p1_0 s1) p3) fun q45=>
       if (decide (0 < (Sh.len q45)))=true then
        Option.bind (Ay s0_0 q13.2 (Sh.len q45)) fun q49=>
        Option.bind (Sh.get q45 q49.1) fun c50=>
        Option.bind (Sh.get s1 c50) fun c52=>
        Option.bind (EI N rec_spec_gen s0_0 q49.2 s1 p1_0 p2 c52.params (Sh.w (p4 - 1))) fun q53=>
        Option.bind (BT 9 c50 q53.1) fun q54=>
        some (Sum.inl (q54,q53.2))
       else
        some (Sum.inr q13.2)
      else
       some (Sum.inr q13.2)
  ) (id) fun f8=>
  Option.bind (Gd N rec_spec_gen s0_0 f8 s1 p1_0 p2 p3 p4) fun q11=>
  some (q11.1,q11.2)
def Gn (N:Nat):Nat→(List Int)→Int→(List Ar)→(List Ac)→(List Int)→Int→Int→Option (AP×Int)
 | 0,_,_,_,_,_,_,_=>none
 | n+1,s0_0,s0_1,s1,p1_0,p2,p3,p4=>IN N (Gn N n) s0_0 s0_1 s1 p1_0 p2 p3 p4
def Ew (N:Nat) (s0_0:(List Int)) (s0_1:Int) (s1:(List Ar)) (p1_0:(List Ac)) (p2:(List Int)) (p3:Int) (p4:Int):Option (AP×Int):=Gn N N s0_0 s0_1 s1 p1_0 p2 p3 p4
def D2 (s0_0:(List Int)):Nat→Int→Int→Int→Int→(List AP)→Option (Int×Int×Int×(List AP))
 | 0,_,_,_,_,_=>none
 | n+1,n21,f22,f23,f24,f25=>
  if (decide (0 < n21))=true then
   Option.bind (GC s0_0 f22) fun q36=>
   Option.bind (Dl q36.1) fun q37=>
   Option.bind (BT 6 1 [q37,(AP.mk f23 f24 f25)]) fun q38=>
   D2 s0_0 n (Sh.w (n21 - 1)) q36.2 q38.op q38.num q38.kids
  else
   some (f22,f23,f24,f25)
def HC (N:Nat) (s0_0:(List Int)) (s0_1:Int) (p1:Int):Option (AP×Int):=
 Option.bind (BT 6 0 ([]:List AP)) fun q3=>
 if (decide (p1=3))=true then
  Option.bind (BT 6 2 ([]:List AP)) fun q8=>
  Option.bind (Ay s0_0 s0_1 9) fun q10=>
  Option.bind (Dl q10.1) fun q11=>
  Option.bind (BT 6 3 [q8,q11,q8]) fun q12=>
  Option.bind (Ay s0_0 q10.2 9) fun q14=>
  Option.bind (Dl q14.1) fun q15=>
  Option.bind (BT 6 3 [q12,q15,q8]) fun q16=>
  some (q16,q14.2)
 else
  Option.bind (Ay s0_0 s0_1 3) fun q20=>
  Option.bind (D2 s0_0 N (Sh.w (1+q20.1)) q20.2 q3.op q3.num q3.kids) fun (f26,f27,f28,f29)=>
  some ((AP.mk f27 f28 f29),f26)
def Gj (N:Nat) (s0_0:(List Int)) (s0_1:Int) (s1:(List Ar)) (p1_0:(List Ac)):Option (AP×Int):=
 Option.bind (Ba s0_0 s0_1 [(1:Int),1,3]) fun q3=>
 Option.bind (Ew N s0_0 q3.2 s1 p1_0 [q3.1] 0 16) fun q5=>
 Option.bind (
  Option.bind (Ay s0_0 q5.2 3) fun q16=>
  if (decide (q16.1=0))=true then
   Option.bind (BT 5 0 [q5.1]) fun q18=>
   some (q16.2,q18.op,q18.num,q18.kids)
  else
   some (q16.2,q5.1.op,q5.1.num,q5.1.kids)
 ) fun (f7,f8,f9,f10)=>
 Option.bind (HC N s0_0 f7 q3.1) fun q13=>
 Option.bind (BT 13 0 [q13.1,(AP.mk f8 f9 f10)]) fun q14=>
 some (q14,q13.2)
def DI (c3:Ar) (s0_0:(List Int)) (p3:Int):Nat→Int→Int→(List AP)→Option (Int×(List AP))
 | 0,_,_,_=>none
 | n+1,i10,f11,l12=>
  if (decide (i10 < (Sh.len c3.params)))=true then
   Option.bind (
    if (decide (i10=p3))=true then
     Option.bind (Bt (Sh.w ((Sh.len c3.params) + 1))) fun q67=>
     Option.bind (Sh.app l12 [q67] 40) fun l68=>
     some (f11,l68)
    else
     Option.bind (
      Option.bind (Sh.get c3.params i10) fun c80=>
      if (decide (c80=0))=true then
       Option.bind (Ay s0_0 f11 2) fun q82=>
       some (decide (q82.1=0),q82.2)
      else
       some (false,f11)
     ) fun (t70,f71)=>
     if t70=true then
      Option.bind (Bt i10) fun q74=>
      Option.bind (Bt (Sh.len c3.params)) fun q75=>
      Option.bind (BT 1 0 [q74,q75]) fun q76=>
      Option.bind (Sh.app l12 [q76] 40) fun l77=>
      some (f71,l77)
     else
      Option.bind (Bt i10) fun q78=>
      Option.bind (Sh.app l12 [q78] 40) fun l79=>
      some (f71,l79)
   ) fun (f62,l63)=>
   DI c3 s0_0 p3 n (Sh.w (i10+1)) f62 l63
  else
   some (f11,l12)
def Gg (N:Nat) (s0_0:(List Int)) (s0_1:Int) (s1:(List Ar)) (p1_0:(List Ac)) (p2:Int) (p3:Int):Option (AP×Int):=
 Option.bind (Sh.get s1 p2) fun c3=>
 Option.bind (DK c3.params [(0:Int),1]) fun q6=>
 Option.bind (DI c3 s0_0 p3 N 0 s0_1 []) fun (f13,l14)=>
 Option.bind (BT 9 p2 l14) fun q17=>
 Option.bind (
  Option.bind (
   if (decide (c3.result=1))=true then
    Option.bind (Ay s0_0 f13 5) fun q57=>
    some (decide (0 < q57.1),q57.2)
   else
    some (false,f13)
  ) fun (t30,f31)=>
  if t30=true then
   Option.bind (Ew N s0_0 f31 s1 p1_0 q6 0 4) fun q35=>
   Option.bind (
    Option.bind (
     if (decide (1 < (Sh.len c3.params)))=true then
      Option.bind (Sh.get c3.params 0) fun c50=>
      some (decide (c50=2))
     else
      some false
    ) fun t43=>
    if t43=true then
     Option.bind (Bt 0) fun q46=>
     Option.bind (Bt (Sh.len c3.params)) fun q47=>
     Option.bind (BT 11 0 [q46,q47]) fun q48=>
     some (q48.op,q48.num,q48.kids)
    else
     some (q35.1.op,q35.1.num,q35.1.kids)
   ) fun (f37,f38,f39)=>
   Option.bind (BT 6 1 [(AP.mk f37 f38 f39),q17]) fun q41=>
   some (q35.2,q41.op,q41.num,q41.kids)
  else
  if (decide (c3.result=0))=true then
   Option.bind (Ba s0_0 f31 [(1:Int),2]) fun q53=>
   Option.bind (Ew N s0_0 q53.2 s1 p1_0 q6 0 4) fun q54=>
   Option.bind (BT q53.1 0 [q54.1,q17]) fun q55=>
   some (q54.2,q55.op,q55.num,q55.kids)
  else
   some (f31,q17.op,q17.num,q17.kids)
 ) fun (f20,f21,f22,f23)=>
 Option.bind (Bt p3) fun q26=>
 Option.bind (Ew N s0_0 f20 s1 p1_0 c3.params c3.result 4) fun q27=>
 Option.bind (BT 8 1 [q26,q27.1,(AP.mk f21 f22 f23)]) fun q28=>
 some (q28,q27.2)
def DG (c3:Ar):Nat→Int→(List AP)→(List AP)→Option ((List AP)×(List AP))
 | 0,_,_,_=>none
 | n+1,i11,l12,l13=>
  if (decide (i11 < (Sh.len c3.params)))=true then
   Option.bind (Bt i11) fun q47=>
   Option.bind (Sh.app l12 [q47] 40) fun l48=>
   Option.bind (Bt i11) fun q49=>
   Option.bind (Sh.app l13 [q49] 40) fun l50=>
   DG c3 n (Sh.w (i11+1)) l48 l50
  else
   some (l12,l13)
def GY (N:Nat) (s0_0:(List Int)) (s0_1:Int) (s1:(List Ar)) (p1_0:(List Ac)) (p2:Int):Option (AP×Int):=
 Option.bind (Sh.get s1 p2) fun c3=>
 Option.bind (Bt (Sh.len c3.params)) fun q6=>
 Option.bind (Bt (Sh.w ((Sh.len c3.params) + 2))) fun q8=>
 Option.bind (DG c3 N 1 [q6] [q8]) fun (l14,l15)=>
 Option.bind (BT 9 p2 l14) fun q18=>
 Option.bind (BT 9 p2 l15) fun q20=>
 Option.bind (DK c3.params [(3:Int),0,3]) fun q22=>
 Option.bind (Ew N s0_0 s0_1 s1 p1_0 q22 0 4) fun q23=>
 Option.bind (BT 1 0 [q23.1,q20]) fun q24=>
 Option.bind (BT 1 0 [q18,q24]) fun q25=>
 Option.bind (
  if (decide (c3.result=3))=true then
   Option.bind (DK c3.params [(3:Int),0,3]) fun q38=>
   Option.bind (Ew N s0_0 q23.2 s1 p1_0 q38 0 4) fun q39=>
   Option.bind (Bt (Sh.w ((Sh.len c3.params) + 2))) fun q40=>
   Option.bind (BT 6 3 [q18,q39.1,q40]) fun q41=>
   some (q39.2,q41.op,q41.num,q41.kids)
  else
   some (q23.2,q25.op,q25.num,q25.kids)
 ) fun (f27,f28,f29,f30)=>
 Option.bind (Bt 0) fun q33=>
 Option.bind (Ew N s0_0 f27 s1 p1_0 c3.params c3.result 4) fun q34=>
 Option.bind (BT 8 3 [q33,q34.1,(AP.mk f28 f29 f30)]) fun q35=>
 some (q35,q34.2)
def DD (N:Nat) (c3:Ar) (s0_0:(List Int)) (s1:(List Ar)) (p1_0:(List Ac)):Nat→Int→Int→(List AP)→Option (Int×(List AP))
 | 0,_,_,_=>none
 | n+1,i10,f11,l12=>
  if (decide (i10 < (Sh.len c3.params)))=true then
   Option.bind (Sh.get c3.params i10) fun c39=>
   Option.bind (FK N s0_0 f11 s1 p1_0 c3.params c39) fun q40=>
   Option.bind (Sh.app l12 [q40.1] 40) fun l41=>
   DD N c3 s0_0 s1 p1_0 n (Sh.w (i10+1)) q40.2 l41
  else
   some (f11,l12)
def Gi (N:Nat) (s0_0:(List Int)) (s0_1:Int) (s1:(List Ar)) (p1_0:(List Ac)) (p2:Int):Option (AP×Int):=
 Option.bind (Sh.get s1 p2) fun c3=>
 Option.bind (Bt 0) fun q5=>
 Option.bind (Dl 1) fun q6=>
 Option.bind (BT 2 0 [q5,q6]) fun q7=>
 Option.bind (DD N c3 s0_0 s1 p1_0 N 1 s0_1 [q7]) fun (f13,l14)=>
 Option.bind (BT 9 p2 l14) fun q17=>
 Option.bind (
  if (decide (c3.result=1))=true then
   Option.bind (Ew N s0_0 f13 s1 p1_0 c3.params 0 3) fun q33=>
   Option.bind (BT 6 1 [q33.1,q17]) fun q34=>
   some (q33.2,q34.op,q34.num,q34.kids)
  else
   some (f13,q17.op,q17.num,q17.kids)
 ) fun (f19,f20,f21,f22)=>
 Option.bind (Dl 0) fun q25=>
 Option.bind (Bt 0) fun q26=>
 Option.bind (BT 4 0 [q25,q26]) fun q27=>
 Option.bind (Ew N s0_0 f19 s1 p1_0 c3.params c3.result 4) fun q29=>
 Option.bind (BT 7 0 [q27,(AP.mk f20 f21 f22),q29.1]) fun q30=>
 some (q30,q29.2)
def EU (N:Nat) (s0_0:(List Int)) (s1:(List Ar)) (p1_0:(List Ac)) (p2:(List Int)) (p3:Int):Nat→Int→Int→Int→Int→(List AP)→Option (Int×Int×Int×(List AP))
 | 0,_,_,_,_,_=>none
 | n+1,budget5,f6,f7,f8,f9=>
  Option.bind (
   Option.bind (FJ N (AP.mk f7 f8 f9)) fun q23=>
   if (decide (q23 < 0))=true then
    some (decide (2 < budget5))
   else
    some false
  ) fun t18=>
  if t18=true then
   Option.bind (Ew N s0_0 f6 s1 p1_0 p2 p3 (Sh.w (Int.tdiv budget5 2))) fun q22=>
   EU N s0_0 s1 p1_0 p2 p3 n (Sh.w (Int.tdiv budget5 2)) q22.2 q22.1.op q22.1.num q22.1.kids
  else
   some (f6,f7,f8,f9)
def F7 (N:Nat) (s0_0:(List Int)) (s0_1:Int) (s1:(List Ar)) (p1_0:(List Ac)) (p2:(List Int)) (p3:Int) (p4:Int):Option (AP×Int):=
 Option.bind (Ew N s0_0 s0_1 s1 p1_0 p2 p3 p4) fun q3=>
 Option.bind (EU N s0_0 s1 p1_0 p2 p3 N p4 q3.2 q3.1.op q3.1.num q3.1.kids) fun (f10,f11,f12,f13)=>
 some ((AP.mk f11 f12 f13),f10)
def He (N:Nat) (s0_0:(List Int)) (s0_1:Int) (s1:(List Ar)) (p1_0:(List Ac)) (p2:Int):Option (AP×Int):=
 Option.bind (Sh.get s1 p2) fun c3=>
 Option.bind (G9 N c3.params 1) fun q6=>
 Option.bind (Dl 0) fun q8=>
 Option.bind (Ay s0_0 s0_1 4) fun q10=>
 Option.bind (
  Option.bind (
   if (decide (q10.1 < 3))=true then
    some (decide (p2=0))
   else
    some false
  ) fun t25=>
  if t25=true then
   Option.bind (Gj N s0_0 q10.2 s1 p1_0) fun q28=>
   some (q28.2,q28.1.op,q28.1.num,q28.1.kids)
  else
   Option.bind (
    if (decide (q10.1 < 3))=true then
     if (decide (0≤q6))=true then
      if (decide (c3.result=0))=true then
       some true
      else
       some (decide (c3.result=1))
     else
      some false
    else
     some false
   ) fun t30=>
   if t30=true then
    Option.bind (Gg N s0_0 q10.2 s1 p1_0 p2 q6) fun q33=>
    some (q33.2,q33.1.op,q33.1.num,q33.1.kids)
   else
    Option.bind (
     if (decide (q10.1 < 3))=true then
      if (decide (0 < (Sh.len c3.params)))=true then
       Option.bind (Sh.get c3.params 0) fun c52=>
       if (decide (c52=3))=true then
        if (decide (c3.result=0))=true then
         some true
        else
         some (decide (c3.result=3))
       else
        some false
      else
       some false
     else
      some false
    ) fun t35=>
    if t35=true then
     Option.bind (GY N s0_0 q10.2 s1 p1_0 p2) fun q38=>
     some (q38.2,q38.1.op,q38.1.num,q38.1.kids)
    else
     Option.bind (
      if (decide (q10.1 < 3))=true then
       if (decide (0 < (Sh.len c3.params)))=true then
        Option.bind (Sh.get c3.params 0) fun c47=>
        if (decide (c47=0))=true then
         if (decide (c3.result=0))=true then
          some true
         else
          some (decide (c3.result=1))
        else
         some false
       else
        some false
      else
       some false
     ) fun t40=>
     if t40=true then
      Option.bind (Gi N s0_0 q10.2 s1 p1_0 p2) fun q43=>
      some (q43.2,q43.1.op,q43.1.num,q43.1.kids)
     else
      Option.bind (F7 N s0_0 q10.2 s1 p1_0 c3.params c3.result 18) fun q44=>
      some (q44.2,q44.1.op,q44.1.num,q44.1.kids)
 ) fun (f12,f13,f14,f15)=>
 Option.bind (FJ N (AP.mk f13 f14 f15)) fun q19=>
 if (decide (q19 < 0))=true then
  Option.bind (F7 N s0_0 f12 s1 p1_0 c3.params c3.result 12) fun q22=>
  some (q22.1,q22.2)
 else
  some ((AP.mk f13 f14 f15),f12)
def Cm (N:Nat) (s0_0:(List Int)) (q3:(List Ac)×Int):Nat→Int→Int→(List Ar)→Option (Int×(List Ar))
 | 0,_,_,_=>none
 | n+1,f37,f38,l39=>
  if (decide (0≤f37))=true then
   Option.bind (He N s0_0 f38 l39 q3.1 f37) fun q49=>
   Option.bind (Sh.get l39 f37) fun c50=>
   Cm N s0_0 q3 n (Sh.w (f37 - 1)) q49.2 (Sh.put l39 f37 (Ar.mk c50.params c50.result q49.1))
  else
   some (f38,l39)
def E9 (N:Nat) (s0_0:(List Int)) (s0_1:Int):Option (Ai×Int):=
 Option.bind (E5 s0_0 s0_1) fun q3=>
 Option.bind (DW [(1:Int)] 0) fun q5=>
 Option.bind (DW [(1:Int),1] 1) fun q6=>
 Option.bind (DW [(1:Int)] 1) fun q7=>
 Option.bind (DW [(1:Int),0] 1) fun q8=>
 Option.bind (DW [(2:Int),1] 1) fun q9=>
 Option.bind (DW [(1:Int),1] 0) fun q10=>
 Option.bind (DW [(3:Int)] 0) fun q12=>
 Option.bind (DW [(0:Int)] 1) fun q13=>
 Option.bind (DW [(0:Int),1] 1) fun q14=>
 Option.bind (DW [(3:Int),0] 3) fun q15=>
 Option.bind (DW [(3:Int)] 1) fun q16=>
 Option.bind (DW [(1:Int),3,0] 0) fun q17=>
 Option.bind (DW [(0:Int)] 0) fun q19=>
 Option.bind (DW [(0:Int),0] 0) fun q20=>
 Option.bind (DW [(1:Int),0] 0) fun q21=>
 Option.bind (DW [(0:Int)] 1) fun q22=>
 Option.bind (DW ([]:List Int) 0) fun q24=>
 Option.bind (Ay s0_0 q3.2 (Sh.len [q5,q6,q7,q8,q9,q10])) fun q25=>
 Option.bind (Sh.get [q5,q6,q7,q8,q9,q10] q25.1) fun c26=>
 Option.bind (Ay s0_0 q25.2 (Sh.len [q12,q13,q14,q15,q16,q17])) fun q27=>
 Option.bind (Sh.get [q12,q13,q14,q15,q16,q17] q27.1) fun c28=>
 Option.bind (Ay s0_0 q27.2 (Sh.len [q19,q20,q21,q22])) fun q29=>
 Option.bind (Sh.get [q19,q20,q21,q22] q29.1) fun c30=>
 Option.bind (Ba s0_0 q29.2 [(4:Int),4,3,2,4]) fun q32=>
 Option.bind (Sh.hi [q24,c26,c28,c30] q32.1) fun l34=>
 Option.bind (Cm N s0_0 q3 N (Sh.w (q32.1 - 1)) q32.2 l34) fun (f40,l41)=>
 some ((Ai.mk q3.1 l41),f40)
def Ho (rec_spec_copyExprs:(List AP)→Option ((List AP))) (p0:AP):Option (AP):=
 Option.bind (rec_spec_copyExprs p0.kids) fun q3=>
 some (AP.mk p0.op p0.num q3)
def CR (p0:(List AP)) (rec_spec_copyExprs:(List AP)→Option ((List AP))):Nat→Int→(List AP)→Option ((List AP))
 | 0,_,_=>none
 | n+1,i5,l6=>
  if (decide (i5 < (Sh.len p0)))=true then
   Option.bind (Sh.get p0 i5) fun c14=>
   Option.bind (Ho rec_spec_copyExprs c14) fun q15=>
   Option.bind (Sh.app l6 [q15] 40) fun l16=>
   CR p0 rec_spec_copyExprs n (Sh.w (i5+1)) l16
  else
   some l6
def GX (N:Nat) (rec_spec_copyExprs:(List AP)→Option ((List AP))) (p0:(List AP)):Option ((List AP)):=
 Option.bind (CR p0 rec_spec_copyExprs N 0 []) fun l7=>
 some l7
def De (N:Nat):Nat→(List AP)→Option ((List AP))
 | 0,_=>none
 | n+1,p0=>GX N (De N n) p0
def IY (N:Nat) (p0:(List AP)):Option ((List AP)):=De N N p0
def Im (N:Nat) (rec_spec_bend:(List Int)→Int→AP→Option (AP×Int)) (s0_0:(List Int)) (s0_1:Int) (p1:AP):Option (AP×Int):=
 Option.bind (
  if (decide (0 < (Sh.len p1.kids)))=true then
   Option.bind (Ay s0_0 s0_1 3) fun q47=>
   some (decide (0 < q47.1),q47.2)
  else
   some (false,s0_1)
 ) fun (t4,f5)=>
 if t4=true then
  Option.bind (IY N p1.kids) fun q9=>
  Option.bind (Ay s0_0 f5 (Sh.len q9)) fun q11=>
  Option.bind (Sh.get q9 q11.1) fun c13=>
  Option.bind (rec_spec_bend s0_0 q11.2 c13) fun q14=>
  Option.bind (BT p1.op p1.num (Sh.put q9 q11.1 q14.1)) fun q16=>
  some (q16,q14.2)
 else
  Option.bind (Ay s0_0 f5 5) fun q19=>
  if (decide (q19.1=0))=true then
   Option.bind (Ay s0_0 q19.2 15) fun q23=>
   Option.bind (BT q23.1 p1.num p1.kids) fun q24=>
   some (q24,q23.2)
  else
  if (decide (q19.1=1))=true then
   Option.bind (Ba s0_0 q19.2 [(1:Int),-1,1000,2]) fun q28=>
   Option.bind (BT p1.op (Sh.w (p1.num+q28.1)) p1.kids) fun q29=>
   some (q29,q28.2)
  else
  if (decide (q19.1=2))=true then
   Option.bind (IY N p1.kids) fun q33=>
   Option.bind (Dl 1) fun q34=>
   Option.bind (Sh.app q33 [q34] 40) fun l35=>
   Option.bind (BT p1.op p1.num l35) fun q36=>
   some (q36,q19.2)
  else
  if (decide (q19.1=3))=true then
   Option.bind (Ba s0_0 q19.2 [(0:Int),1,2,5,100,-1]) fun q41=>
   Option.bind (Bt q41.1) fun q42=>
   some (q42,q41.2)
  else
   Option.bind (Ba s0_0 q19.2 [(0:Int),1000,-1000,5]) fun q44=>
   Option.bind (Dl q44.1) fun q45=>
   some (q45,q44.2)
def Gu (N:Nat):Nat→(List Int)→Int→AP→Option (AP×Int)
 | 0,_,_,_=>none
 | n+1,s0_0,s0_1,p1=>Im N (Gu N n) s0_0 s0_1 p1
def Mr (N:Nat) (s0_0:(List Int)) (s0_1:Int) (p1:AP):Option (AP×Int):=Gu N N s0_0 s0_1 p1
def Ga (s0_0:(List Int)) (s0_1:Int):Option ((List Ac)×Int):=
 Option.bind (E5 s0_0 s0_1) fun q3=>
 Option.bind (Ay s0_0 q3.2 (Sh.len q3.1)) fun q5=>
 Option.bind (
  Option.bind (Ay s0_0 q5.2 14) fun q12=>
  if (decide (q12.1=0))=true then
   Option.bind (Ba s0_0 q12.2 [(-1:Int),5,0,2]) fun q15=>
   Option.bind (Ba s0_0 q15.2 [(0:Int),1,5]) fun q16=>
   Option.bind (Sh.get q3.1 q5.1) fun c17=>
   some (q16.2,Sh.put q3.1 q5.1 (Ac.mk q15.1 q16.1 []))
  else
  if (decide (q12.1=1))=true then
   Option.bind (Ba s0_0 q12.2 [(-1:Int),0,4,5]) fun q20=>
   Option.bind (Dj [q20.1]) fun q21=>
   Option.bind (Dj [(0:Int),0,0,0]) fun q22=>
   Option.bind (Dj ([]:List Int)) fun q23=>
   Option.bind (Sh.get q3.1 q5.1) fun c24=>
   some (q20.2,Sh.put q3.1 q5.1 (Ac.mk 0 0 [q21,q22,q23]))
  else
  if (decide (q12.1=2))=true then
   Option.bind (Dj [Sh.w (q5.1+1)]) fun q27=>
   Option.bind (Sh.get q3.1 q5.1) fun c28=>
   some (q12.2,Sh.put q3.1 q5.1 (Ac.mk 0 0 [q27]))
  else
  if (decide (q12.1=3))=true then
   Option.bind (Ba s0_0 q12.2 [(0:Int),2,1]) fun q31=>
   Option.bind (Sh.app q3.1 ([(Ac.mk 2 q31.1 [])]) 40) fun l32=>
   some (q31.2,l32)
  else
  if (decide (q12.1=4))=true then
   Option.bind (Ay s0_0 q12.2 2) fun q35=>
   Option.bind (Dj ([]:List Int)) fun q36=>
   Option.bind (Dj [(2:Int)]) fun q37=>
   Option.bind (Dj ([]:List Int)) fun q38=>
   Option.bind (Dj ([]:List Int)) fun q39=>
   Option.bind (Ay s0_0 q35.2 3) fun q40=>
   Option.bind (Sh.sl [q36,q37,q38,q39] q40.1 (Sh.len [q36,q37,q38,q39])) fun l41=>
   Option.bind (Sh.get q3.1 q5.1) fun c42=>
   some (q40.2,Sh.put q3.1 q5.1 (Ac.mk q35.1 0 l41))
  else
  if (decide (q12.1=5))=true then
   Option.bind (Sh.app q3.1 ([(Ac.mk 0 0 []),(Ac.mk 3 0 [])]) 40) fun l45=>
   some (q12.2,l45)
  else
   some (q12.2,q3.1)
 ) fun (f7,l8)=>
 some (l8,f7)
def Ez (N:Nat) (s0_0:(List Int)) (s0_1:Int) (s1:(List Ar)) (p1_0:(List Ac)):Option (Ai×Int):=
 Option.bind (Ay s0_0 s0_1 (Sh.len s1)) fun q3=>
 Option.bind (Sh.get s1 q3.1) fun c5=>
 Option.bind (
  Option.bind (Ay s0_0 q3.2 24) fun q13=>
  if (decide (q13.1=0))=true then
   Option.bind (Mr N s0_0 q13.2 c5.body) fun q16=>
   some (q16.2,Sh.put s1 q3.1 (Ar.mk c5.params c5.result q16.1),p1_0)
  else
  if (decide (q13.1=1))=true then
   Option.bind (Ba s0_0 q13.2 [(0:Int),1,9,-1]) fun q19=>
   Option.bind (DK c5.params [q19.1]) fun q20=>
   some (q19.2,Sh.put s1 q3.1 (Ar.mk q20 c5.result c5.body),p1_0)
  else
  if (decide (q13.1=2))=true then
   Option.bind (Ba s0_0 q13.2 [(0:Int),1,3,5,-1]) fun q23=>
   some (q23.2,Sh.put s1 q3.1 (Ar.mk c5.params q23.1 c5.body),p1_0)
  else
  if (decide (q13.1=3))=true then
   Option.bind (Ga s0_0 q13.2) fun q26=>
   some (q26.2,s1,q26.1)
  else
  if (decide (q13.1=4))=true then
   Option.bind (Sh.app s1 [c5] 72) fun l29=>
   some (q13.2,l29,p1_0)
  else
   some (q13.2,s1,p1_0)
 ) fun (f7,l8,f9)=>
 some ((Ai.mk f9 l8),f7)
def Fc (N:Nat) (s0_0:(List Int)) (s0_1:Int):Option (Ai×Int):=
 Option.bind (E9 N s0_0 s0_1) fun q3=>
 Option.bind (Ez N s0_0 q3.2 q3.1.funcs q3.1.decls) fun q4=>
 some (q4.1,q4.2)
def Eh (N:Nat) (p0:(List Int)):Option (Ai×Int):=
 Option.bind (Fy p0) fun q3=>
 Option.bind (Fc N q3.1 q3.2) fun q5=>
 Option.bind (
  Option.bind (Ba q3.1 q5.2 [(1:Int),2,3,1,3,0,-1,4]) fun q9=>
  some q9.1
 ) fun t7=>
 some (q5.1,t7)
def Ei (N:Nat) (p0:(List Int)):Option (Ai×Int):=
 Option.bind (Eh N p0) fun q3=>
 some (q3.1,q3.2)
def EW (p0:(List Int)) (p1:Int):Nat→Int→Option ((Bool) ⊕ (Unit))
 | 0,_=>none
 | n+1,i4=>
  if (decide (i4 < (Sh.len p0)))=true then
   Option.bind (Sh.get p0 i4) fun c12=>
   if (decide (c12=p1))=true then
    some (Sum.inl true)
   else
    EW p0 p1 n (Sh.w (i4+1))
  else
   some (Sum.inr ())
def Is (N:Nat) (p0:(List Int)) (p1:Int):Option (Bool):=
 Sh.cont (EW p0 p1 N 0) (id) fun ()=>
 some false
def Cn (N:Nat) (q7:Ai×Int):Nat→Int→Option ((Bool) ⊕ (Unit))
 | 0,_=>none
 | n+1,g19=>
  if (decide (g19 < (Sh.len q7.1.funcs)))=true then
   Option.bind (Fs N q7.1 g19) fun q27=>
   Option.bind (Is N q27 q7.2) fun q28=>
   if q28=true then
    some (Sum.inl true)
   else
    Cn N q7 n (Sh.w (g19+1))
  else
   some (Sum.inr ())
def GK (N:Nat) (p0:(List Int)):Option (Bool):=
 if (decide (1048576 < (Sh.len p0)))=true then
  some true
 else
  Option.bind (Ei N p0) fun q7=>
  Option.bind (Fv N q7.1 q7.2) fun q9=>
  Option.bind (
   Option.bind (E8 N q7.1 q7.2) fun q31=>
   if (!decide (q9=q31))=true then
    some true
   else
    some (decide (q9 < 1))
  ) fun t12=>
  if t12=true then
   Option.bind (E8 N q7.1 q7.2) fun q16=>
   some (decide (q9=q16))
  else
   Sh.cont (Cn N q7 N 0) (id) fun ()=>
   some false
end RC

