import Derived.Test.YthapbpfhdnmboaaGEncToEncB
import Derived.Test.YthapbpfhdnmboaaSufE
namespace RC
def J5 (p0:(List Int)):Nat→Int→(List Int)→Option ((List Int))
 | 0,_,_=>none
 | n+1,i6,l7=>
  if (decide (i6 < (Sh.len p0)))=true then
   Option.bind (Sh.get p0 i6) fun c15=>
   Option.bind (Sh.get l7 i6) fun c16=>
   J5 p0 n (Sh.w (i6+1)) (Sh.put l7 i6 c15)
  else
   some l7
def Cn (p0:Int) (p1:Int) (p2:Int):Option (Bool):=
 Option.bind (
  if (decide (p1≤p0))=true then
   some (decide (p0≤p2))
  else
   some false
 ) fun t3=>
 some t3
def CD (p0:(List Int)):Nat→Int→Option ((Bool) ⊕ (Unit))
 | 0,_=>none
 | n+1,i4=>
  if (decide (i4 < (Sh.len p0)))=true then
   Option.bind (Sh.get p0 i4) fun c12=>
   if (!decide (c12=0))=true then
    some (Sum.inl false)
   else
    CD p0 n (Sh.w (i4+1))
  else
   some (Sum.inr ())
def Eb (N:Nat) (p0:(List Int)):Option (Bool):=
 Sh.cont (CD p0 N 0) (id) fun ()=>
 some true
def BL (p0:Int):Option (Bool):=
 some (decide (1000≤p0))
def EJ (p0:(List Cell)) (p1:Int):Option (Bool):=
 Option.bind (
  Option.bind (Cn (Sh.w (p1 - 1000)) 0 (Sh.w ((Sh.len p0) - 1))) fun q5=>
  if q5=true then
   Option.bind (BL p1) fun q7=>
   if q7=true then
    Option.bind (Sh.get p0 (Sh.w (p1 - 1000))) fun c9=>
    some (decide (0 < c9.count))
   else
    some false
  else
   some false
 ) fun t3=>
 some t3
def DQ (p0:(List Cell)) (p1:Int):Option (Bool):=
 Option.bind (
  Option.bind (Cn p1 (-999) 999) fun q5=>
  if q5=true then
   some true
  else
   Option.bind (EJ p0 p1) fun q7=>
   some q7
 ) fun t3=>
 some t3
def Bm (p0:(List Cell)) (p1:Cell):Nat→Int→Option ((Bool) ⊕ (Unit))
 | 0,_=>none
 | n+1,i20=>
  if (decide (i20 < (Sh.len p1.fields)))=true then
   Option.bind (Sh.get p1.fields i20) fun c29=>
   Option.bind (DQ p0 c29) fun q30=>
   if (!q30)=true then
    some (Sum.inl false)
   else
    Bm p0 p1 n (Sh.w (i20+1))
  else
   some (Sum.inr ())
def Dn (N:Nat) (p0:(List Cell)) (p1:Cell):Option (Bool):=
 Option.bind (
  if (decide (3 < (Sh.len p1.fields)))=true then
   some true
  else
   Option.bind (Cn p1.count (-1) 999999) fun q36=>
   some (!q36)
 ) fun t4=>
 if t4=true then
  some false
 else
 if (decide (p1.count < 1))=true then
  Option.bind (
   if (decide (p1.tag=0))=true then
    Option.bind (Eb N p1.fields) fun q15=>
    if q15=true then
     if (decide (p1.count < 0))=true then
      some true
     else
      some (decide ((Sh.len p1.fields)=0))
    else
     some false
   else
    some false
  ) fun t12=>
  some t12
 else
  Sh.cont (Bm p0 p1 N 0) (id) fun ()=>
  Option.bind (Cn p1.tag 0 99) fun q23=>
  some q23
def CT (i6:Int) (p0:(List Cell)):Nat→Int→(List Int)→Option ((List Int))
 | 0,_,_=>none
 | n+1,k16,l17=>
  Option.bind (Sh.get p0 i6) fun c22=>
  if (decide (k16 < (Sh.len c22.fields)))=true then
   Option.bind (
    Option.bind (Sh.get c22.fields k16) fun c28=>
    Option.bind (EJ p0 c28) fun q29=>
    if q29=true then
     Option.bind (Sh.get l17 (Sh.w (c28 - 1000))) fun c32=>
     some (Sh.put l17 (Sh.w (c28 - 1000)) (Sh.w (c32+1)))
    else
     some l17
   ) fun l25=>
   CT i6 p0 n (Sh.w (k16+1)) l25
  else
   some l17
def CQ (N:Nat) (p0:(List Cell)):Nat→Int→(List Int)→Option ((List Int))
 | 0,_,_=>none
 | n+1,i6,l7=>
  if (decide (i6 < (Sh.len p0)))=true then
   Option.bind (CT i6 p0 N 0 l7) fun l18=>
   CQ N p0 n (Sh.w (i6+1)) l18
  else
   some l7
def C3 (N:Nat) (p0:(List Cell)):Option ((List Int)):=
 Option.bind (Sh.mk 0 (Sh.len p0) 8) fun l3=>
 Option.bind (CQ N p0 N 0 l3) fun l8=>
 some l8
def Bo (p0:(List Bool)) (p1:(List Int)):Nat→Int→Option ((Bool) ⊕ (Unit))
 | 0,_=>none
 | n+1,i4=>
  if (decide (i4 < (Sh.len p1)))=true then
   Option.bind (
    Option.bind (Sh.get p1 i4) fun c16=>
    Option.bind (BL c16) fun q17=>
    if q17=true then
     Option.bind (Sh.get p0 (Sh.w (c16 - 1000))) fun c19=>
     some (!c19)
    else
     some false
   ) fun t12=>
   if t12=true then
    some (Sum.inl false)
   else
    Bo p0 p1 n (Sh.w (i4+1))
  else
   some (Sum.inr ())
def Dj (N:Nat) (p0:(List Bool)) (p1:(List Int)):Option (Bool):=
 Sh.cont (Bo p0 p1 N 0) (id) fun ()=>
 some true
def Br (N:Nat) (p0:(List Cell)):Nat→Int→Bool→Int→(List Bool)→Option (Int×Bool×(List Bool))
 | 0,_,_,_,_=>none
 | n+1,many18,more19,i20,l21=>
  if (decide (i20 < (Sh.len p0)))=true then
   Option.bind (
    Option.bind (
     Option.bind (Sh.get l21 i20) fun c41=>
     if (!c41)=true then
      Option.bind (Sh.get p0 i20) fun c43=>
      Option.bind (Dj N l21 c43.fields) fun q44=>
      some q44
     else
      some false
    ) fun t35=>
    if t35=true then
     Option.bind (Sh.get l21 i20) fun c39=>
     some (Sh.w (many18+1),true,Sh.put l21 i20 true)
    else
     some (many18,more19,l21)
   ) fun (many30,more31,l32)=>
   Br N p0 n many30 more31 (Sh.w (i20+1)) l32
  else
   some (many18,more19,l21)
def Bv (N:Nat) (p0:(List Cell)):Nat→Int→Bool→(List Bool)→Option (Int)
 | 0,_,_,_=>none
 | n+1,many7,more8,l9=>
  if more8=true then
   Option.bind (Br N p0 N many7 false 0 l9) fun (many22,more23,l24)=>
   Bv N p0 n many22 more23 l24
  else
   some many7
def Dp (N:Nat) (p0:(List Cell)):Option (Bool):=
 Option.bind (Sh.mk false (Sh.len p0) 1) fun l3=>
 Option.bind (Bv N p0 N 0 true l3) fun many10=>
 some (decide (many10=(Sh.len p0)))
def Bp (p0:(List Cell)) (q13:(List Int)):Nat→Int→Option ((Bool) ⊕ (Unit))
 | 0,_=>none
 | n+1,i16=>
  if (decide (i16 < (Sh.len p0)))=true then
   Option.bind (
    Option.bind (Sh.get p0 i16) fun c29=>
    if (decide (0 < c29.count))=true then
     Option.bind (Sh.get q13 i16) fun c31=>
     some (decide (c29.count < c31))
    else
     some false
   ) fun t25=>
   if t25=true then
    some (Sum.inl false)
   else
    Bp p0 q13 n (Sh.w (i16+1))
  else
   some (Sum.inr ())
def Bu (N:Nat) (p0:(List Cell)):Nat→Int→Option ((Bool) ⊕ (Unit))
 | 0,_=>none
 | n+1,i10=>
  if (decide (i10 < (Sh.len p0)))=true then
   Option.bind (Sh.get p0 i10) fun c37=>
   Option.bind (Dn N p0 c37) fun q38=>
   if (!q38)=true then
    some (Sum.inl false)
   else
    Bu N p0 n (Sh.w (i10+1))
  else
   some (Sum.inr ())
def CA (N:Nat) (p0:(List Cell)):Option (Bool):=
 Option.bind (
  if (decide (0 < (Sh.len p0)))=true then
   Option.bind (Sh.get p0 (Sh.w ((Sh.len p0) - 1))) fun c44=>
   some (decide (c44.count=0))
  else
   some false
 ) fun t4=>
 if t4=true then
  some false
 else
  Sh.cont (Bu N p0 N 0) (id) fun ()=>
  Option.bind (C3 N p0) fun q13=>
  Sh.cont (Bp p0 q13 N 0) (id) fun ()=>
  Option.bind (Dp N p0) fun q19=>
  some q19
def HP (N:Nat) (p0:(List Cell)):Option (Bool):=
 Option.bind (CA N p0) fun q3=>
 some q3
def C4 (p0:(List Cell)) (p1:Int):Option (Int×Bool):=
 Option.bind (
  if (decide (1000≤p1))=true then
   if (decide ((Sh.w (p1 - 1000)) < (Sh.len p0)))=true then
    Option.bind (Sh.get p0 (Sh.w (p1 - 1000))) fun c8=>
    some (decide (0 < c8.count))
   else
    some false
  else
   some false
 ) fun t4=>
 some (Sh.w (p1 - 1000),t4)
def FL (p0:Int):Option (Bool):=
 Option.bind (
  if (decide ((-999)≤p0))=true then
   some (decide (p0≤999))
  else
   some false
 ) fun t3=>
 some t3
def DK (p0:(List Cell)) (p1:Int):Option (Bool):=
 Option.bind (C4 p0 p1) fun q3=>
 Option.bind (
  if q3.2=true then
   some true
  else
   Option.bind (FL p1) fun q8=>
   some q8
 ) fun t5=>
 some t5
def Bq (p0:(List Cell)) (p1:Cell):Nat→Int→Option ((Bool) ⊕ (Unit))
 | 0,_=>none
 | n+1,t16=>
  if (decide (t16 < (Sh.len p1.fields)))=true then
   Option.bind (Sh.get p1.fields t16) fun c24=>
   Option.bind (
    Option.bind (DK p0 c24) fun q30=>
    if (!q30)=true then
     some true
    else
    if (decide (p1.count < 0))=true then
     some (!decide (c24=0))
    else
     some false
   ) fun t26=>
   if t26=true then
    some (Sum.inl false)
   else
    Bq p0 p1 n (Sh.w (t16+1))
  else
   some (Sum.inr ())
def Dm (N:Nat) (p0:(List Cell)) (p1:Cell):Option (Bool):=
 Option.bind (
  if (decide (p1.count < (-1)))=true then
   some true
  else
  if (decide (p1.tag < 0))=true then
   some true
  else
  if (decide (99 < p1.tag))=true then
   some true
  else
   some (decide (3 < (Sh.len p1.fields)))
 ) fun t4=>
 if t4=true then
  some false
 else
  Option.bind (
   if (decide (p1.count < 1))=true then
    if (!decide (p1.tag=0))=true then
     some true
    else
    if (decide (p1.count=0))=true then
     some (decide (0 < (Sh.len p1.fields)))
    else
     some false
   else
   if (decide (p1.count=0))=true then
    some (decide (0 < (Sh.len p1.fields)))
   else
    some false
  ) fun t10=>
  if t10=true then
   some false
  else
   Sh.cont (Bq p0 p1 N 0) (id) fun ()=>
   some true
def B2 (p0:(List Int)):Option ((List Int)):=
 Option.bind (Sh.app ([]:List Int) p0 8) fun l6=>
 some l6
def BT (c39:Cell) (p0:(List Cell)):Nat→Int→(List Int)→(List Int)→Option ((List Int)×(List Int))
 | 0,_,_,_=>none
 | n+1,t43,l44,l45=>
  if (decide (t43 < (Sh.len c39.fields)))=true then
   Option.bind (
    Option.bind (Sh.get c39.fields t43) fun c57=>
    Option.bind (C4 p0 c57) fun q59=>
    if q59.2=true then
     Option.bind (Sh.get l44 q59.1) fun c63=>
     Option.bind (Sh.get (Sh.put l44 q59.1 (Sh.w (c63 - 1))) q59.1) fun c65=>
     if (decide (c65=0))=true then
      Option.bind (Sh.app l45 [q59.1] 8) fun l67=>
      some (Sh.put l44 q59.1 (Sh.w (c63 - 1)),l67)
     else
      some (Sh.put l44 q59.1 (Sh.w (c63 - 1)),l45)
    else
     some (l44,l45)
   ) fun (l53,l54)=>
   BT c39 p0 n (Sh.w (t43+1)) l53 l54
  else
   some (l44,l45)
def BY (N:Nat) (p0:(List Cell)):Nat→Int→(List Int)→(List Int)→Option (Int)
 | 0,_,_,_=>none
 | n+1,many27,l28,l29=>
  if (decide (0 < (Sh.len l29)))=true then
   Option.bind (Sh.get l29 (Sh.w ((Sh.len l29) - 1))) fun c38=>
   Option.bind (Sh.get p0 c38) fun c39=>
   Option.bind (Sh.hi l29 (Sh.w ((Sh.len l29) - 1))) fun l41=>
   Option.bind (BT c39 p0 N 0 l28 l41) fun (l46,l47)=>
   BY N p0 n (Sh.w (many27+1)) l46 l47
  else
   some many27
def BV (l8:(List Int)) (p0:(List Cell)):Nat→Int→(List Int)→Option (((List Int)×Bool) ⊕ ((List Int)))
 | 0,_,_=>none
 | n+1,t22,l23=>
  if (decide (t22 < (Sh.len p0)))=true then
   Sh.cont (
    Option.bind (Sh.get p0 t22) fun c75=>
    Option.bind (
     if (decide (0 < c75.count))=true then
      Option.bind (Sh.get l8 t22) fun c87=>
      if (decide (c75.count < c87))=true then
       some true
      else
       some (decide (999999 < c75.count))
     else
      some false
    ) fun t78=>
    if t78=true then
     some (Sum.inl (Sum.inl ([],false)))
    else
     Option.bind (Sh.get l8 t22) fun c83=>
     if (decide (c83=0))=true then
      Option.bind (Sh.app l23 [t22] 8) fun l85=>
      some (Sum.inr l85)
     else
      some (Sum.inr l23)
   ) (id) fun l72=>
   BV l8 p0 n (Sh.w (t22+1)) l72
  else
   some (Sum.inr l23)
def BW (c96:Cell) (p0:(List Cell)):Nat→Int→(List Int)→Option ((List Int))
 | 0,_,_=>none
 | n+1,t105,l106=>
  if (decide (t105 < (Sh.len c96.fields)))=true then
   Option.bind (
    Option.bind (Sh.get c96.fields t105) fun c116=>
    Option.bind (C4 p0 c116) fun q118=>
    if q118.2=true then
     Option.bind (Sh.get l106 q118.1) fun c121=>
     some (Sh.put l106 q118.1 (Sh.w (c121+1)))
    else
     some l106
   ) fun l113=>
   BW c96 p0 n (Sh.w (t105+1)) l113
  else
   some l106
def BZ (N:Nat) (p0:(List Cell)):Nat→Int→(List Int)→Option (((List Int)×Bool) ⊕ ((List Int)))
 | 0,_,_=>none
 | n+1,t6,l7=>
  if (decide (t6 < (Sh.len p0)))=true then
   Option.bind (Sh.get p0 t6) fun c96=>
   Option.bind (Dm N p0 c96) fun q99=>
   if (!q99)=true then
    some (Sum.inl ([],false))
   else
    Option.bind (BW c96 p0 N 0 l7) fun l107=>
    BZ N p0 n (Sh.w (t6+1)) l107
  else
   some (Sum.inr l7)
def CK (N:Nat) (p0:(List Cell)):Option ((List Int)×Bool):=
 Option.bind (Sh.mk 0 (Sh.len p0) 8) fun l3=>
 Sh.cont (BZ N p0 N 0 l3) (id) fun l8=>
 Option.bind (
  if (decide (0 < (Sh.len p0)))=true then
   Option.bind (Sh.get p0 (Sh.w ((Sh.len p0) - 1))) fun c90=>
   some (decide (c90.count=0))
  else
   some false
 ) fun t12=>
 if t12=true then
  some ([],false)
 else
  Option.bind (B2 l8) fun q17=>
  Sh.cont (BV l8 p0 N 0 []) (id) fun l24=>
  Option.bind (BY N p0 N 0 q17 l24) fun many30=>
  some (l8,decide (many30=(Sh.len p0)))
def Ej (N:Nat) (p0:(List Cell)):Option (Bool):=
 Option.bind (CK N p0) fun q3=>
 some q3.2
end RC


namespace RC
def Ds (p0:(List Int)):Option ((List Int)×Int):=
 Option.bind (
  if (decide (2000 < (Sh.len p0)))=true then
   Option.bind (Sh.sl p0 0 2000) fun l8=>
   some l8
  else
   some p0
 ) fun code3=>
 some (code3,0)
def Aq (s0_0:(List Int)) (s0_1:Int) (p1:Int):Option (Int×Int):=
 Option.bind (
  if (decide (p1 < 1))=true then
   some true
  else
   some (decide ((Sh.len s0_0)=0))
 ) fun t5=>
 if t5=true then
  some (0,Sh.w (s0_1+1))
 else
 if (decide ((Sh.w ((Sh.w (s0_1+1)) - 1)) < (Sh.len s0_0)))=true then
  Option.bind (Sh.get s0_0 (Sh.w ((Sh.w (s0_1+1)) - 1))) fun c14=>
  Option.bind (Sh.rem (Sh.wk .i64 c14) p1) fun d15=>
  some (d15,Sh.w (s0_1+1))
 else
  Option.bind (Sh.rem (Sh.w ((Sh.w (s0_1+1)) - 1)) (Sh.len s0_0)) fun d17=>
  Option.bind (Sh.get s0_0 d17) fun c18=>
  Option.bind (Sh.rem (Sh.w ((Sh.w ((Sh.w ((Sh.w (s0_1+1)) - 1)) * 7)) + 3)) (Sh.len s0_0)) fun d19=>
  Option.bind (Sh.get s0_0 d19) fun c20=>
  Option.bind (Sh.quo (Sh.w ((Sh.w (s0_1+1)) - 1)) (Sh.len s0_0)) fun d21=>
  Option.bind (Sh.rem (Sh.xor (Sh.w ((Sh.w ((Sh.w ((Sh.w ((Sh.wk .i64 c18) * 131)) + (Sh.w ((Sh.wk .i64 c20) * 1117)))) + (Sh.w ((Sh.w ((Sh.w (s0_1+1)) - 1)) * 29)))) + (Sh.w (d21 * 53)))) (Sh.w (Int.tdiv (Sh.w ((Sh.w ((Sh.w ((Sh.w ((Sh.wk .i64 c18) * 131)) + (Sh.w ((Sh.wk .i64 c20) * 1117)))) + (Sh.w ((Sh.w ((Sh.w (s0_1+1)) - 1)) * 29)))) + (Sh.w (d21 * 53)))) 64))) p1) fun d24=>
  some (d24,Sh.w (s0_1+1))
def Cl (s0_0:(List Int)) (s0_1:Int) (p1:(List Int)):Option (Int×Int):=
 Option.bind (Aq s0_0 s0_1 (Sh.len p1)) fun q3=>
 Option.bind (Sh.get p1 q3.1) fun c4=>
 some (c4,q3.2)
def By (p0:(List Cell)):Nat→Int→Option ((Int) ⊕ (Unit))
 | 0,_=>none
 | n+1,i4=>
  if (decide (i4 < (Sh.len p0)))=true then
   Option.bind (Sh.get p0 i4) fun c12=>
   if (decide (c12.count=0))=true then
    some (Sum.inl i4)
   else
    By p0 n (Sh.w (i4+1))
  else
   some (Sum.inr ())
def Dl (N:Nat) (p0:(List Cell)):Option (Int):=
 Sh.cont (By p0 N 0) (id) fun ()=>
 some (Sh.len p0)
def Ca (p0:(List Int)):Option ((List Int)):=
 Option.bind (Sh.app ([]:List Int) p0 8) fun l3=>
 some l3
def BN (s0:(List Cell)):Nat→Int→(List Cell)→Option ((List Cell))
 | 0,_,_=>none
 | n+1,i5,l6=>
  if (decide (i5 < (Sh.len s0)))=true then
   Option.bind (Sh.get s0 i5) fun c14=>
   Option.bind (Ca c14.fields) fun q15=>
   Option.bind (Sh.app l6 [(Cell.mk c14.count c14.tag q15)] 40) fun l16=>
   BN s0 n (Sh.w (i5+1)) l16
  else
   some l6
def B8 (N:Nat) (s0:(List Cell)):Option ((List Cell)):=
 Option.bind (BN s0 N 0 []) fun l7=>
 some l7
def FJ (s0:(List Cell)) (p1:Int) (p2:Int) (p3:(List Int)):Option ((List Cell)):=
 Option.bind (Ca p3) fun q3=>
 if (decide (p1=(Sh.len s0)))=true then
  Option.bind (Sh.app s0 [(Cell.mk 1 p2 q3)] 40) fun l8=>
  some l8
 else
  Option.bind (Sh.get s0 p1) fun c10=>
  some (Sh.put s0 p1 (Cell.mk 1 p2 q3))
def Bx (s0:(List Cell)) (p2:(List Int)):Nat→Int→Option (((List Cell)×Int) ⊕ (Unit))
 | 0,_=>none
 | n+1,i13=>
  if (decide (i13 < (Sh.len p2)))=true then
   Option.bind (Sh.get p2 i13) fun c31=>
   Option.bind (DQ s0 c31) fun q32=>
   if (!q32)=true then
    some (Sum.inl ([],0))
   else
    Bx s0 p2 n (Sh.w (i13+1))
  else
   some (Sum.inr ())
def Dt (N:Nat) (s0:(List Cell)) (p1:Int) (p2:(List Int)):Option ((List Cell)×Int):=
 Option.bind (CA N s0) fun q4=>
 if (!q4)=true then
  some ([],0)
 else
  Option.bind (Dl N s0) fun q10=>
  Sh.cont (Bx s0 p2 N 0) (id) fun ()=>
  Option.bind (B8 N s0) fun q16=>
  Option.bind (FJ q16 q10 p1 p2) fun q17=>
  Option.bind (CA N q17) fun q20=>
  if (!q20)=true then
   some ([],0)
  else
   some (q17,Sh.w (1000+q10))
def C6 (s0:(List Cell)):Nat→Int→Option (Int)
 | 0,_=>none
 | n+1,n4=>
  Option.bind (
   if (decide (0 < n4))=true then
    Option.bind (Sh.get s0 (Sh.w (n4 - 1))) fun c15=>
    some (decide (c15.count=0))
   else
    some false
  ) fun t11=>
  if t11=true then
   C6 s0 n (Sh.w (n4 - 1))
  else
   some n4
def Fo (N:Nat) (s0:(List Cell)):Option ((List Cell)):=
 Option.bind (C6 s0 N (Sh.len s0)) fun n5=>
 Option.bind (Sh.hi s0 n5) fun l8=>
 some l8
def BO :Nat→(List Cell)→(List Int)→Option ((List Cell))
 | 0,_,_=>none
 | n+1,l5,l6=>
  if (decide (0 < (Sh.len l6)))=true then
   Option.bind (Sh.get l6 (Sh.w ((Sh.len l6) - 1))) fun c15=>
   Option.bind (Sh.hi l6 (Sh.w ((Sh.len l6) - 1))) fun l17=>
   Option.bind (BL c15) fun q19=>
   if q19=true then
    Option.bind (Sh.get l5 (Sh.w (c15 - 1000))) fun c23=>
    Option.bind (Sh.get (Sh.put l5 (Sh.w (c15 - 1000)) (Cell.mk (Sh.w (c23.count - 1)) c23.tag c23.fields)) (Sh.w (c15 - 1000))) fun c25=>
    if (decide (c25.count=0))=true then
     Option.bind (Sh.app l17 c25.fields 8) fun l28=>
     BO  n (Sh.put (Sh.put l5 (Sh.w (c15 - 1000)) (Cell.mk (Sh.w (c23.count - 1)) c23.tag c23.fields)) (Sh.w (c15 - 1000)) (Cell.mk 0 0 [])) l28
    else
     BO  n (Sh.put l5 (Sh.w (c15 - 1000)) (Cell.mk (Sh.w (c23.count - 1)) c23.tag c23.fields)) l17
   else
    BO  n l5 l17
  else
   some l5
def Dq (N:Nat) (s0:(List Cell)) (p1:(List Int)):Option ((List Cell)):=
 Option.bind (Ca p1) fun q3=>
 Option.bind (BO  N s0 q3) fun l7=>
 Option.bind (Fo N l7) fun q10=>
 some q10
def D9 (N:Nat) (s0:(List Cell)) (p1:Int):Option ((List Cell)×Bool):=
 Option.bind (
  Option.bind (CA N s0) fun q22=>
  if (!q22)=true then
   some true
  else
   Option.bind (DQ s0 p1) fun q24=>
   some (!q24)
 ) fun t4=>
 if t4=true then
  some ([],false)
 else
  Option.bind (
   Option.bind (BL p1) fun q17=>
   if q17=true then
    Option.bind (Sh.get s0 (Sh.w (p1 - 1000))) fun c19=>
    Option.bind (C3 N s0) fun q20=>
    Option.bind (Sh.get q20 (Sh.w (p1 - 1000))) fun c21=>
    some (decide (c19.count=c21))
   else
    some false
  ) fun t10=>
  if t10=true then
   some ([],false)
  else
   Option.bind (B8 N s0) fun q15=>
   Option.bind (Dq N q15 [p1]) fun q16=>
   some (q16,true)
def GQ (p0:Int):Option ((List Int)):=
 Option.bind (Sh.mk 0 p0 8) fun l3=>
 some l3
def CL (N:Nat) (s0_0:(List Int)):Nat→Int→Int→(List Cell)→(List Int)→Option (Int×(List Cell)×(List Int))
 | 0,_,_,_,_=>none
 | n+1,k38,f39,l40,l41=>
  if (decide (0 < k38))=true then
   Option.bind (Aq s0_0 f39 20) fun q73=>
   Option.bind (
    Option.bind (
     if (decide (0 < (Sh.len l40)))=true then
      Option.bind (Aq s0_0 q73.2 3) fun q101=>
      some (decide (0 < q101.1),q101.2)
     else
      some (false,q73.2)
    ) fun (t81,f82)=>
    if t81=true then
     Option.bind (Aq s0_0 f82 (Sh.len l40)) fun q86=>
     Option.bind (Sh.get l40 q86.1) fun c88=>
     if (decide (0 < c88.count))=true then
      Option.bind (
       Option.bind (C3 N l40) fun q96=>
       Option.bind (Sh.get q96 q86.1) fun c97=>
       if (decide (c88.count=c97))=true then
        some (true,q86.2)
       else
        Option.bind (Aq s0_0 q86.2 2) fun q99=>
        some (decide (q99.1=0),q99.2)
      ) fun (t92,f93)=>
      if t92=true then
       some (Sh.w (1000+q86.1),f93,Sh.put l40 q86.1 (Cell.mk (Sh.w (c88.count+1)) c88.tag c88.fields))
      else
       some (Sh.w (1000+q86.1),f93,l40)
     else
      some (Sh.w (q73.1 - 5),q86.2,l40)
    else
     some (Sh.w (q73.1 - 5),f82,l40)
   ) fun (w75,f76,l77)=>
   Option.bind (Sh.app l41 [w75] 8) fun l79=>
   CL N s0_0 n (Sh.w (k38 - 1)) f76 l77 l79
  else
   some (f39,l40,l41)
def CI (N:Nat) (s0_0:(List Int)):Nat→Int→Int→(List Cell)→Option (Int×(List Cell))
 | 0,_,_,_=>none
 | n+1,n6,f7,l8=>
  if (decide (0 < n6))=true then
   Option.bind (
    Option.bind (Aq s0_0 f7 4) fun q37=>
    Option.bind (CL N s0_0 N q37.1 q37.2 l8 []) fun (f42,l43,l44)=>
    Option.bind (Aq s0_0 f42 7) fun q47=>
    Option.bind (Aq s0_0 q47.2 7) fun q48=>
    Option.bind (Cl s0_0 q48.2 [q47.1,q48.1,0,99]) fun q49=>
    Option.bind (Dt N l43 q49.1 l44) fun q50=>
    Option.bind (
     if (decide (0 < q50.2))=true then
      some q50.1
     else
      some l43
    ) fun l52=>
    Option.bind (
     if (decide (0 < (Sh.len l52)))=true then
      Option.bind (Aq s0_0 q49.2 4) fun q65=>
      some (decide (q65.1=0),q65.2)
     else
      some (false,q49.2)
    ) fun (t55,f56)=>
    if t55=true then
     Option.bind (Aq s0_0 f56 (Sh.len l52)) fun q60=>
     Option.bind (D9 N l52 (Sh.w (1000+q60.1))) fun q61=>
     if q61.2=true then
      some (q60.2,q61.1)
     else
      some (q60.2,l52)
    else
     some (f56,l52)
   ) fun (f31,l32)=>
   CI N s0_0 n (Sh.w (n6 - 1)) f31 l32
  else
   some (f7,l8)
def D4 (N:Nat) (s0_0:(List Int)) (s0_1:Int) (p1:Bool):Option ((List Cell)×Int):=
 Option.bind (Aq s0_0 s0_1 14) fun q5=>
 Option.bind (CI N s0_0 N (Sh.w (3+q5.1)) q5.2 []) fun (f9,l10)=>
 Option.bind (
  Option.bind (
   if p1=true then
    Option.bind (Aq s0_0 f9 3) fun q26=>
    some (decide (q26.1=0),q26.2)
   else
    some (false,f9)
  ) fun (t18,f19)=>
  if t18=true then
   Option.bind (Aq s0_0 f19 4) fun q22=>
   Option.bind (GQ q22.1) fun q23=>
   Option.bind (Sh.app l10 [(Cell.mk (-1) 0 q23)] 40) fun l24=>
   some (q22.2,l24)
  else
   some (f19,l10)
 ) fun (f13,l14)=>
 some (l14,f13)
def BG (p0:(List Cell)):Option ((List Cell)):=
 Option.bind (Sh.app ([]:List Cell) p0 40) fun l6=>
 some l6
def Ci (p0:(List Cell)):Nat→Int→(List Cell)→Option ((List Cell))
 | 0,_,_=>none
 | n+1,t6,l7=>
  if (decide (t6 < (Sh.len p0)))=true then
   Option.bind (Sh.get p0 t6) fun c16=>
   Option.bind (B2 c16.fields) fun q17=>
   Option.bind (Sh.get l7 t6) fun c18=>
   Ci p0 n (Sh.w (t6+1)) (Sh.put l7 t6 (Cell.mk c18.count c18.tag q17))
  else
   some l7
def Eh (N:Nat) (p0:(List Cell)):Option ((List Cell)):=
 Option.bind (BG p0) fun q3=>
 Option.bind (Ci p0 N 0 q3) fun l8=>
 some l8
def F8 (p0:Cell):Option (Bool):=
 some (decide (p0.count=0))
def A1 (p0:(List Cell)):Nat→Int→Option ((Int) ⊕ (Unit))
 | 0,_=>none
 | n+1,t4=>
  if (decide (t4 < (Sh.len p0)))=true then
   Option.bind (Sh.get p0 t4) fun c13=>
   Option.bind (F8 c13) fun q14=>
   if q14=true then
    some (Sum.inl t4)
   else
    A1 p0 n (Sh.w (t4+1))
  else
   some (Sum.inr ())
def CB (N:Nat) (p0:(List Cell)):Option (Int):=
 Sh.cont (A1 p0 N 0) (id) fun ()=>
 some (-1)
def FF (N:Nat) (s1:(List Cell)) (p1:Int) (p2:(List Int)):Option (Int×(List Cell)):=
 Option.bind (B2 p2) fun q3=>
 Option.bind (CB N s1) fun q5=>
 Option.bind (
  if (decide (q5 < 0))=true then
   Option.bind (Sh.app s1 [(Cell.mk 1 p1 q3)] 40) fun l14=>
   some (Sh.len s1,l14)
  else
   Option.bind (Sh.get s1 q5) fun c17=>
   some (q5,Sh.put s1 q5 (Cell.mk 1 p1 q3))
 ) fun (at7,l8)=>
 some (Sh.w (1000+at7),l8)
def HN (N:Nat) (p0:(List Cell)) (p1:Int) (p2:(List Int)):Option ((List Cell)×Int):=
 Option.bind (Ej N p0) fun q4=>
 if (!q4)=true then
  some ([],0)
 else
  Option.bind (Eh N p0) fun q10=>
  Option.bind (FF N q10 p1 p2) fun q12=>
  Option.bind (Ej N q12.2) fun q15=>
  if (!q15)=true then
   some ([],0)
  else
   some (q12.2,q12.1)
def DA (s1:(List Cell)):Nat→Int→Option (Int)
 | 0,_=>none
 | n+1,n3=>
  Option.bind (
   if (decide (0 < n3))=true then
    Option.bind (Sh.get s1 (Sh.w (n3 - 1))) fun c13=>
    some (decide (c13.count=0))
   else
    some false
  ) fun t9=>
  if t9=true then
   DA s1 n (Sh.w (n3 - 1))
  else
   some n3
def FT (N:Nat) (s1:(List Cell)):Option ((List Cell)):=
 Option.bind (DA s1 N (Sh.len s1)) fun n4=>
 Option.bind (Sh.hi s1 n4) fun l6=>
 some l6
def B9 :Nat→(List Cell)→(List Int)→Option ((List Cell))
 | 0,_,_=>none
 | n+1,l3,l4=>
  if (decide (0 < (Sh.len l4)))=true then
   Option.bind (Sh.get l4 (Sh.w ((Sh.len l4) - 1))) fun c12=>
   Option.bind (C4 l3 c12) fun q13=>
   Option.bind (Sh.hi l4 (Sh.w ((Sh.len l4) - 1))) fun l15=>
   if (!q13.2)=true then
    B9  n l3 l15
   else
    Option.bind (Sh.get l3 q13.1) fun c22=>
    Option.bind (Sh.get (Sh.put l3 q13.1 (Cell.mk (Sh.w (c22.count - 1)) c22.tag c22.fields)) q13.1) fun c24=>
    if (decide (c24.count=0))=true then
     Option.bind (Sh.app l15 c24.fields 8) fun l27=>
     B9  n (Sh.put (Sh.put l3 q13.1 (Cell.mk (Sh.w (c22.count - 1)) c22.tag c22.fields)) q13.1 (Cell.mk 0 0 [])) l27
    else
     B9  n (Sh.put l3 q13.1 (Cell.mk (Sh.w (c22.count - 1)) c22.tag c22.fields)) l15
  else
   some l3
def FW (N:Nat) (s1:(List Cell)) (p1:Int):Option ((List Cell)):=
 Option.bind (B9  N s1 [p1]) fun l5=>
 Option.bind (FT N l5) fun q7=>
 some q7
def Ht (N:Nat) (p0:(List Cell)) (p1:Int):Option ((List Cell)×Bool):=
 Option.bind (CK N p0) fun q3=>
 Option.bind (
  if (!q3.2)=true then
   some true
  else
   Option.bind (DK p0 p1) fun q28=>
   some (!q28)
 ) fun t6=>
 if t6=true then
  some ([],false)
 else
  Option.bind (Eh N p0) fun q11=>
  Sh.cont (
   Option.bind (C4 p0 p1) fun q17=>
   if q17.2=true then
    Option.bind (Sh.get p0 q17.1) fun c22=>
    Option.bind (Sh.get q3.1 q17.1) fun c23=>
    if (decide (c22.count=c23))=true then
     some (Sum.inl ([],false))
    else
     Option.bind (FW N q11 p1) fun q26=>
     some (Sum.inr q26)
   else
    some (Sum.inr q11)
  ) (id) fun l13=>
  some (l13,true)
def Cp (p0:(List Int)) (p1:Int):Nat→Int→Option ((Bool) ⊕ (Unit))
 | 0,_=>none
 | n+1,i4=>
  if (decide (i4 < (Sh.len p0)))=true then
   Option.bind (Sh.get p0 i4) fun c12=>
   if (decide (c12=p1))=true then
    some (Sum.inl true)
   else
    Cp p0 p1 n (Sh.w (i4+1))
  else
   some (Sum.inr ())
def Fw (N:Nat) (p0:(List Int)) (p1:Int):Option (Bool):=
 Sh.cont (Cp p0 p1 N 0) (id) fun ()=>
 some false
end RC


namespace RC
def Cm (p0:(List Int)) (p1:Int):Nat→Int→Option ((Bool) ⊕ (Unit))
 | 0,_=>none
 | n+1,i4=>
  if (decide (i4 < (Sh.len p0)))=true then
   Option.bind (Sh.get p0 i4) fun c12=>
   if (decide (c12=p1))=true then
    some (Sum.inl true)
   else
    Cm p0 p1 n (Sh.w (i4+1))
  else
   some (Sum.inr ())
def FD (N:Nat) (p0:(List Int)) (p1:Int):Option (Bool):=
 Sh.cont (Cm p0 p1 N 0) (id) fun ()=>
 some false
def BS (p0:BK):Nat→Int→Option ((Bool) ⊕ (Unit))
 | 0,_=>none
 | n+1,i8=>
  if (decide (i8 < (Sh.len p0.cells)))=true then
   Option.bind (Sh.get p0.cells i8) fun c16=>
   if (decide (c16.count < 0))=true then
    some (Sum.inl false)
   else
    BS p0 n (Sh.w (i8+1))
  else
   some (Sum.inr ())
def BQ (N:Nat) (p0:BK):Nat→Int→Option ((Bool) ⊕ (Unit))
 | 0,_=>none
 | n+1,i4=>
  if (decide (i4 < (Sh.len p0.pending)))=true then
   Option.bind (Sh.get p0.pending i4) fun c24=>
   Option.bind (
    Option.bind (Cn c24 0 (Sh.w ((Sh.len p0.cells) - 1))) fun q30=>
    if (!q30)=true then
     some true
    else
     Option.bind (Sh.get p0.cells c24) fun c32=>
     if (!decide (c32.count=0))=true then
      some true
     else
      Option.bind (Sh.sl p0.pending 0 i4) fun l34=>
      Option.bind (FD N l34 c24) fun q35=>
      some q35
   ) fun t26=>
   if t26=true then
    some (Sum.inl false)
   else
    BQ N p0 n (Sh.w (i4+1))
  else
   some (Sum.inr ())
def Dg (N:Nat) (p0:BK):Option (Bool):=
 Sh.cont (BQ N p0 N 0) (id) fun ()=>
 Sh.cont (BS p0 N 0) (id) fun ()=>
 some true
def Bz (p0:BK):Nat→Int→(List Cell)→Option ((List Cell))
 | 0,_,_=>none
 | n+1,i6,l7=>
  if (decide (i6 < (Sh.len p0.pending)))=true then
   Option.bind (Sh.get p0.pending i6) fun c15=>
   Option.bind (Sh.get l7 c15) fun c16=>
   Bz p0 n (Sh.w (i6+1)) (Sh.put l7 c15 (Cell.mk 1 c16.tag c16.fields))
  else
   some l7
def C2 (N:Nat) (p0:BK):Option ((List Cell)):=
 Option.bind (B8 N p0.cells) fun q3=>
 Option.bind (Bz p0 N 0 q3) fun l8=>
 some l8
def Bn (p0:BK) (q10:(List Int)):Nat→Int→Option ((Bool) ⊕ (Unit))
 | 0,_=>none
 | n+1,i13=>
  if (decide (i13 < (Sh.len p0.pending)))=true then
   Option.bind (Sh.get p0.pending i13) fun c21=>
   Option.bind (Sh.get q10 c21) fun c22=>
   if (!decide (c22=0))=true then
    some (Sum.inl false)
   else
    Bn p0 q10 n (Sh.w (i13+1))
  else
   some (Sum.inr ())
def Cx (N:Nat) (p0:BK):Option (Bool):=
 Option.bind (
  Option.bind (Dg N p0) fun q27=>
  if (!q27)=true then
   some true
  else
   Option.bind (C2 N p0) fun q29=>
   Option.bind (CA N q29) fun q30=>
   some (!q30)
 ) fun t4=>
 if t4=true then
  some false
 else
  Option.bind (C2 N p0) fun q9=>
  Option.bind (C3 N q9) fun q10=>
  Sh.cont (Bn p0 q10 N 0) (id) fun ()=>
  some true
def Cw (N:Nat) (p0:BK):Option (Bool):=
 Option.bind (Cx N p0) fun q3=>
 some q3
def DV (s0_0:(List Int)) (p0:Int):Option (Bool):=
 Option.bind (Sh.get s0_0 p0) fun c3=>
 some (decide (0 < c3))
def A4 (s0_0:(List Int)) (p0:(List Int)):Nat→Int→Option ((Int) ⊕ (Unit))
 | 0,_=>none
 | n+1,t4=>
  if (decide (t4 < (Sh.len p0)))=true then
   Option.bind (Sh.get p0 t4) fun c13=>
   Option.bind (DV s0_0 c13) fun q14=>
   if q14=true then
    some (Sum.inl t4)
   else
    A4 s0_0 p0 n (Sh.w (t4+1))
  else
   some (Sum.inr ())
def Cf (N:Nat) (s0_0:(List Int)) (p0:(List Int)):Option (Int):=
 Sh.cont (A4 s0_0 p0 N 0) (id) fun ()=>
 some (-1)
def CR (N:Nat) (s0_0:(List Int)) (p0:(List Int)):Option (Bool):=
 Option.bind (Cf N s0_0 p0) fun q3=>
 some (decide (0≤q3))
def BU (p0:BK):Nat→Int→(List Cell)→Option (((List Int)×Bool) ⊕ ((List Cell)))
 | 0,_,_=>none
 | n+1,t10,l11=>
  if (decide (t10 < (Sh.len p0.pending)))=true then
   Option.bind (Sh.get p0.pending t10) fun c30=>
   Option.bind (
    if (decide (c30 < 0))=true then
     some true
    else
    if (decide ((Sh.len l11)≤c30))=true then
     some true
    else
     Option.bind (Sh.get l11 c30) fun c40=>
     some (!decide (c40.count=0))
   ) fun t33=>
   if t33=true then
    some (Sum.inl ([],false))
   else
    Option.bind (Sh.get l11 c30) fun c37=>
    BU p0 n (Sh.w (t10+1)) (Sh.put l11 c30 (Cell.mk 1 c37.tag c37.fields))
  else
   some (Sum.inr l11)
def BX (q3:(List Cell)):Nat→Int→Option (((List Int)×Bool) ⊕ (Unit))
 | 0,_=>none
 | n+1,t6=>
  if (decide (t6 < (Sh.len q3)))=true then
   Option.bind (Sh.get q3 t6) fun c46=>
   if (decide (c46.count < 0))=true then
    some (Sum.inl ([],false))
   else
    BX q3 n (Sh.w (t6+1))
  else
   some (Sum.inr ())
def Dx (N:Nat) (p0:BK):Option ((List Int)×Bool):=
 Option.bind (BG p0.cells) fun q3=>
 Sh.cont (BX q3 N 0) (id) fun ()=>
 Sh.cont (BU p0 N 0 q3) (id) fun l12=>
 Option.bind (CK N l12) fun q15=>
 Option.bind (
  if (!q15.2)=true then
   some true
  else
   Option.bind (CR N q15.1 p0.pending) fun q24=>
   some q24
 ) fun t18=>
 if t18=true then
  some ([],false)
 else
  some (q15.1,true)
def Di (N:Nat) (p0:BK):Option (Bool):=
 Option.bind (Dx N p0) fun q3=>
 some q3.2
end RC


namespace RC
def EF (N:Nat) (s0:(List Cell)) (s1:(List Int)):Option (BK):=
 Option.bind (B8 N s0) fun q3=>
 Option.bind (Ca s1) fun q4=>
 some (BK.mk q3 q4)
def Cb (s1:(List Int)):Nat→Int→(List Cell)→Option ((List Cell))
 | 0,_,_=>none
 | n+1,i6,l7=>
  if (decide (i6 < (Sh.len s1)))=true then
   Option.bind (Sh.get s1 i6) fun c15=>
   Option.bind (Sh.get l7 c15) fun c16=>
   Cb s1 n (Sh.w (i6+1)) (Sh.put l7 c15 (Cell.mk 1 c16.tag c16.fields))
  else
   some l7
def DD (N:Nat) (s0:(List Cell)) (s1:(List Int)):Option ((List Cell)):=
 Option.bind (B8 N s0) fun q3=>
 Option.bind (Cb s1 N 0 q3) fun l8=>
 some l8
def Eu (s0:(List Cell)) (s1:(List Int)) (p1:Int):Option (BK):=
 Option.bind (Sh.get s0 (Sh.w (p1 - 1000))) fun c4=>
 Option.bind (
  Option.bind (Sh.get (Sh.put s0 (Sh.w (p1 - 1000)) (Cell.mk (Sh.w (c4.count - 1)) c4.tag c4.fields)) (Sh.w (p1 - 1000))) fun c11=>
  if (decide (c11.count=0))=true then
   Option.bind (Sh.app s1 [Sh.w (p1 - 1000)] 8) fun l13=>
   some l13
  else
   some s1
 ) fun l7=>
 some (BK.mk (Sh.put s0 (Sh.w (p1 - 1000)) (Cell.mk (Sh.w (c4.count - 1)) c4.tag c4.fields)) l7)
def EG (N:Nat) (s0:(List Cell)) (s1:(List Int)) (p1:Int):Option (BK×Bool):=
 Option.bind (
  Option.bind (Cx N (BK.mk s0 s1)) fun q25=>
  if (!q25)=true then
   some true
  else
   Option.bind (DQ s0 p1) fun q27=>
   some (!q27)
 ) fun t4=>
 if t4=true then
  some ((BK.mk [] []),false)
 else
  Option.bind (EF N s0 s1) fun q9=>
  Sh.cont (
   Option.bind (BL p1) fun q16=>
   if q16=true then
    Option.bind (Sh.get s0 (Sh.w (p1 - 1000))) fun c20=>
    Option.bind (DD N s0 s1) fun q21=>
    Option.bind (C3 N q21) fun q22=>
    Option.bind (Sh.get q22 (Sh.w (p1 - 1000))) fun c23=>
    if (decide (c20.count=c23))=true then
     some (Sum.inl ((BK.mk [] []),false))
    else
     Option.bind (Eu q9.cells q9.pending p1) fun q27=>
     some (Sum.inr (q27.cells,q27.pending))
   else
    some (Sum.inr (q9.cells,q9.pending))
  ) (id) fun (l11,l12)=>
  some ((BK.mk l11 l12),true)
def CG (N:Nat) (s0:(List Cell)) (s1:(List Int)):Nat→Int→Option (Int)
 | 0,_=>none
 | n+1,n4=>
  Option.bind (
   if (decide (0 < n4))=true then
    Option.bind (Sh.get s0 (Sh.w (n4 - 1))) fun c15=>
    if (decide (c15.count=0))=true then
     Option.bind (FD N s1 (Sh.w (n4 - 1))) fun q17=>
     some (!q17)
    else
     some false
   else
    some false
  ) fun t11=>
  if t11=true then
   CG N s0 s1 n (Sh.w (n4 - 1))
  else
   some n4
def D5 (N:Nat) (s0:(List Cell)) (s1:(List Int)):Option ((List Cell)):=
 Option.bind (CG N s0 s1 N (Sh.len s0)) fun n5=>
 Option.bind (Sh.hi s0 n5) fun l8=>
 some l8
def CS (c22:Cell):Nat→Int→(List Cell)→(List Int)→Option ((List Cell)×(List Int))
 | 0,_,_,_=>none
 | n+1,k28,l29,l30=>
  if (decide (k28 < (Sh.len c22.fields)))=true then
   Option.bind (
    Option.bind (Sh.get c22.fields k28) fun c42=>
    Option.bind (BL c42) fun q43=>
    if q43=true then
     Option.bind (Eu l29 l30 c42) fun q45=>
     some (q45.cells,q45.pending)
    else
     some (l29,l30)
   ) fun (l38,l39)=>
   CS c22 n (Sh.w (k28+1)) l38 l39
  else
   some (l29,l30)
def Cy (N:Nat) (p1:Int):Nat→Int→(List Cell)→(List Int)→Option ((List Cell)×(List Int))
 | 0,_,_,_=>none
 | n+1,n4,l5,l6=>
  Option.bind (
   if (decide (n4 < p1))=true then
    some (decide (0 < (Sh.len l6)))
   else
    some false
  ) fun t15=>
  if t15=true then
   Option.bind (Sh.get l6 0) fun c20=>
   Option.bind (Sh.get l5 c20) fun c22=>
   Option.bind (Sh.sl l6 1 (Sh.len l6)) fun l24=>
   Option.bind (Ca l24) fun q25=>
   Option.bind (CS c22 N 0 (Sh.put l5 c20 (Cell.mk 0 0 [])) q25) fun (l31,l32)=>
   Cy N p1 n (Sh.w (n4+1)) l31 l32
  else
   some (l5,l6)
def Ey (N:Nat) (s0:(List Cell)) (s1:(List Int)) (p1:Int):Option (BK):=
 Option.bind (Cy N p1 N 0 s0 s1) fun (l7,l8)=>
 Option.bind (D5 N l7 l8) fun q11=>
 some (BK.mk q11 l8)
def CH (N:Nat) (s0_0:(List Int)):Nat→Int→Int→(List Cell)→(List Int)→Option (Int×(List Cell)×(List Int))
 | 0,_,_,_,_=>none
 | n+1,n7,f8,l9,l10=>
  Option.bind (
   if (decide (0 < n7))=true then
    some (decide (0 < (Sh.len l9)))
   else
    some false
  ) fun t18=>
  if t18=true then
   Option.bind (
    Option.bind (Aq s0_0 f8 (Sh.len l9)) fun q27=>
    Option.bind (EG N l9 l10 (Sh.w (1000+q27.1))) fun q28=>
    Option.bind (
     if q28.2=true then
      some (q28.1.cells,q28.1.pending)
     else
      some (l9,l10)
    ) fun (l31,l32)=>
    Option.bind (Aq s0_0 q27.2 5) fun q35=>
    if (decide (q35.1=0))=true then
     Option.bind (Ey N l31 l32 1) fun q37=>
     some (q35.2,q37.cells,q37.pending)
    else
     some (q35.2,l31,l32)
   ) fun (f22,l23,l24)=>
   CH N s0_0 n (Sh.w (n7 - 1)) f22 l23 l24
  else
   some (f8,l9,l10)
def D8 (N:Nat) (s0_0:(List Int)) (s0_1:Int):Option (BK×Int):=
 Option.bind (D4 N s0_0 s0_1 false) fun q3=>
 Option.bind (Aq s0_0 q3.2 7) fun q6=>
 Option.bind (CH N s0_0 N q6.1 q6.2 q3.1 []) fun (f11,l12,l13)=>
 some ((BK.mk l12 l13),f11)
def EX (N:Nat) (s0_0:(List Int)) (s0_1:Int):Option (BK×Int):=
 Option.bind (D8 N s0_0 s0_1) fun q3=>
 Option.bind (
  Option.bind (Aq s0_0 q3.2 20) fun q12=>
  if (decide (q12.1=0))=true then
   Option.bind (Aq s0_0 q12.2 (if (Sh.len q3.1.cells) > 1 then (Sh.len q3.1.cells) else 1)) fun q15=>
   Option.bind (Cl s0_0 q15.2 [0,-1,if (Sh.len q3.1.cells) > 1 then (Sh.len q3.1.cells) else 1,q15.1]) fun q16=>
   Option.bind (Sh.app q3.1.pending [q16.1] 8) fun l17=>
   some (q16.2,l17,q3.1.cells)
  else
  if (decide (q12.1=1))=true then
   if (decide (0 < (Sh.len q3.1.pending)))=true then
    Option.bind (Sh.sl q3.1.pending 1 (Sh.len q3.1.pending)) fun l23=>
    some (q12.2,l23,q3.1.cells)
   else
    some (q12.2,q3.1.pending,q3.1.cells)
  else
  if (decide (q12.1=2))=true then
   if (decide (0 < (Sh.len q3.1.cells)))=true then
    Option.bind (Aq s0_0 q12.2 (if (Sh.len q3.1.cells) > 1 then (Sh.len q3.1.cells) else 1)) fun q29=>
    Option.bind (Sh.get q3.1.cells q29.1) fun c30=>
    Option.bind (Cl s0_0 q29.2 [(1:Int),-1]) fun q31=>
    some (q31.2,q3.1.pending,Sh.put q3.1.cells q29.1 (Cell.mk (Sh.w (c30.count+q31.1)) c30.tag c30.fields))
   else
    some (q12.2,q3.1.pending,q3.1.cells)
  else
   some (q12.2,q3.1.pending,q3.1.cells)
 ) fun (f6,f7,l8)=>
 some ((BK.mk l8 f7),f6)
def C0 (N:Nat) (p0:(List Int)):Option (BK):=
 Option.bind (Ds p0) fun q3=>
 Option.bind (EX N q3.1 q3.2) fun q4=>
 some q4.1
end RC


namespace RC
def A7 (q7:BK):Nat→Int→Option ((Bool) ⊕ (Unit))
 | 0,_=>none
 | n+1,i23=>
  if (decide (i23 < (Sh.len q7.pending)))=true then
   Option.bind (Sh.get q7.pending i23) fun c31=>
   Option.bind (Sh.get q7.cells c31) fun c32=>
   if (!decide (c32.count=0))=true then
    some (Sum.inl false)
   else
    A7 q7 n (Sh.w (i23+1))
  else
   some (Sum.inr ())
def A9 (N:Nat) (i19:Int) (q7:BK):Nat→Int→Option ((Bool) ⊕ (Unit))
 | 0,_=>none
 | n+1,k42=>
  Option.bind (Sh.get q7.cells i19) fun c46=>
  if (decide (k42 < (Sh.len c46.fields)))=true then
   Option.bind (Sh.get c46.fields k42) fun c50=>
   Option.bind (Fw N q7.pending (Sh.w (c50 - 1000))) fun q51=>
   if q51=true then
    some (Sum.inl false)
   else
    A9 N i19 q7 n (Sh.w (k42+1))
  else
   some (Sum.inr ())
def A8 (N:Nat) (q7:BK):Nat→Int→Option ((Bool) ⊕ (Unit))
 | 0,_=>none
 | n+1,i19=>
  if (decide (i19 < (Sh.len q7.cells)))=true then
   Sh.cont (A9 N i19 q7 N 0) (fun x=>Sum.inl x) fun ()=>
   A8 N q7 n (Sh.w (i19+1))
  else
   some (Sum.inr ())
def Cr (N:Nat) (p0:(List Int)):Option (Bool):=
 if (decide (1048576 < (Sh.len p0)))=true then
  some true
 else
  Option.bind (C0 N p0) fun q7=>
  Option.bind (Di N q7) fun q9=>
  Option.bind (
   Option.bind (Cw N q7) fun q54=>
   if (q9 != q54)=true then
    some true
   else
    some (!q9)
  ) fun t12=>
  if t12=true then
   Option.bind (Cw N q7) fun q16=>
   some (q9 == q16)
  else
   Sh.cont (A8 N q7 N 0) (id) fun ()=>
   Sh.cont (A7 q7 N 0) (id) fun ()=>
   some true
end RC

