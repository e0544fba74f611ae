import Derived.Test.YtobjlimoekffaaaGreatGEncToEncB
import Derived.Test.YtobjlimoekffaaaGreatGEncCToGCDefs

namespace RC
open Go
theorem As {n:Int} (h1:-9223372036854775808≤n) (h2:n≤9223372036854775807):Sh.w n=n:=Abs.wrap_i64 h1 h2
theorem AK {α:Type} (l:List α):Sh.len l=(l.length:Int):=rfl
theorem Oc {α:Type} (l:List α) (i:Nat):Sh.get l (i:Int)=l[i]?:=by
 unfold Sh.get;rw[if_pos (Int.natCast_nonneg i)];simp
theorem Ak {α:Type} {l:List α} {i:Nat} {x:α} (h:l[i]?=some x):Sh.get l (i:Int)=some x:=by rw[Oc,h]
theorem L4 {α:Type} {l:List α} {j:Int} (h0:0≤j) (h1:j < l.length) :∃x,Sh.get l j=some x∧l[j.toNat]?=some x:=by
 have h:l[j.toNat]?=some (l[j.toNat]'(by omega)):=List.getElem?_eq_getElem (by omega)
 exact⟨_,by unfold Sh.get;rw[if_pos h0,h],h⟩
theorem Pk {α:Type} {l:List α} {j:Int} (h0:0≤j):Sh.get l j=l[j.toNat]?:=by unfold Sh.get;rw[if_pos h0]
theorem Ec {α:Type} (l:List α) (i:Nat) (x:α):Sh.put l (i:Int) x=l.set i x:=by simp[Sh.put]
theorem Gw {α:Type} (x:α) (n b:Nat) (h:n * b≤281474976710656) (h2:n≤9223372036854775807):Sh.mk x (n:Int) b=some (List.replicate n x):=by
 unfold Sh.mk
 rw[if_pos ⟨by omega,by rw[← Int.natCast_mul];omega,by omega⟩];simp
theorem Eh {α:Type} (l m:List α) (b:Nat) (h:(l.length+m.length) * b≤140737488355328) (h2:l.length+m.length≤9223372036854775807):Sh.app l m b=some (l ++ m):=by
 unfold Sh.app;rw[if_pos ⟨h,h2⟩]
theorem YO {α:Type} {l:List α} {j:Nat} (h:j≤l.length):Sh.hi l (j:Int)=some (l.take j):=by
 unfold Sh.hi;rw[if_pos ⟨by omega,by omega⟩];simp
theorem BM (len:Nat) (P:Nat→Nat→Prop) (h0 :∀n,P (n+1) len) (hs :∀n i,i < len→P n (i+1)→P (n+1) i) :∀{N i:Nat},i≤len→len - i < N→P N i:=by
 intro N i hi hN
 obtain⟨k,hk⟩ :∃k,len - i=k:=⟨_,rfl⟩
 induction k generalizing N i with
 | zero=>
  obtain⟨n,rfl⟩ :∃n,N=n+1:=⟨N - 1,by omega⟩
  have:i=len:=by omega
  subst this;exact h0 n
 | succ k ih=>
  obtain⟨n,rfl⟩ :∃n,N=n+1:=⟨N - 1,by omega⟩
  exact hs n i (by omega) (ih (by omega) (by omega) (by omega))
theorem BR {α:Type} {l:List α} {i:Nat} (h:i < l.length) :∃x,l[i]?=some x∧x∈l:=⟨l[i],List.getElem?_eq_getElem h,List.getElem_mem h⟩
theorem Ew {α:Type} {l:List α} {j:Nat} {x:α} (h:l[j]?=some x):l.take (j+1)=l.take j ++ [x]:=by rw[List.take_add_one,h];rfl
theorem drop_cons {α:Type} {l:List α} {j:Nat} {x:α} (h:l[j]?=some x):l.drop j=x :: l.drop (j+1):=by
 obtain⟨hj,rfl⟩:=List.getElem?_eq_some_iff.1 h
 exact List.drop_eq_getElem_cons hj
def GB (h:List Cell):Nat:=(h.map fun c=>c.fields.length).sum
def CN (h:List Cell):Nat:=h.length+GB h
abbrev XB:List Cell→Prop:=Cb JI
structure Hp (h:List Cell):Prop where
 size:CN h≤1048576
 cells :∀c∈h,JI c
theorem Xq {h:List Cell} {c:Cell} (hc:c∈h):c.fields.length≤GB h:=by
 induction h with
 | nil=>cases hc
 | cons d h ih=>
  simp only[GB,List.map_cons,List.sum_cons] at ih ⊢
  rcases List.mem_cons.1 hc with rfl | hc
  ·omega
  ·have:=ih hc;omega
theorem Hp.len {h:List Cell} (H:Hp h):h.length≤1048576:=by have:=H.size;unfold CN at this;omega
theorem Hp.Ni {h:List Cell} (H:Hp h) {c:Cell} (hc:c∈h):c.fields.length≤1048576:=by have:=H.size;have:=Xq hc;unfold CN at *;omega
theorem Lg (a b:List Cell):GB (a ++ b)=GB a+GB b:=by simp[GB]
theorem NV (h:List Cell) (i:Nat):GB (h.drop i)≤GB h:=by
 have:=Lg (h.take i) (h.drop i)
 rw[List.take_append_drop] at this;omega
end RC


namespace RC
open Go
theorem Fs {l:List Int} {left:Int} (h0:0≤left) (h1:left≤1048576) (hl:l.length≤9223372036854775807):DE l left=some (if left - l.length < 0 then -1 else left - l.length):=by
 unfold DE
 rw[AK,As (by omega) (by omega)]
 by_cases h:left - l.length < 0 <;> simp[h]
theorem V6 {c:Cell} {left:Int} (h0:0≤left) (h1:left≤1048576) (hc:JI c):Ie c left=some (if left - c.fields.length < 0 then -1 else left - c.fields.length):=by
 unfold Ie
 rw[Fs h0 h1 hc.len]
 simp only[Option.bind_some]
 by_cases h:left - c.fields.length < 0 <;> simp[h]
theorem Ss {l:List Int} (hl:l.length≤1048576) {N i:Nat} (hi:i≤l.length) (hN:l.length - i < N) :∀m:List Int,m.length=l.length→m.take i=l.take i→ED l N i m=some l:=by
 refine BM l.length (fun N i=>∀m:List Int,m.length=l.length→m.take i=l.take i→ED l N i m=some l) ?_ ?_ hi hN
 ·intro n m hm ht
  rw[ED,if_neg (by simp[AK])]
  rw[List.take_of_length_le (by omega),List.take_length] at ht
  rw[ht]
 ·intro n i hi ih m hm ht
  obtain⟨x,hx,_⟩:=BR hi
  obtain⟨y,hy,_⟩:=BR (l:=m) (i:=i) (by omega)
  rw[ED,if_pos (by simp[AK];omega),Ak hx]
  simp only[Option.bind_some]
  rw[Ak hy]
  simp only[Option.bind_some]
  rw[As (by omega) (by omega),Ec,show ((i:Int) + 1)=((i+1:Nat):Int) by omega]
  refine ih _ (by simp[hm]) ?_
  rw[Ew hx,Ew (x:=x) (by rw[List.getElem?_set];simp;omega),List.take_set_of_le (Nat.le_refl _),ht]
theorem Fu {l:List Int} (hl:l.length≤1048576) {N:Nat} (hN:2000000≤N):DG N l=some l:=by
 unfold DG
 rw[AK,Gw 0 l.length 8 (by omega) (by omega)]
 simp only[Option.bind_some]
 have:=Ss hl (Nat.zero_le _) (by omega:l.length - 0 < N) (List.replicate l.length 0) (by simp) (by simp)
 rw[show ((0:Nat):Int)=0 from rfl] at this
 rw[this];rfl
theorem Vz {c:Cell} (hl:c.fields.length≤1048576) {N:Nat} (hN:2000000≤N):Ik N c=some c:=by
 unfold Ik
 rw[Fu hl hN];rfl
theorem Rw {h:List Cell} (hl:h.length≤1048576) (hf :∀c∈h,c.fields.length≤1048576) {M:Nat} (hM:2000000≤M) {N i:Nat} (hi:i≤h.length) (hN:h.length - i < N) :∀m:List Cell,m.length=h.length→m.take i=h.take i→De M h N i m=some h:=by
 refine BM h.length (fun N i=>∀m:List Cell,m.length=h.length→m.take i=h.take i→De M h N i m=some h) ?_ ?_ hi hN
 ·intro n m hm ht
  rw[De,if_neg (by simp[AK])]
  rw[List.take_of_length_le (by omega),List.take_length] at ht
  rw[ht]
 ·intro n i hi ih m hm ht
  obtain⟨x,hx,hxm⟩:=BR hi
  obtain⟨y,hy,_⟩:=BR (l:=m) (i:=i) (by omega)
  rw[De,if_pos (by simp[AK];omega),Ak hx]
  simp only[Option.bind_some]
  rw[Vz (hf x hxm) hM]
  simp only[Option.bind_some]
  rw[Ak hy]
  simp only[Option.bind_some]
  rw[As (by omega) (by omega),Ec,show ((i:Int) + 1)=((i+1:Nat):Int) by omega]
  refine ih _ (by simp[hm]) ?_
  rw[Ew hx,Ew (x:=x) (by rw[List.getElem?_set];simp;omega),List.take_set_of_le (Nat.le_refl _),ht]
theorem Us {h:List Cell} (H:Hp h) {N:Nat} (hN:2000000≤N):Hv N h=some h:=by
 have hl:=H.len
 unfold Hv
 rw[AK,Gw _ h.length 40 (by omega) (by omega)]
 simp only[Option.bind_some]
 have:=Rw hl (fun c hc=>H.Ni hc) hN (Nat.zero_le _) (by omega:h.length - 0 < N) (List.replicate h.length ⟨0,0,[]⟩) (by simp) (by simp)
 rw[show ((0:Nat):Int)=0 from rfl] at this
 rw[this];rfl
theorem Sa {l:List Int} (hl:l.length≤1048576) {N i:Nat} (hi:i≤l.length) (hN:l.length - i < N):D8 l l N i=some (Sum.inr ()):=by
 refine BM l.length (fun N i=>D8 l l N i=some (Sum.inr ())) ?_ ?_ hi hN
 ·intro n
  rw[D8,if_neg (by simp[AK])]
 ·intro n i hi ih
  obtain⟨x,hx,_⟩:=BR hi
  rw[D8,if_pos (by simp[AK];omega),Ak hx]
  simp only[Option.bind_some]
  rw[As (by omega) (by omega),show ((i:Int) + 1)=((i+1:Nat):Int) by omega]
  simpa using ih
theorem FR {l:List Int} (hl:l.length≤1048576) {N:Nat} (hN:2000000≤N):B7 N l l=some true:=by
 unfold B7
 have:=Sa hl (Nat.zero_le _) (by omega:l.length - 0 < N)
 rw[show ((0:Nat):Int)=0 from rfl] at this
 simp[this]
theorem WB {c:Cell} (hl:c.fields.length≤1048576) {N:Nat} (hN:2000000≤N):IS N c c=some true:=by
 unfold IS
 simp[FR hl hN]
theorem SE {h:List Cell} (hl:h.length≤1048576) (hf :∀c∈h,c.fields.length≤1048576) {M:Nat} (hM:2000000≤M) {N i:Nat} (hi:i≤h.length) (hN:h.length - i < N):Db M h h N i=some (Sum.inr ()):=by
 refine BM h.length (fun N i=>Db M h h N i=some (Sum.inr ())) ?_ ?_ hi hN
 ·intro n
  rw[Db,if_neg (by simp[AK])]
 ·intro n i hi ih
  obtain⟨x,hx,hxm⟩:=BR hi
  rw[Db,if_pos (by simp[AK];omega),Ak hx]
  simp only[Option.bind_some]
  rw[WB (hf x hxm) hM,As (by omega) (by omega),show ((i:Int) + 1)=((i+1:Nat):Int) by omega]
  simpa using ih
theorem Uq {h:List Cell} (H:Hp h) {N:Nat} (hN:2000000≤N):Hi N h h=some true:=by
 have hl:=H.len
 unfold Hi
 have:=SE hl (fun c hc=>H.Ni hc) hN (Nat.zero_le _) (by omega:h.length - 0 < N)
 rw[show ((0:Nat):Int)=0 from rfl] at this
 simp[this]
end RC


namespace RC
open Go
def En (h:List Cell) (w:Int):Bool:=decide (1000≤w) && (match h[(w - 1000).toNat]? with | some c=>decide (0 < c.count) | none=>false)
def FE (w:Int):Bool:=decide (-999≤w) && decide (w≤999)
def Gx (h:List Cell) (w:Int):Bool:=En h w || FE w
theorem Rg {h:List Cell} {w:Int} {c:Cell} (h1:1000≤w) (hc:h[(w - 1000).toNat]?=some c):En h w=decide (0 < c.count):=by simp[En,h1,hc]
theorem R1 {h:List Cell} {w:Int} (h2:¬ w - 1000 < h.length):En h w=false:=by
 unfold En
 rw[List.getElem?_eq_none (by omega)];simp
theorem Lj {h:List Cell} {w:Int} (h1:¬ 1000≤w):En h w=false:=by simp[En,h1]
theorem G5 {h:List Cell} {w:Int} (hl:En h w=true) :∃(i:Nat) (c:Cell),w=1000+(i:Int)∧(w - 1000).toNat=i∧i < h.length∧h[i]?=some c∧0 < c.count:=by
 unfold En at hl
 simp only[Bool.and_eq_true,decide_eq_true_eq] at hl
 obtain⟨h1,h2⟩:=hl
 split at h2
 ·rename_i c hc
  exact⟨(w - 1000).toNat,c,by omega,rfl,(List.getElem?_eq_some_iff.1 hc).1,hc,by simpa using h2⟩
 ·cases h2
theorem A6 (a b c:Int):At a b c=some (decide (b≤a) && decide (a≤c)):=by
 unfold At
 by_cases h:b≤a <;> simp[h]
theorem LY {h:List Cell} {w:Int} (hl:h.length≤1048576) (hw:E3 w):FF h w=some (En h w):=by
 obtain⟨w1,w2⟩:=hw
 unfold FF Cx
 rw[A6,AK,As (n:=(h.length:Int) - 1) (by omega) (by omega)]
 by_cases h1:-9223372036854775808≤w - 1000
 ·rw[As h1 (by omega)]
  by_cases h2:1000≤w
  ·by_cases h3:w - 1000 < h.length
   ·obtain⟨c,hc,hc2⟩:=L4 (l:=h) (j:=w - 1000) (by omega) h3
    have e:(decide (0≤w - 1000) && decide (w - 1000≤(h.length:Int) - 1))=true:=by
     simp;omega
    simp only[Option.bind_some,e,h2,hc,decide_true,if_true,Rg h2 hc2]
   ·have e:(decide (0≤w - 1000) && decide (w - 1000≤(h.length:Int) - 1))=false:=by
     simp;omega
    simp only[Option.bind_some,e,R1 h3];simp
  ·have e:(decide (0≤w - 1000) && decide (w - 1000≤(h.length:Int) - 1))=false:=by
    simp;omega
   simp only[Option.bind_some,e,Lj h2];simp
 ·have e0:Sh.w (w - 1000)=w - 1000+18446744073709551616:=Abs.TQ (by omega) (by omega)
  have e:(decide (0≤Sh.w (w - 1000)) && decide (Sh.w (w - 1000)≤(h.length:Int) - 1))=false:=by
   rw[e0];simp;omega
  simp only[Option.bind_some,e,Lj (h:=h) (w:=w) (by omega)];simp
theorem WO {h:List Cell} {w:Int} (hl:h.length≤1048576) (hw:E3 w):Iv h w=some (Gx h w):=by
 unfold Iv
 rw[A6,LY hl hw]
 unfold Gx FE
 by_cases h1:-999≤w <;> by_cases h2:w≤999 <;> simp[h1,h2]
theorem J5 {h:List Cell} {w:Int} (hl:h.length≤1048576) (hw:E3 w):FH h w=some (Sh.w (w - 1000),En h w):=by
 obtain⟨w1,w2⟩:=hw
 unfold FH
 by_cases h2:1000≤w
 ·rw[As (n:=w - 1000) (by omega) (by omega),AK]
  by_cases h3:w - 1000 < h.length
  ·obtain⟨c,hc,hc2⟩:=L4 (l:=h) (j:=w - 1000) (by omega) h3
   simp[h2,h3,hc,Rg h2 hc2]
  ·simp[h2,h3,R1 h3]
 ·simp[h2,Lj h2]
theorem Mx (w:Int):GK w=some (FE w):=by
 unfold GK FE
 by_cases h:-999≤w <;> simp[h]
theorem Sx {h:List Cell} {w:Int} (hl:h.length≤1048576) (hw:E3 w):Gc h w=some (Gx h w):=by
 unfold Gc Gx
 rw[J5 hl hw,Mx]
 cases h1:En h w <;> simp[h1]
def Kd (l:List Int):Bool:=l.all fun w=>decide (w=0)
def Ju (h:List Cell) (c:Cell):Bool:=
 !(decide (c.count < -1) || decide (c.tag < 0) || decide (99 < c.tag) || decide (3 < (c.fields.length:Int))) &&
 !((decide (c.count < 1) && !decide (c.tag=0)) || (decide (c.count=0) && decide (0 < (c.fields.length:Int)))) &&
 c.fields.all fun w=>Gx h w && !(decide (c.count < 0) && !decide (w=0))
def Kc (h:List Cell) (c:Cell):Bool:=
 !(decide (3 < (c.fields.length:Int)) || !(decide (-1≤c.count) && decide (c.count≤999999))) &&
 if c.count < 1 then decide (c.tag=0) && Kd c.fields && (decide (c.count < 0) || decide ((c.fields.length:Int)=0)) else (c.fields.all fun w=>Gx h w) && (decide (0≤c.tag) && decide (c.tag≤99))
theorem I3 {α:Type} {p:α→Bool} {l:List α} {i:Nat} {x:α} (h:l[i]?=some x):(l.drop i).all p=(p x && (l.drop (i+1)).all p):=by rw[drop_cons h];rfl
theorem R7 {l:List Int} (hl:l.length≤1048576) {N i:Nat} (hi:i≤l.length) (hN:l.length - i < N):Dg l N i=some (if Kd (l.drop i) then Sum.inr () else Sum.inl false):=by
 refine BM l.length (fun N i=>Dg l N i=some (if Kd (l.drop i) then Sum.inr () else Sum.inl false)) ?_ ?_ hi hN
 ·intro n
  rw[Dg,if_neg (by simp[AK])];simp[Kd]
 ·intro n i hi ih
  obtain⟨x,hx,_⟩:=BR hi
  rw[Dg,if_pos (by simp[AK];omega),Ak hx]
  simp only[Option.bind_some]
  rw[As (by omega) (by omega),show ((i:Int) + 1)=((i+1:Nat):Int) from rfl,ih]
  unfold Kd
  rw[I3 hx]
  by_cases h:x=0 <;> simp[h]
theorem Uw {l:List Int} (hl:l.length≤1048576) {N:Nat} (hN:2000000≤N):Hy N l=some (Kd l):=by
 unfold Hy
 have:=R7 hl (Nat.zero_le _) (by omega:l.length - 0 < N)
 rw[show ((0:Nat):Int)=0 from rfl,List.drop_zero] at this
 rw[this]
 cases Kd l <;> simp
theorem Po {h:List Cell} {c:Cell} (hl:h.length≤1048576) (hf:c.fields.length≤1048576) (hF :∀x∈c.fields,E3 x) {N i:Nat} (hi:i≤c.fields.length) (hN:c.fields.length - i < N) :
  Ck h c N i=some (if (c.fields.drop i).all (fun w=>Gx h w) then Sum.inr () else Sum.inl false):=by
 refine BM c.fields.length (fun N i=>Ck h c N i=some (if (c.fields.drop i).all (fun w=>Gx h w) then Sum.inr () else Sum.inl false)) ?_ ?_ hi hN
 ·intro n
  rw[Ck,if_neg (by simp[AK])];simp
 ·intro n i hi ih
  obtain⟨x,hx,hxm⟩:=BR hi
  rw[Ck,if_pos (by simp[AK];omega),Ak hx]
  simp only[Option.bind_some]
  rw[WO hl (hF x hxm)]
  simp only[Option.bind_some]
  rw[As (by omega) (by omega),show ((i:Int) + 1)=((i+1:Nat):Int) from rfl,ih,I3 hx]
  cases Gx h x <;> simp
theorem Su {h:List Cell} {c:Cell} (hl:h.length≤1048576) (hf:c.fields.length≤1048576) (hF :∀x∈c.fields,E3 x) {N:Nat} (hN:2000000≤N):Gd N h c=some (Kc h c):=by
 unfold Gd Kc
 simp only[A6,AK,Uw hf hN]
 by_cases h1:3 < (c.fields.length:Int)
 ·simp[h1]
 ·by_cases h2:-1≤c.count
  ·by_cases h3:c.count≤999999
   ·by_cases h4:c.count < 1
    ·by_cases h5:c.tag=0
     ·cases h6:Kd c.fields
      ·simp[h1,h2,h3,h4,h5]
      ·by_cases h7:c.count < 0 <;> simp[h1,h2,h3,h4,h5,h7]
     ·simp[h1,h2,h3,h4,h5]
    ·have:=Po hl hf hF (Nat.zero_le _) (by omega:c.fields.length - 0 < N)
     rw[show ((0:Nat):Int)=0 from rfl,List.drop_zero] at this
     simp only[h1,h2,h3,h4,this]
     cases c.fields.all (fun w=>Gx h w) <;> simp
   ·simp[h1,h2,h3]
  ·simp[h1,h2]
def UZ (h:List Cell) (c:Cell) (w:Int):Bool:=Gx h w && !(decide (c.count < 0) && !decide (w=0))
theorem PN {h:List Cell} {c:Cell} (hl:h.length≤1048576) (hf:c.fields.length≤1048576) (hF :∀x∈c.fields,E3 x) {N i:Nat} (hi:i≤c.fields.length) (hN:c.fields.length - i < N) :
  Cq h c N i=some (if (c.fields.drop i).all (UZ h c) then Sum.inr () else Sum.inl false):=by
 refine BM c.fields.length (fun N i=>Cq h c N i=some (if (c.fields.drop i).all (UZ h c) then Sum.inr () else Sum.inl false)) ?_ ?_ hi hN
 ·intro n
  rw[Cq,if_neg (by simp[AK])];simp
 ·intro n i hi ih
  obtain⟨x,hx,hxm⟩:=BR hi
  rw[Cq,if_pos (by simp[AK];omega),Ak hx]
  simp only[Option.bind_some]
  rw[Sx hl (hF x hxm)]
  simp only[Option.bind_some]
  rw[As (by omega) (by omega),show ((i:Int) + 1)=((i+1:Nat):Int) from rfl,ih,I3 hx]
  unfold UZ
  cases Gx h x
  ·simp
  ·by_cases h1:c.count < 0 <;> by_cases h2:x=0 <;> simp[h1,h2]
theorem SZ {h:List Cell} {c:Cell} (hl:h.length≤1048576) (hf:c.fields.length≤1048576) (hF :∀x∈c.fields,E3 x) {N:Nat} (hN:2000000≤N):Gq N h c=some (Ju h c):=by
 have hc:Ju h c=(!(decide (c.count < -1) || decide (c.tag < 0) || decide (99 < c.tag) || decide (3 < (c.fields.length:Int))) &&
   !((decide (c.count < 1) && !decide (c.tag=0)) || (decide (c.count=0) && decide (0 < (c.fields.length:Int)))) && c.fields.all (UZ h c)):=rfl
 rw[hc]
 unfold Gq
 have:=PN hl hf hF (Nat.zero_le _) (by omega:c.fields.length - 0 < N)
 rw[show ((0:Nat):Int)=0 from rfl,List.drop_zero] at this
 simp only[AK,this]
 have key :∀b:Bool,Sh.cont (some (if b=true then (Sum.inr ():Bool ⊕ Unit) else Sum.inl false)) id (fun _=>some true)=some b:=fun b=>by cases b <;> rfl
 by_cases h1:c.count < -1
 ·simp[h1]
 ·by_cases h2:c.tag < 0
  ·simp[h1,h2]
  ·by_cases h3:99 < c.tag
   ·simp[h1,h2,h3]
   ·by_cases h4:3 < (c.fields.length:Int)
    ·simp[h1,h2,h3,h4]
    ·by_cases h5:c.count < 1
     ·by_cases h6:c.tag=0
      ·by_cases h7:c.count=0
       ·by_cases h8:0 < (c.fields.length:Int)
        ·have h8':0 < c.fields.length:=by omega
         simp[h2,h3,h4,h5,h6,h7,h8']
        ·simp only[h1,h2,h3,h4,h5,h6,h7,h8,key];simp
       ·simp only[h1,h2,h3,h4,h5,h6,h7,key];simp
      ·simp[h1,h2,h3,h4,h5,h6]
     ·have h7:¬ c.count=0:=by omega
      simp only[h1,h2,h3,h4,h5,h7,key];simp
theorem TB (h:List Cell) (c:Cell):Kc h c=(Ju h c && decide (c.count≤999999)):=by
 unfold Kc Ju
 by_cases h4:3 < (c.fields.length:Int)
 ·simp[h4]
 ·by_cases hm:c.count≤999999
  ·by_cases hlo:-1≤c.count
   ·have hlo':¬ c.count < -1:=by omega
    by_cases h5:c.count < 1
    ·by_cases h6:c.tag=0
     ·by_cases h7:c.count=0
      ·by_cases h8:0 < (c.fields.length:Int)
       ·have h9:¬ (c.fields.length:Int)=0:=by omega
        have h8':0 < c.fields.length:=by omega
        have h9':¬ c.fields=[]:=fun e=>by rw[e] at h8';simp at h8'
        simp[h4,h6,h7,h8',h9']
       ·have h9:c.fields=[]:=List.eq_nil_of_length_eq_zero (by omega)
        simp[hm,h7,h6,h9,Kd]
      ·have h8:c.count < 0:=by omega
       simp only[h4,hm,hlo,hlo',h5,h6,h7,h8,Kd]
       simp only[decide_true,decide_false,Bool.not_false,Bool.and_true,Bool.true_and,Bool.or_false,Bool.or_true,Bool.and_self,Bool.not_true,if_true,Bool.false_and,Bool.or_self,Bool.true_or]
       have e :∀l:List Int,(l.all fun w=>decide (w=0))=l.all fun w=>Gx h w && !(!decide (w=0)):=fun l=>by
        congr 1
        funext w
        by_cases h0:w=0
        ·subst h0
         have:Gx h 0=true:=by simp[Gx,FE]
         simp[this]
        ·simp[h0]
       rw[e]
       simp
     ·have h6':decide (c.tag=0)=false:=by simpa using h6
      simp[h4,hm,hlo,hlo',h5,h6']
    ·have h7:¬ c.count=0:=by omega
     have h8:¬ c.count < 0:=by omega
     by_cases h9:c.tag < 0
     ·have:¬ 0≤c.tag:=by omega
      simp[h4,hm,hlo,hlo',h5,h7,h8,h9,this]
     ·have h9':0≤c.tag:=by omega
      by_cases h10:99 < c.tag
      ·have:¬ c.tag≤99:=by omega
       simp[h4,hm,hlo,hlo',h5,h7,h8,h9,h10,this]
      ·have:c.tag≤99:=by omega
       simp[h4,hm,hlo,hlo',h5,h7,h8,h9,h9',h10,this]
   ·have:c.count < -1:=by omega
    simp[h4,hlo,this]
  ·simp[hm]
end RC


namespace RC
open Go
def rowOf {α:Type} (n:Nat) (f:Nat→α):List α:=(List.range n).map f
theorem FC {α:Type} {n:Nat} {f:Nat→α}:(rowOf n f).length=n:=by simp[rowOf]
theorem Bd {α:Type} {n:Nat} {f:Nat→α} {j:Nat} (h:j < n):(rowOf n f)[j]?=some (f j):=by simp[rowOf,h]
theorem Bj {α:Type} {n:Nat} {f g:Nat→α} (h :∀j,j < n→f j=g j):rowOf n f=rowOf n g:=List.map_congr_left fun j hj=>h j (List.mem_range.1 hj)
theorem FA {α:Type} {n:Nat} {f:Nat→α} {j:Nat} {v:α}:(rowOf n f).set j v=rowOf n (fun k=>if k=j then v else f k):=by
 apply List.ext_getElem?
 intro k
 rw[List.getElem?_set]
 by_cases hk:k < n
 ·rw[Bd hk,Bd hk,FC]
  by_cases e:j=k
  ·subst e;simp[hk]
  ·have e':¬ k=j:=fun h=>e h.symm
   simp[e,e']
 ·rw[List.getElem?_eq_none (by rw[FC];omega),List.getElem?_eq_none (by rw[FC];omega),FC]
  by_cases e:j=k
  ·subst e;simp[hk]
  ·simp[e]
theorem Ed {α:Type} (n:Nat) (x:α):List.replicate n x=rowOf n (fun _=>x):=by
 apply List.ext_getElem?
 intro k
 by_cases hk:k < n
 ·rw[Bd hk];simp[hk]
 ·rw[List.getElem?_eq_none (by simp;omega),List.getElem?_eq_none (by rw[FC];omega)]
def NY (h:List Cell) (j:Nat) (w:Int):Bool:=En h w && decide ((w - 1000).toNat=j)
def Fw (h:List Cell) (ws:List Int) (j:Nat):Nat:=ws.countP (NY h j)
def E5 (h l:List Cell) (j:Nat):Nat:=(l.map fun c=>Fw h c.fields j).sum
theorem PE (h:List Cell) (j:Nat):Fw h [] j=0:=rfl
theorem Xo (h:List Cell) (x:Int) (ws:List Int) (j:Nat):Fw h (x :: ws) j=(if NY h j x then 1 else 0) + Fw h ws j:=by
 unfold Fw;rw[List.countP_cons];omega
theorem II {h:List Cell} {ws:List Int} {i:Nat} {x:Int} (hx:ws[i]?=some x) (j:Nat):Fw h (ws.drop i) j=(if NY h j x then 1 else 0) + Fw h (ws.drop (i+1)) j:=by rw[drop_cons hx,Xo]
theorem UB (h:List Cell) (ws:List Int) (j:Nat):Fw h ws j≤ws.length:=List.countP_le_length
theorem Mp {h l:List Cell} {i:Nat} {c:Cell} (hc:l[i]?=some c) (j:Nat):E5 h (l.drop i) j=Fw h c.fields j+E5 h (l.drop (i+1)) j:=by rw[drop_cons hc];simp[E5]
theorem Th (h l:List Cell) (j:Nat):E5 h l j≤GB l:=by
 induction l with
 | nil=>simp[E5]
 | cons c l ih=>
  have:=UB h c.fields j
  simp only[E5,GB,List.map_cons,List.sum_cons] at ih ⊢
  omega
theorem Wz {h:List Cell} {j:Nat} {x:Int} (hh:NY h j x=true):En h x=true∧(x - 1000).toNat=j:=by
 unfold NY at hh;simpa using hh
theorem Mt {h:List Cell} {j:Nat} {x:Int} (hl:En h x=false):NY h j x=false:=by simp[NY,hl]
theorem O1 {h:List Cell} {j:Nat} {x:Int} (hl:En h x=true):NY h j x=decide ((x - 1000).toNat=j):=by simp[NY,hl]
theorem VN {h:List Cell} {c:Cell} {i:Nat} (hc:h[i]?=some c) (hl:h.length≤1048576) (hf:c.fields.length≤1048576) (hF :∀x∈c.fields,E3 x) {N k:Nat} (hk:k≤c.fields.length) (hN:c.fields.length - k < N) :
  ∀f:Nat→Int,(∀j,0≤f j∧f j≤1048576+k)→D7 i h N k (rowOf h.length f)=some (rowOf h.length fun j=>f j+Fw h (c.fields.drop k) j):=by
 refine BM c.fields.length (fun N k=>∀f:Nat→Int,(∀j,0≤f j∧f j≤1048576+k)→D7 i h N k (rowOf h.length f)=some (rowOf h.length fun j=>f j+Fw h (c.fields.drop k) j)) ?_ ?_ hk hN
 ·intro n f _
  rw[D7,Ak hc]
  simp only[Option.bind_some]
  rw[if_neg (by simp[AK])]
  simp[PE]
 ·intro n k hk ih f hb
  obtain⟨x,hx,hxm⟩:=BR hk
  rw[D7,Ak hc]
  simp only[Option.bind_some]
  rw[if_pos (by simp[AK];omega),Ak hx]
  simp only[Option.bind_some]
  rw[LY hl (hF x hxm)]
  simp only[Option.bind_some]
  rw[As (n:=(k:Int) + 1) (by omega) (by omega),show ((k:Int) + 1)=((k+1:Nat):Int) from rfl]
  cases hlv:En h x
  ·simp only[Bool.false_eq_true,if_false,Option.bind_some]
   rw[ih f (fun j=>⟨(hb j).1,by have:=(hb j).2;omega⟩)]
   congr 1
   refine Bj fun j _=>?_
   rw[II hx,Mt hlv];simp
  ·obtain⟨q,c',h1,h2,h3,_⟩:=G5 hlv
   have e1:x - 1000=(q:Int):=by omega
   simp only[if_true]
   rw[As (n:=x - 1000) (by omega) (by omega),e1,Ak (Bd h3)]
   simp only[Option.bind_some]
   have hbq:=hb q
   rw[As (by omega) (by omega),Ec,FA]
   rw[ih _ (fun j=>by
    by_cases e:j=q
    ·simp only[e,if_true];omega
    ·simp only[e,if_false];have:=hb j;omega)]
   congr 1
   refine Bj fun j _=>?_
   rw[II hx,O1 hlv,h2]
   by_cases e:j=q
   ·subst e;simp;omega
   ·have e':¬ q=j:=fun h=>e h.symm
    simp[e,e']
theorem U3 {h:List Cell} (H:Hp h) {M:Nat} (hM:2000000≤M) {N i:Nat} (hi:i≤h.length) (hN:h.length - i < N) :
  ∀f:Nat→Int,(∀j,0≤f j∧f j+E5 h (h.drop i) j≤1048576)→EC M h N i (rowOf h.length f)=some (rowOf h.length fun j=>f j+E5 h (h.drop i) j):=by
 have hl:=H.len
 refine BM h.length (fun N i=>∀f:Nat→Int,(∀j,0≤f j∧f j+E5 h (h.drop i) j≤1048576)→EC M h N i (rowOf h.length f)=some (rowOf h.length fun j=>f j+E5 h (h.drop i) j)) ?_ ?_ hi hN
 ·intro n f _
  rw[EC,if_neg (by simp[AK])]
  simp[E5]
 ·intro n i hi ih f hb
  obtain⟨c,hc,hcm⟩:=BR hi
  have hfl:=H.Ni hcm
  have:=VN hc hl hfl (H.cells c hcm).fields (Nat.zero_le _) (by omega:c.fields.length - 0 < M) f (fun j=>⟨(hb j).1,by have:=(hb j).2;omega⟩)
  rw[show ((0:Nat):Int)=0 from rfl,List.drop_zero] at this
  rw[EC,if_pos (by simp[AK];omega),this]
  simp only[Option.bind_some]
  rw[As (by omega) (by omega),show ((i:Int) + 1)=((i+1:Nat):Int) from rfl,ih]
  ·congr 1
   refine Bj fun j _=>?_
   rw[Mp hc];omega
  ·intro j
   have:=hb j
   rw[Mp hc] at this
   omega
def refs (h:List Cell):List Int:=rowOf h.length fun j=>(E5 h h j:Int)
theorem SC {h:List Cell} (H:Hp h) {N:Nat} (hN:2000000≤N):HO N h=some (refs h):=by
 have hl:=H.len
 unfold HO
 rw[AK,Gw _ h.length 8 (by omega) (by omega),Ed]
 simp only[Option.bind_some]
 have:=U3 H hN (Nat.zero_le _) (by omega:h.length - 0 < N) (fun _=>0) (fun j=>⟨by omega,by
  have h1:=Th h (h.drop 0) j
  have h2:=NV h 0
  have h3:=H.size
  unfold CN at h3;omega⟩)
 rw[show ((0:Nat):Int)=0 from rfl,List.drop_zero] at this
 rw[this]
 simp[refs]
theorem WK {h:List Cell} {c:Cell} (hl:h.length≤1048576) (hf:c.fields.length≤1048576) (hF :∀x∈c.fields,E3 x) {N k:Nat} (hk:k≤c.fields.length) (hN:c.fields.length - k < N) :
  ∀f:Nat→Int,(∀j,0≤f j∧f j≤1048576+k)→B9 c h N k (rowOf h.length f)=some (rowOf h.length fun j=>f j+Fw h (c.fields.drop k) j):=by
 refine BM c.fields.length (fun N k=>∀f:Nat→Int,(∀j,0≤f j∧f j≤1048576+k)→B9 c h N k (rowOf h.length f)=some (rowOf h.length fun j=>f j+Fw h (c.fields.drop k) j)) ?_ ?_ hk hN
 ·intro n f _
  rw[B9,if_neg (by simp[AK])]
  simp[PE]
 ·intro n k hk ih f hb
  obtain⟨x,hx,hxm⟩:=BR hk
  rw[B9,if_pos (by simp[AK];omega),Ak hx]
  simp only[Option.bind_some]
  rw[J5 hl (hF x hxm)]
  simp only[Option.bind_some]
  rw[As (n:=(k:Int) + 1) (by omega) (by omega),show ((k:Int) + 1)=((k+1:Nat):Int) from rfl]
  cases hlv:En h x
  ·simp only[Bool.false_eq_true,if_false,Option.bind_some]
   rw[ih f (fun j=>⟨(hb j).1,by have:=(hb j).2;omega⟩)]
   congr 1
   refine Bj fun j _=>?_
   rw[II hx,Mt hlv];simp
  ·obtain⟨q,c',h1,h2,h3,_⟩:=G5 hlv
   have e1:x - 1000=(q:Int):=by omega
   simp only[if_true]
   rw[As (n:=x - 1000) (by omega) (by omega),e1,Ak (Bd h3)]
   simp only[Option.bind_some]
   have hbq:=hb q
   rw[As (by omega) (by omega),Ec,FA]
   rw[ih _ (fun j=>by
    by_cases e:j=q
    ·simp only[e,if_true];omega
    ·simp only[e,if_false];have:=hb j;omega)]
   congr 1
   refine Bj fun j _=>?_
   rw[II hx,O1 hlv,h2]
   by_cases e:j=q
   ·subst e;simp;omega
   ·have e':¬ q=j:=fun h=>e h.symm
    simp[e,e']
theorem V2 {h:List Cell} (H:Hp h) {M:Nat} (hM:2000000≤M) {N i:Nat} (hi:i≤h.length) (hN:h.length - i < N) :
  ∀f:Nat→Int,(∀j,0≤f j∧f j+E5 h (h.drop i) j≤1048576)→CI M h N i (rowOf h.length f)=some (if (h.drop i).all (Ju h) then Sum.inr (rowOf h.length fun j=>f j+E5 h (h.drop i) j) else Sum.inl ([],false)):=by
 have hl:=H.len
 refine BM h.length (fun N i=>∀f:Nat→Int,(∀j,0≤f j∧f j+E5 h (h.drop i) j≤1048576)→CI M h N i (rowOf h.length f)=some (if (h.drop i).all (Ju h) then Sum.inr (rowOf h.length fun j=>f j+E5 h (h.drop i) j) else Sum.inl ([],false))) ?_ ?_ hi hN
 ·intro n f _
  rw[CI,if_neg (by simp[AK])]
  simp[E5]
 ·intro n i hi ih f hb
  obtain⟨c,hc,hcm⟩:=BR hi
  have hfl:=H.Ni hcm
  rw[CI,if_pos (by simp[AK];omega),Ak hc]
  simp only[Option.bind_some]
  rw[SZ hl hfl (H.cells c hcm).fields hM,I3 hc]
  simp only[Option.bind_some]
  cases hv:Ju h c
  ·simp
  ·simp only[Bool.not_true,Bool.false_eq_true,if_false,Bool.true_and]
   have:=WK hl hfl (H.cells c hcm).fields (Nat.zero_le _) (by omega:c.fields.length - 0 < M) f (fun j=>⟨(hb j).1,by have:=(hb j).2;omega⟩)
   rw[show ((0:Nat):Int)=0 from rfl,List.drop_zero] at this
   rw[this]
   simp only[Option.bind_some]
   rw[As (by omega) (by omega),show ((i:Int) + 1)=((i+1:Nat):Int) from rfl,ih]
   ·have e:(rowOf h.length fun j=>f j+(Fw h c.fields j:Int) + (E5 h (h.drop (i+1)) j:Int))=rowOf h.length fun j=>f j+(E5 h (h.drop i) j:Int):=Bj fun j _=>by rw[Mp hc];omega
    rw[e]
   ·intro j
    have:=hb j
    rw[Mp hc] at this
    omega
def R6 (p:Nat→Bool):Nat→Nat→Bool
 | 0,_=>true
 | k+1,i=>p i && R6 p k (i+1)
def Lp (p:Nat→Bool) (n i:Nat):Bool:=R6 p (n - i) i
theorem P4 (p:Nat→Bool) (n:Nat):Lp p n n=true:=by simp[Lp,R6]
theorem Nm {p:Nat→Bool} {n i:Nat} (h:i < n):Lp p n i=(p i && Lp p n (i+1)):=by
 unfold Lp
 obtain⟨k,hk⟩ :∃k,n - i=k+1:=⟨n - i - 1,by omega⟩
 rw[hk,show n - (i+1)=k by omega];rfl
theorem Mw {p:Nat→Bool} {n i:Nat} (h:i≤n):Lp p n i=true↔∀j,i≤j→j < n→p j=true:=by
 obtain⟨k,hk⟩ :∃k,n - i=k:=⟨_,rfl⟩
 induction k generalizing i with
 | zero=>
  have:i=n:=by omega
  subst this
  rw[P4]
  simp;intro j h1 h2;omega
 | succ k ih=>
  rw[Nm (by omega),Bool.and_eq_true,ih (by omega) (by omega)]
  constructor
  ·rintro⟨h1,h2⟩ j h3 h4
   rcases Nat.eq_or_lt_of_le h3 with rfl | h5
   ·exact h1
   ·exact h2 j h5 h4
  ·intro h1
   exact⟨h1 i (Nat.le_refl _) (by omega),fun j h2 h3=>h1 j (by omega) h3⟩
def UL (h:List Cell) (j:Nat):Bool:=match h[j]? with | some c=>!(decide (0 < c.count) && decide (c.count < E5 h h j)) | none=>true
def Tk (h:List Cell) (j:Nat):Bool:=match h[j]? with | some c=>!(decide (0 < c.count) && (decide (c.count < E5 h h j) || decide (999999 < c.count))) | none=>true
theorem UM {h:List Cell} (hl:h.length≤1048576) {N i:Nat} (hi:i≤h.length) (hN:h.length - i < N):Cp h (refs h) N i=some (if Lp (UL h) h.length i then Sum.inr () else Sum.inl false):=by
 refine BM h.length (fun N i=>Cp h (refs h) N i=some (if Lp (UL h) h.length i then Sum.inr () else Sum.inl false)) ?_ ?_ hi hN
 ·intro n
  rw[Cp,if_neg (by simp[AK]),P4];rfl
 ·intro n i hi ih
  obtain⟨c,hc,_⟩:=BR hi
  rw[Cp,if_pos (by simp[AK];omega),Ak hc]
  simp only[Option.bind_some]
  rw[Ak (l:=refs h) (Bd hi),As (by omega) (by omega),show ((i:Int) + 1)=((i+1:Nat):Int) from rfl,ih,Nm hi]
  unfold UL
  rw[hc]
  by_cases h1:0 < c.count <;> by_cases h2:c.count < E5 h h i <;> simp[h1,h2]
def BK (l:List Nat):List Int:=List.map (fun n:Nat=>(n:Int)) l
def Kg (h:List Cell) (i:Nat):List Nat:=(List.range' i (h.length - i)).filter fun j=>decide (E5 h h j=0)
theorem WM (h:List Cell):Kg h h.length=[]:=by simp[Kg]
theorem VD {h:List Cell} {i:Nat} (hi:i < h.length):Kg h i=(if E5 h h i=0 then [i] else []) ++ Kg h (i+1):=by
 unfold Kg
 obtain⟨k,hk⟩ :∃k,h.length - i=k+1:=⟨h.length - i - 1,by omega⟩
 rw[hk,show h.length - (i+1)=k by omega,List.range'_succ,List.filter_cons]
 by_cases h1:E5 h h i=0 <;> simp[h1]
theorem Wf {h:List Cell} (hl:h.length≤1048576) {N i:Nat} (hi:i≤h.length) (hN:h.length - i < N) :∀ws:List Nat,ws.length≤i→
  B8 (refs h) h N i (BK ws)=some (if Lp (Tk h) h.length i then Sum.inr (BK (ws ++ Kg h i)) else Sum.inl ([],false)):=by
 refine BM h.length (fun N i=>∀ws:List Nat,ws.length≤i→B8 (refs h) h N i (BK ws)=some (if Lp (Tk h) h.length i then Sum.inr (BK (ws ++ Kg h i)) else Sum.inl ([],false))) ?_ ?_ hi hN
 ·intro n ws _
  rw[B8,if_neg (by simp[AK]),P4,WM];simp
 ·intro n i hi ih ws hw
  obtain⟨c,hc,_⟩:=BR hi
  rw[B8,if_pos (by simp[AK];omega),Ak hc]
  simp only[Option.bind_some]
  rw[Ak (l:=refs h) (Bd hi),As (by omega) (by omega),show ((i:Int) + 1)=((i+1:Nat):Int) from rfl,Nm hi,VD hi]
  simp only[Option.bind_some]
  have hok:Tk h i=!(decide (0 < c.count) && (decide (c.count < E5 h h i) || decide (999999 < c.count))):=by unfold Tk;rw[hc]
  rw[hok]
  by_cases hbad:0 < c.count∧(c.count < E5 h h i∨999999 < c.count)
  ·obtain⟨h1,h2⟩:=hbad
   by_cases h3:c.count < E5 h h i
   ·simp[h1,h3]
   ·have h4:999999 < c.count:=by rcases h2 with h | h;exact absurd h h3;exact h
    simp[h1,h3,h4]
  ·have hgood:(decide (0 < c.count) && (decide (c.count < E5 h h i) || decide (999999 < c.count)))=false:=by
    by_cases h1:0 < c.count
    ·have h2:¬ c.count < E5 h h i:=fun h=>hbad ⟨h1,.inl h⟩
     have h3:¬ 999999 < c.count:=fun h=>hbad ⟨h1,.inr h⟩
     simp[h2,h3]
    ·simp[h1]
   rw[hgood]
   have e1:(if decide (0 < c.count)=true then (if decide (c.count < (E5 h h i:Int))=true then some true else some (decide (999999 < c.count))) else some false)=some false:=by
    by_cases h1:0 < c.count
    ·have h2:¬ c.count < E5 h h i:=fun h=>hbad ⟨h1,.inl h⟩
     have h3:¬ 999999 < c.count:=fun h=>hbad ⟨h1,.inr h⟩
     simp[h1,h2,h3]
    ·simp[h1]
   rw[e1]
   simp only[Option.bind_some,Bool.false_eq_true,if_false,Bool.not_false,Bool.true_and]
   by_cases hz:E5 h h i=0
   ·have e2:decide ((E5 h h i:Int)=0)=true:=by simpa using hz
    rw[if_pos e2,Eh _ _ _ (by simp[BK];omega) (by simp[BK];omega)]
    simp only[Option.bind_some,Sh.Jr]
    have:=ih (ws ++ [i]) (by simp;omega)
    simp only[BK,List.map_append,List.map_cons,List.map_nil] at this ⊢
    rw[this,if_pos hz]
    simp
   ·have e2:decide ((E5 h h i:Int)=0)=false:=by simp;omega
    rw[if_neg (by rw[e2];simp)]
    simp only[Sh.Jr]
    rw[ih ws (by omega),if_neg hz]
    simp
end RC


namespace RC
open Go
def WF (h:List Cell):Prop:=∀c∈h,∀w∈c.fields,Gx h w=true
def ch (h:List Cell) (i j:Nat):Prop:=∃c w,h[i]?=some c∧w∈c.fields∧En h w=true∧(w - 1000).toNat=j
def Q1 (h:List Cell):Prop:=∃rk:Nat→Nat,∀i j,ch h i j→rk j < rk i
theorem OL {h:List Cell} {i j:Nat} (hc:ch h i j):i < h.length∧j < h.length:=by
 obtain⟨c,w,h1,_,h3,h4⟩:=hc
 obtain⟨q,_,_,h5,h6,_⟩:=G5 h3
 exact⟨(List.getElem?_eq_some_iff.1 h1).1,by omega⟩
theorem Ru {h:List Cell} {i j:Nat} {c:Cell} (hc:h[i]?=some c):0 < Fw h c.fields j↔ch h i j:=by
 unfold Fw
 rw[List.countP_pos_iff]
 constructor
 ·rintro⟨w,h1,h2⟩
  obtain⟨h3,h4⟩:=Wz h2
  exact⟨c,w,hc,h1,h3,h4⟩
 ·rintro⟨c',w,h1,h2,h3,h4⟩
  rw[hc] at h1;cases h1
  exact⟨w,h2,by simp[NY,h3,h4]⟩
def KT (m:Nat→Bool) (n:Nat):Nat:=(List.range n).countP m
theorem K0 (m:Nat→Bool) (n:Nat):KT m n≤n:=by have:=List.countP_le_length (p:=m) (l:=List.range n);simpa [KT] using this
theorem HC (m:Nat→Bool) (n:Nat):KT m (n+1)=KT m n+if m n then 1 else 0:=by
 unfold KT;rw[List.range_succ,List.countP_append];simp[List.countP_cons]
theorem VE {m m':Nat→Bool} {n:Nat} (h :∀j,j < n→m j=m' j):KT m n=KT m' n:=by
 induction n with
 | zero=>rfl
 | succ n ih=>rw[HC,HC,ih (fun j hj=>h j (by omega)),h n (by omega)]
theorem TH {m:Nat→Bool} {n i:Nat} (hi:i < n) (hm:m i=false):KT (fun k=>if k=i then true else m k) n=KT m n+1:=by
 induction n with
 | zero=>omega
 | succ n ih=>
  rw[HC,HC]
  by_cases e:i=n
  ·subst e
   rw[VE (m':=m) (fun j hj=>by simp;omega)]
   simp[hm]
  ·rw[ih (by omega)]
   have:¬ n=i:=fun h=>e h.symm
   simp[this];omega
theorem Jw {m:Nat→Bool} {n:Nat}:KT m n=n↔∀j,j < n→m j=true:=by
 constructor
 ·intro h
  induction n with
  | zero=>intro j hj;omega
  | succ n ih=>
   rw[HC] at h
   have hle:=K0 m n
   have h1:m n=true:=by cases hm:m n <;> simp[hm] at h ⊢;omega
   simp[h1] at h
   intro j hj
   rcases Nat.lt_succ_iff_lt_or_eq.1 hj with h2 | rfl
   ·exact ih h j h2
   ·exact h1
 ·intro h
  induction n with
  | zero=>rfl
  | succ n ih=>rw[HC,ih (fun j hj=>h j (by omega)),h n (by omega)];rfl
def Tz (m:Nat→Bool) (w:Int):Bool:=!(decide (1000≤w)) || m (w - 1000).toNat
theorem P3 {n:Nat} {m:Nat→Bool} {l:List Int} (hn:n≤1048576) (hl:l.length≤1048576) (hw :∀w∈l,1000≤w→w - 1000 < n) {N i:Nat} (hi:i≤l.length) (hN:l.length - i < N) :
  Ci (rowOf n m) l N i=some (if (l.drop i).all (Tz m) then Sum.inr () else Sum.inl false):=by
 refine BM l.length (fun N i=>Ci (rowOf n m) l N i=some (if (l.drop i).all (Tz m) then Sum.inr () else Sum.inl false)) ?_ ?_ hi hN
 ·intro n'
  rw[Ci,if_neg (by simp[AK])];simp
 ·intro n' i hi ih
  obtain⟨x,hx,hxm⟩:=BR hi
  rw[Ci,if_pos (by simp[AK];omega),Ak hx]
  simp only[Option.bind_some]
  rw[As (n:=(i:Int) + 1) (by omega) (by omega),show ((i:Int) + 1)=((i+1:Nat):Int) from rfl,ih,I3 hx]
  unfold Cx Tz
  simp only[Option.bind_some]
  by_cases h1:1000≤x
  ·have h2:=hw x hxm h1
   have e1:x - 1000=(((x - 1000).toNat:Nat):Int):=by omega
   rw[As (n:=x - 1000) (by omega) (by omega)]
   have e2:Sh.get (rowOf n m) (x - 1000)=some (m (x - 1000).toNat):=by rw[Pk (by omega),Bd (by omega)]
   rw[e2]
   cases m (x - 1000).toNat <;> simp[h1]
  ·simp[h1]
theorem S0 {n:Nat} {m:Nat→Bool} {l:List Int} (hn:n≤1048576) (hl:l.length≤1048576) (hw :∀w∈l,1000≤w→w - 1000 < n) {N:Nat} (hN:2000000≤N):GS N (rowOf n m) l=some (l.all (Tz m)):=by
 unfold GS
 have:=P3 (m:=m) hn hl hw (Nat.zero_le _) (by omega:l.length - 0 < N)
 rw[show ((0:Nat):Int)=0 from rfl,List.drop_zero] at this
 rw[this]
 cases l.all (Tz m) <;> rfl
def J (h:List Cell) (m:Nat→Bool) (many:Nat):Prop:=
 (∃rk:Nat→Nat,(∀j,j < h.length→m j=true→rk j < many)∧∀i j,m i=true→ch h i j→m j=true∧rk j < rk i)∧KT m h.length=many
theorem J.mark {h:List Cell} {m:Nat→Bool} {many i:Nat} (hJ:J h m many) (hi:i < h.length) (hm:m i=false) (hall :∀j,ch h i j→m j=true):J h (fun k=>if k=i then true else m k) (many+1):=by
 obtain⟨⟨rk,h1,h2⟩,h3⟩:=hJ
 refine⟨⟨fun k=>if k=i then many else rk k,fun j hj hmj=>?_,fun a b hma hab=>?_⟩,by rw[TH hi hm,h3]⟩
 ·by_cases e:j=i
  ·simp[e]
  ·simp only[e,if_false] at hmj ⊢
   have:=h1 j hj hmj;omega
 ·have hb:=(OL hab).2
  by_cases ea:a=i
  ·subst ea
   have hmb:=hall b hab
   have eb:¬ b=a:=fun e=>by rw[e,hm] at hmb;cases hmb
   simp only[eb,if_false,if_true]
   exact⟨hmb,h1 b hb hmb⟩
  ·simp only[ea,if_false] at hma
   obtain⟨h4,h5⟩:=h2 a b hma hab
   have eb:¬ b=i:=fun e=>by rw[e,hm] at h4;cases h4
   simp only[ea,eb,if_false]
   exact⟨h4,h5⟩
def Uz (h:List Cell) (m:Nat→Bool) (i:Nat):Prop:=∀j,ch h i j→m j=true
theorem S9 {h:List Cell} (hw:WF h) {m:Nat→Bool} {i:Nat} {c:Cell} (hc:h[i]?=some c):c.fields.all (Tz m)=true↔Uz h m i:=by
 rw[List.all_eq_true]
 constructor
 ·rintro h1 j ⟨c',w,h2,h3,h4,h5⟩
  rw[hc] at h2;cases h2
  have:=h1 w h3
  obtain⟨q,_,h6,_⟩:=G5 h4
  have h7:1000≤w:=by omega
  simp only[Tz,h7,decide_true,Bool.not_true,Bool.false_or] at this
  rw[← h5];exact this
 ·intro h1 w h2
  unfold Tz
  by_cases h3:1000≤w
  ·have h4:=hw c (List.mem_of_getElem? hc) w h2
   have h5:FE w=false:=by unfold FE;simp;omega
   unfold Gx at h4
   rw[h5,Bool.or_false] at h4
   have:=h1 _ ⟨c,w,hc,h2,h4,rfl⟩
   simp[this]
  ·simp[h3]
theorem bc {h:List Cell} (hw:WF h) {c:Cell} (hc:c∈h) :∀w∈c.fields,1000≤w→w - 1000 < (h.length:Int):=fun w h2 h3=>by
 have h4:=hw c hc w h2
 have h5:FE w=false:=by unfold FE;simp;omega
 unfold Gx at h4
 rw[h5,Bool.or_false] at h4
 obtain⟨q,_,h6,_,h7,_⟩:=G5 h4
 omega
theorem ZU {h:List Cell} (H:Hp h) (hw:WF h) {M:Nat} (hM:2000000≤M) {N i:Nat} (hi:i≤h.length) (hN:h.length - i < N) :∀(m:Nat→Bool) (many:Nat) (more:Bool),J h m many→
  ∃m' many' more',Cj M h N (many:Int) more i (rowOf h.length m)=some (((many':Nat):Int),more',rowOf h.length m')∧J h m' many'∧many≤many'∧
   (more'=false→more=false∧(∀j,j < h.length→m' j=m j)∧∀j,i≤j→j < h.length→m j=true∨¬ Uz h m j)∧(more'=true→more=true∨many < many'):=by
 have hl:=H.len
 refine BM h.length (fun N i=>∀(m:Nat→Bool) (many:Nat) (more:Bool),J h m many→
  ∃m' many' more',Cj M h N (many:Int) more i (rowOf h.length m)=some (((many':Nat):Int),more',rowOf h.length m')∧J h m' many'∧many≤many'∧
   (more'=false→more=false∧(∀j,j < h.length→m' j=m j)∧∀j,i≤j→j < h.length→m j=true∨¬ Uz h m j)∧(more'=true→more=true∨many < many')) ?_ ?_ hi hN
 ·intro n m many more hJ
  refine⟨m,many,more,?_,hJ,Nat.le_refl _,fun e=>⟨e,fun _ _=>rfl,fun j h1 h2=>by omega⟩,fun e=>.inl e⟩
  rw[Cj,if_neg (by simp[AK])]
 ·intro n i hi ih m many more hJ
  obtain⟨c,hc,hcm⟩:=BR hi
  have hmany:many≤h.length:=by rw[← hJ.2];exact K0 _ _
  rw[Cj,if_pos (by simp[AK];omega),Ak (Bd hi)]
  simp only[Option.bind_some]
  rw[Ak hc]
  simp only[Option.bind_some]
  rw[S0 hl (H.Ni hcm) (bc hw hcm) hM]
  simp only[Option.bind_some]
  rw[As (n:=(i:Int) + 1) (by omega) (by omega),show ((i:Int) + 1)=((i+1:Nat):Int) from rfl]
  cases hmi:m i with
  | true=>
   obtain⟨m',many',more',e1,e2,e3,e4,e5⟩:=ih m many more hJ
   refine⟨m',many',more',by simpa using e1,e2,e3,fun e=>?_,e5⟩
   obtain⟨f1,f2,f3⟩:=e4 e
   refine⟨f1,f2,fun j h1 h2=>?_⟩
   rcases Nat.eq_or_lt_of_le h1 with rfl | h3
   ·exact .inl hmi
   ·exact f3 j h3 h2
  | false=>
   cases ha:c.fields.all (Tz m) with
   | false=>
    obtain⟨m',many',more',e1,e2,e3,e4,e5⟩:=ih m many more hJ
    refine⟨m',many',more',by simpa using e1,e2,e3,fun e=>?_,e5⟩
    obtain⟨f1,f2,f3⟩:=e4 e
    refine⟨f1,f2,fun j h1 h2=>?_⟩
    rcases Nat.eq_or_lt_of_le h1 with rfl | h3
    ·refine .inr fun h4=>?_
     rw[(S9 hw hc).2 h4] at ha;cases ha
    ·exact f3 j h3 h2
   | true=>
    have hJ':=hJ.mark hi hmi ((S9 hw hc).1 ha)
    obtain⟨m',many',more',e1,e2,e3,e4,e5⟩:=ih _ (many+1) true hJ'
    refine⟨m',many',more',?_,e2,by omega,fun e=>?_,fun e=>.inr (by omega)⟩
    ·have ew:Sh.w ((many:Int) + 1)=((many+1:Nat):Int):=by rw[As (by omega) (by omega)];rfl
     simp only[Bool.not_false,if_true,Option.bind_some,ew,Ec,FA]
     exact e1
    ·have:=(e4 e).1;cases this
theorem ZT {h:List Cell} (H:Hp h) (hw:WF h) {M:Nat} (hM:2000000≤M) :∀(d N:Nat) (m:Nat→Bool) (many:Nat),J h m many→h.length - many=d→d+1 < N→
  ∃m' many',Co M h N (many:Int) true (rowOf h.length m)=some ((many':Nat):Int)∧J h m' many'∧∀j,j < h.length→m' j=true∨¬ Uz h m' j:=by
 have hl:=H.len
 intro d
 induction d using Nat.strongRecOn with
 | _ d ih=>
  intro N m many hJ hd hN
  obtain⟨n,rfl⟩ :∃n,N=n+1:=⟨N - 1,by omega⟩
  have hmany:many≤h.length:=by rw[← hJ.2];exact K0 _ _
  obtain⟨m',many',more',e1,e2,e3,e4,e5⟩:=ZU H hw hM (Nat.zero_le _) (by omega:h.length - 0 < M) m many false hJ
  rw[show ((0:Nat):Int)=0 from rfl] at e1
  have hmany':many'≤h.length:=by rw[← e2.2];exact K0 _ _
  rw[Co,if_pos rfl,e1]
  simp only[Option.bind_some]
  cases more' with
  | true=>
   have h1:many < many':=by rcases e5 rfl with h | h;cases h;exact h
   exact ih (h.length - many') (by omega) n m' many' e2 rfl (by omega)
  | false=>
   obtain⟨_,f2,f3⟩:=e4 rfl
   obtain⟨n',rfl⟩ :∃n',n=n' + 1:=⟨n - 1,by omega⟩
   refine⟨m',many',?_,e2,fun j hj=>?_⟩
   ·rw[Co,if_neg (by simp)]
   ·rcases f3 j (Nat.zero_le _) hj with h1 | h1
    ·left;rw[f2 j hj];exact h1
    ·right
     intro h2
     exact h1 fun q hq=>by rw[← f2 q (OL hq).2];exact h2 q hq
theorem Pz {h:List Cell} {m:Nat→Bool} {many:Nat} (hJ:J h m many) (hc :∀j,j < h.length→m j=true∨¬ Uz h m j):many=h.length↔Q1 h:=by
 obtain⟨⟨rk,h1,h2⟩,h3⟩:=hJ
 constructor
 ·intro e
  have hall:=Jw.1 (h3.trans e)
  exact⟨rk,fun i j hij=>(h2 i j (hall i (OL hij).1) hij).2⟩
 ·rintro⟨Zw,hr⟩
  rw[← h3]
  refine Jw.2 fun j hj=>?_
  have key :∀d j,j < h.length→Zw j < d→m j=true:=by
   intro d
   induction d with
   | zero=>intro j _ h4;omega
   | succ d ih=>
    intro j hj hlt
    rcases hc j hj with h4 | h4
    ·exact h4
    ·exact absurd (fun q hq=>ih q (OL hq).2 (by have:=hr j q hq;omega)) h4
  exact key (Zw j+1) j hj (by omega)
theorem Se {h:List Cell} (H:Hp h) (hw:WF h) {N:Nat} (hN:2000000≤N) :∃b,GV N h=some b∧(b=true↔Q1 h):=by
 have hl:=H.len
 unfold GV
 rw[AK,Gw _ h.length 1 (by omega) (by omega),Ed]
 simp only[Option.bind_some]
 have hJ0:J h (fun _=>false) 0:=⟨⟨fun _=>0,fun _ _ h=>(by cases h),fun _ _ h=>(by cases h)⟩,by
  have :∀n,KT (fun _=>false) n=0:=fun n=>by induction n with
   | zero=>rfl
   | succ n ih=>rw[HC,ih];rfl
  exact this _⟩
 obtain⟨m',many',e1,e2,e3⟩:=ZT H hw hN _ N _ 0 hJ0 rfl (by omega)
 rw[show ((0:Nat):Int)=0 from rfl] at e1
 rw[e1]
 simp only[Option.bind_some]
 refine⟨_,rfl,?_⟩
 rw[decide_eq_true_eq,← Pz e2 e3]
 omega
end RC


namespace RC
open Go
def fl (h:List Cell) (i:Nat):List Int:=match h[i]? with | some c=>c.fields | none=>[]
theorem P9 {h:List Cell} {i:Nat} {c:Cell} (hc:h[i]?=some c):fl h i=c.fields:=by simp[fl,hc]
def JP (h:List Cell) (p:Nat→Bool) (j:Nat):Nat→Nat
 | 0=>0
 | n+1=>JP h p j n+if p n then 0 else Fw h (fl h n) j
def un (h:List Cell) (p:Nat→Bool) (j:Nat):Nat:=JP h p j h.length
theorem R2 {h:List Cell} {p:Nat→Bool} {j n:Nat}:JP h p j n=0↔∀i,i < n→p i=false→Fw h (fl h i) j=0:=by
 induction n with
 | zero=>simp[JP]
 | succ n ih=>
  unfold JP
  constructor
  ·intro e i hi hp
   rcases Nat.lt_succ_iff_lt_or_eq.1 hi with h1 | rfl
   ·exact ih.1 (by omega) i h1 hp
   ·simp[hp] at e;omega
  ·intro e
   rw[ih.2 fun i hi=>e i (by omega)]
   cases hp:p n with
   | true=>simp
   | false=>simp[e n (by omega) hp]
theorem Vk {h:List Cell} {p p':Nat→Bool} {j n:Nat} (e :∀i,i < n→p i=p' i):JP h p j n=JP h p' j n:=by
 induction n with
 | zero=>rfl
 | succ n ih=>unfold JP;rw[ih fun i hi=>e i (by omega),e n (by omega)]
theorem TS {h:List Cell} {p:Nat→Bool} {j n x:Nat} (hx:x < n) (hp:p x=false):JP h p j n=JP h (fun k=>if k=x then true else p k) j n+Fw h (fl h x) j:=by
 induction n with
 | zero=>omega
 | succ n ih=>
  unfold JP
  by_cases e:x=n
  ·subst e
   rw[Vk (p':=fun k=>if k=x then true else p k) (n:=x) (fun i hi=>by
    have:¬ i=x:=by omega
    simp[this])]
   simp[hp]
  ·have e':¬ n=x:=fun h=>e h.symm
   rw[ih (by omega)]
   simp only[e',if_false]
   omega
theorem WZ (h:List Cell) (j:Nat) :∀n,n≤h.length→JP h (fun _=>false) j n=E5 h (h.take n) j:=by
 intro n
 induction n with
 | zero=>intro _;simp[JP,E5]
 | succ n ih=>
  intro hn
  obtain⟨c,hc,_⟩:=BR (l:=h) (i:=n) (by omega)
  unfold JP
  rw[ih (by omega),Ew hc,P9 hc]
  simp[E5]
theorem Rn (h:List Cell) (j:Nat):un h (fun _=>false) j=E5 h h j:=by
 unfold un;rw[WZ h j _ (Nat.le_refl _),List.take_length]
theorem ZN (h:List Cell) (p:Nat→Bool) (j:Nat) :∀n,n≤h.length→JP h p j n≤GB (h.take n):=by
 intro n
 induction n with
 | zero=>intro _;simp[JP]
 | succ n ih=>
  intro hn
  obtain⟨c,hc,_⟩:=BR (l:=h) (i:=n) (by omega)
  have h1:=ih (by omega)
  have h2:=UB h c.fields j
  unfold JP
  rw[Ew hc,Lg,P9 hc]
  have:GB [c]=c.fields.length:=by simp[GB]
  split <;> omega
theorem cc (h:List Cell) (p:Nat→Bool) (j:Nat):un h p j≤GB h:=by
 have:=ZN h p j h.length (Nat.le_refl _)
 rwa [List.take_length] at this
theorem V1 {h:List Cell} {c:Cell} (hl:h.length≤1048576) (hf:c.fields.length≤1048576) (hF :∀x∈c.fields,E3 x) {N k:Nat} (hk:k≤c.fields.length) (hN:c.fields.length - k < N) :
  ∀(g:Nat→Nat) (ws:List Nat),(∀j,g j≤1048576)→ws.length≤2097152+k→∃ps:List Nat,CH c h N k (rowOf h.length fun j=>((g j+Fw h (c.fields.drop k) j:Nat):Int)) (BK ws)=some (rowOf h.length fun j=>((g j:Nat):Int),BK (ws ++ ps))∧
   ps.Nodup∧ps.length≤c.fields.length - k∧∀j,j∈ps↔g j=0∧0 < Fw h (c.fields.drop k) j:=by
 refine BM c.fields.length (fun N k=>∀(g:Nat→Nat) (ws:List Nat),(∀j,g j≤1048576)→ws.length≤2097152+k→∃ps:List Nat,CH c h N k (rowOf h.length fun j=>((g j+Fw h (c.fields.drop k) j:Nat):Int)) (BK ws)=some (rowOf h.length fun j=>((g j:Nat):Int),BK (ws ++ ps))∧
   ps.Nodup∧ps.length≤c.fields.length - k∧∀j,j∈ps↔g j=0∧0 < Fw h (c.fields.drop k) j) ?_ ?_ hk hN
 ·intro n g ws _ _
  refine⟨[],?_,List.nodup_nil,by simp,fun j=>by simp[PE]⟩
  rw[CH,if_neg (by simp[AK])]
  simp[PE]
 ·intro n k hk ih g ws hg hws
  obtain⟨x,hx,hxm⟩:=BR hk
  rw[CH,if_pos (by simp[AK];omega),Ak hx]
  simp only[Option.bind_some]
  rw[J5 hl (hF x hxm)]
  simp only[Option.bind_some]
  rw[As (n:=(k:Int) + 1) (by omega) (by omega),show ((k:Int) + 1)=((k+1:Nat):Int) from rfl]
  cases hlv:En h x
  ·simp only[Bool.false_eq_true,if_false,Option.bind_some]
   have e:(rowOf h.length fun j=>((g j+Fw h (c.fields.drop k) j:Nat):Int))=rowOf h.length fun j=>((g j+Fw h (c.fields.drop (k+1)) j:Nat):Int):=Bj fun j _=>by
    rw[II hx,Mt hlv];simp
   rw[e]
   obtain⟨ps,h1,h2,h3,h4⟩:=ih g ws hg (by omega)
   refine⟨ps,h1,h2,by omega,fun j=>?_⟩
   rw[h4 j,II hx,Mt hlv];simp
  ·obtain⟨q,c',h1,h2,h3,_⟩:=G5 hlv
   have e1:x - 1000=(q:Int):=by omega
   have hq:Fw h (c.fields.drop k) q=1+Fw h (c.fields.drop (k+1)) q:=by rw[II hx,O1 hlv,h2];simp
   have hne :∀j,¬ j=q→Fw h (c.fields.drop k) j=Fw h (c.fields.drop (k+1)) j:=fun j e=>by
    have e':¬ q=j:=fun h=>e h.symm
    rw[II hx,O1 hlv,h2];simp[e']
   have hcb:=UB h (c.fields.drop (k+1)) q
   have hcl:(c.fields.drop (k+1)).length≤c.fields.length:=by simp
   have hgq:=hg q
   simp only[if_true]
   rw[As (n:=x - 1000) (by omega) (by omega),e1,Ak (Bd h3)]
   simp only[Option.bind_some]
   rw[As (n:=((g q+Fw h (c.fields.drop k) q:Nat):Int) - 1) (by omega) (by omega),Ec,FA]
   have er:(rowOf h.length fun j=>if j=q then ((g q+Fw h (c.fields.drop k) q:Nat):Int) - 1 else ((g j+Fw h (c.fields.drop k) j:Nat):Int))=rowOf h.length fun j=>((g j+Fw h (c.fields.drop (k+1)) j:Nat):Int):=Bj fun j _=>by
    by_cases e:j=q
    ·subst e;simp only[if_true];omega
    ·simp only[e,if_false];rw[hne j e]
   rw[er,Ak (Bd h3)]
   simp only[Option.bind_some]
   by_cases hz:g q+Fw h (c.fields.drop (k+1)) q=0
   ·have ez:decide (((g q+Fw h (c.fields.drop (k+1)) q:Nat):Int)=0)=true:=by simp;omega
    rw[if_pos ez,Eh _ _ _ (by simp[BK];omega) (by simp[BK];omega)]
    simp only[Option.bind_some]
    have en:BK ws ++ [(q:Int)]=BK (ws ++ [q]):=by simp[BK]
    rw[en]
    obtain⟨ps,f1,f2,f3,f4⟩:=ih g (ws ++ [q]) hg (by simp;omega)
    refine⟨q :: ps,by rw[f1];simp,List.nodup_cons.2 ⟨fun hm=>?_,f2⟩,by simp;omega,fun j=>?_⟩
    ·have:=(f4 q).1 hm;omega
    ·rw[List.mem_cons,f4 j]
     by_cases e:j=q
     ·subst e;rw[hq];constructor
      ·intro _;omega
      ·intro _;exact .inl rfl
     ·rw[hne j e];simp[e]
   ·have ez:decide (((g q+Fw h (c.fields.drop (k+1)) q:Nat):Int)=0)=false:=by simp;omega
    rw[if_neg (by rw[ez];simp)]
    simp only[Option.bind_some]
    obtain⟨ps,f1,f2,f3,f4⟩:=ih g ws hg (by omega)
    refine⟨ps,f1,f2,by omega,fun j=>?_⟩
    rw[f4 j]
    by_cases e:j=q
    ·subst e;rw[hq];constructor
     ·rintro⟨a,b⟩;exact⟨a,by omega⟩
     ·rintro⟨a,b⟩;exact⟨a,by omega⟩
    ·rw[hne j e]
structure KI (h:List Cell) (p:Nat→Bool) (ws:List Nat) (many:Nat):Prop where
 nd:ws.Nodup
 mem :∀x∈ws,x < h.length∧p x=false∧un h p x=0
 all :∀j,j < h.length→un h p j=0→p j=true∨j∈ws
 num:KT p h.length=many
 tm :∃tm:Nat→Nat,(∀j,j < h.length→p j=true→tm j < many)∧∀i j,ch h i j→p j=true→p i=true∧tm i < tm j
theorem WE {ws:List Nat} {n:Nat} (hnd:ws.Nodup) (hm :∀x∈ws,x < n):ws.length≤n:=by
 induction n generalizing ws with
 | zero=>
  cases ws with
  | nil=>simp
  | cons x r=>have:=hm x (by simp);omega
 | succ n ih=>
  by_cases h:n∈ws
  ·have h1:=ih (hnd.erase n) fun x hx=>by
    obtain⟨h2,h3⟩:=hnd.mem_erase_iff.1 hx
    have:=hm x h3;omega
   rw[List.length_erase_of_mem h] at h1;omega
  ·have:=ih hnd fun x hx=>by
    have h1:=hm x hx
    have h2:¬ x=n:=fun e=>h (e ▸ hx)
    omega
   omega
theorem ck {h:List Cell} {p:Nat→Bool} {j i:Nat} (hu:un h p j=0) (hc:ch h i j):p i=true:=by
 obtain⟨c,w,h1,h2,h3,h4⟩:=hc
 cases hp:p i with
 | true=>rfl
 | false=>
  have:=R2.1 hu i (List.getElem?_eq_some_iff.1 h1).1 hp
  rw[P9 h1] at this
  have:=(Ru (j:=j) h1).2 ⟨c,w,h1,h2,h3,h4⟩
  omega
theorem KI.step {h:List Cell} {p:Nat→Bool} {ws ps:List Nat} {many x:Nat} {c:Cell} (hK:KI h p (ws ++ [x]) many) (hc:h[x]?=some c) (hps:ps.Nodup)
  (hmem :∀j,j∈ps↔un h (fun k=>if k=x then true else p k) j=0∧0 < Fw h c.fields j):KI h (fun k=>if k=x then true else p k) (ws ++ ps) (many+1):=by
 obtain⟨hx1,hx2,hx3⟩:=hK.mem x (by simp)
 obtain⟨tm,t1,t2⟩:=hK.tm
 have hset :∀j,un h p j=un h (fun k=>if k=x then true else p k) j+Fw h c.fields j:=fun j=>by
  have:=TS (h:=h) (j:=j) hx1 hx2
  rwa [P9 hc] at this
 have hnd:=hK.nd
 rw[List.nodup_append] at hnd
 obtain⟨hnd1,_,hnd3⟩:=hnd
 have hfresh :∀j∈ps,j < h.length∧¬ j=x∧p j=false∧0 < un h p j:=fun j hj=>by
  obtain⟨h1,h2⟩:=(hmem j).1 hj
  have hch:=(Ru hc).1 h2
  have hpos:0 < un h p j:=by have:=hset j;omega
  have hjx:¬ j=x:=fun e=>by subst e;omega
  refine⟨(OL hch).2,hjx,?_,hpos⟩
  cases hp:p j with
  | false=>rfl
  | true=>have:=(t2 x j hch hp).1;rw[hx2] at this;cases this
 refine⟨?_,fun y hy=>?_,fun j hj hu=>?_,by rw[TH hx1 hx2,hK.num],⟨fun k=>if k=x then many else tm k,fun j hj hp=>?_,fun i j hij hp=>?_⟩⟩
 ·rw[List.nodup_append]
  refine⟨hnd1,hps,fun a ha b hb e=>?_⟩
  subst e
  have h1:=(hK.mem a (by simp[ha])).2.2
  have h2:=(hfresh a hb).2.2.2
  omega
 ·rcases List.mem_append.1 hy with hy | hy
  ·obtain⟨h1,h2,h3⟩:=hK.mem y (by simp[hy])
   have hyx:¬ y=x:=fun e=>hnd3 y hy x (by simp) e
   have:=hset y
   exact⟨h1,by simp[hyx,h2],by omega⟩
  ·obtain⟨h1,h2,h3,_⟩:=hfresh y hy
   exact⟨h1,by simp[h2,h3],((hmem y).1 hy).1⟩
 ·by_cases hjx:j=x
  ·left;simp[hjx]
  ·have hs:=hset j
   rcases Nat.eq_zero_or_pos (Fw h c.fields j) with h0 | h0
   ·rcases hK.all j hj (by omega) with h1 | h1
    ·left;simp[hjx,h1]
    ·right
     rcases List.mem_append.1 h1 with h2 | h2
     ·exact List.mem_append.2 (.inl h2)
     ·simp at h2;exact absurd h2 hjx
   ·right;exact List.mem_append.2 (.inr ((hmem j).2 ⟨hu,h0⟩))
 ·by_cases hjx:j=x
  ·simp[hjx]
  ·simp only[hjx,if_false] at hp ⊢
   have:=t1 j hj hp;omega
 ·by_cases hjx:j=x
  ·subst hjx
   have hpi:=ck hx3 hij
   have hix:¬ i=j:=fun e=>by subst e;rw[hx2] at hpi;cases hpi
   simp only[hix,if_false,if_true]
   exact⟨hpi,t1 i (OL hij).1 hpi⟩
  ·simp only[hjx,if_false] at hp
   obtain⟨h1,h2⟩:=t2 i j hij hp
   have hix:¬ i=x:=fun e=>by subst e;rw[hx2] at h1;cases h1
   simp only[hix,hjx,if_false]
   exact⟨h1,h2⟩
theorem W0 {h:List Cell} (H:Hp h) {M:Nat} (hM:2000000≤M) :∀(d N:Nat) (p:Nat→Bool) (ws:List Nat) (many:Nat),KI h p ws many→h.length - many=d→d < N→
  ∃p' many',CD M h N (many:Int) (rowOf h.length fun j=>((un h p j:Nat):Int)) (BK ws)=some ((many':Nat):Int)∧KI h p' [] many':=by
 have hl:=H.len
 intro d
 induction d with
 | zero=>
  intro N p ws many hK hd hN
  obtain⟨n,rfl⟩ :∃n,N=n+1:=⟨N - 1,by omega⟩
  have hmany:many=h.length:=by have:=K0 p h.length;have:=hK.num;omega
  have hws:ws=[]:=by
   cases ws with
   | nil=>rfl
   | cons x r=>
    obtain⟨h1,h2,_⟩:=hK.mem x (by simp)
    have:=Jw.1 (hK.num.trans hmany) x h1
    rw[h2] at this;cases this
  subst hws
  exact⟨p,many,by rw[CD,if_neg (by simp[AK,BK])],hK⟩
 | succ d ih=>
  intro N p ws many hK hd hN
  obtain⟨n,rfl⟩ :∃n,N=n+1:=⟨N - 1,by omega⟩
  have hmany:many≤h.length:=by have:=K0 p h.length;have:=hK.num;omega
  rcases List.eq_nil_or_concat ws with rfl | ⟨ws,x,rfl⟩
  ·exact⟨p,many,by rw[CD,if_neg (by simp[AK,BK])],hK⟩
  ·rw[List.concat_eq_append] at hK ⊢
   obtain⟨hx1,hx2,hx3⟩:=hK.mem x (by simp)
   obtain⟨c,hc,hcm⟩:=BR hx1
   have hwl:=WE hK.nd (fun y hy=>(hK.mem y hy).1)
   rw[List.length_append,List.length_singleton] at hwl
   have elen:Sh.w (Sh.len (BK (ws ++ [x])) - 1)=(ws.length:Int):=by
    rw[AK]
    have:(BK (ws ++ [x])).length=ws.length+1:=by simp[BK]
    rw[this,As (by omega) (by omega)];omega
   have eget:Sh.get (BK (ws ++ [x])) (ws.length:Int)=some (x:Int):=by
    rw[Oc];simp[BK]
   have ehi:Sh.hi (BK (ws ++ [x])) (ws.length:Int)=some (BK ws):=by
    rw[YO (by simp[BK])]
    congr 1
    simp[BK]
   rw[CD,if_pos (by simp[AK,BK]),elen,eget]
   simp only[Option.bind_some]
   rw[Ak hc,ehi]
   simp only[Option.bind_some]
   have hun :∀j,un h p j=un h (fun k=>if k=x then true else p k) j+Fw h c.fields j:=fun j=>by
    have:=TS (h:=h) (j:=j) hx1 hx2
    rwa [P9 hc] at this
   have hfs:=H.size
   obtain⟨ps,f1,f2,f3,f4⟩:=V1 hl (H.Ni hcm) (H.cells c hcm).fields (Nat.zero_le _) (by have:=H.Ni hcm;omega:c.fields.length - 0 < M) (fun j=>un h (fun k=>if k=x then true else p k) j) ws
    (fun j=>by have:=cc h (fun k=>if k=x then true else p k) j;unfold CN at hfs;omega) (by omega)
   rw[show ((0:Nat):Int)=0 from rfl,List.drop_zero] at f1
   have er:(rowOf h.length fun j=>((un h p j:Nat):Int))=rowOf h.length fun j=>((un h (fun k=>if k=x then true else p k) j+Fw h c.fields j:Nat):Int):=Bj fun j _=>by rw[hun j]
   rw[er,f1]
   simp only[Option.bind_some]
   have ew:Sh.w ((many:Int) + 1)=((many+1:Nat):Int):=by rw[As (by omega) (by omega)];rfl
   rw[ew]
   have hK':=hK.step hc f2 (by rw[List.drop_zero] at f4;exact f4)
   exact ih n _ _ (many+1) hK' (by omega) (by omega)
theorem XV (rk:Nat→Nat) (n:Nat) :∃B,∀j,j < n→rk j≤B:=by
 induction n with
 | zero=>exact⟨0,fun j hj=>by omega⟩
 | succ n ih=>
  obtain⟨B,hB⟩:=ih
  refine⟨max B (rk n),fun j hj=>?_⟩
  rcases Nat.lt_succ_iff_lt_or_eq.1 hj with h1 | rfl
  ·have:=hB j h1;omega
  ·omega
theorem PH {h:List Cell} {p:Nat→Bool} {many:Nat} (hK:KI h p [] many):many=h.length↔Q1 h:=by
 obtain⟨tm,t1,t2⟩:=hK.tm
 constructor
 ·intro e
  have hall:=Jw.1 (hK.num.trans e)
  refine⟨fun k=>h.length - tm k,fun i j hij=>?_⟩
  obtain⟨hi,hj⟩:=OL hij
  obtain⟨_,h2⟩:=t2 i j hij (hall j hj)
  have:=t1 j hj (hall j hj)
  show h.length - tm j < h.length - tm i
  omega
 ·rintro⟨rk,hr⟩
  rw[← hK.num]
  obtain⟨B,hB⟩:=XV rk h.length
  refine Jw.2 fun j hj=>?_
  have key :∀d j,j < h.length→B - rk j < d→p j=true:=by
   intro d
   induction d with
   | zero=>intro j _ h4;omega
   | succ d ih=>
    intro j hj hlt
    cases hp:p j with
    | true=>rfl
    | false=>
     have hu:¬ un h p j=0:=fun e=>by
      rcases hK.all j hj e with h1 | h1
      ·rw[hp] at h1;cases h1
      ·simp at h1
     have :∃i,i < h.length∧p i=false∧¬ Fw h (fl h i) j=0:=by
      refine Classical.byContradiction fun hno=>hu (R2.2 fun i hi hpi=>?_)
      refine Classical.byContradiction fun hne=>hno ⟨i,hi,hpi,hne⟩
     obtain⟨i,hi,hpi,hne⟩:=this
     obtain⟨c,hc,_⟩:=BR hi
     rw[P9 hc] at hne
     have hch:=(Ru (j:=j) hc).1 (by omega)
     have h5:=hr i j hch
     have h6:=hB i hi
     have:=ih i hi (by omega)
     rw[hpi] at this;cases this
  exact key (B - rk j+1) j hj (by omega)
end RC


namespace RC
open Go
def LH (h:List Cell):Bool:=match h[h.length - 1]? with | some c=>decide (c.count=0) | none=>false
structure VH (h:List Cell):Prop where
 last:LH h=false
 cells :∀c∈h,Kc h c=true
 counts :∀j,j < h.length→UL h j=true
 XT:Q1 h
theorem VK {h:List Cell} (hl:h.length≤1048576):(if (decide (0 < (Sh.len h)))=true then Option.bind (Sh.get h (Sh.w ((Sh.len h) - 1))) fun c=>some (decide (c.count=0)) else some false)=some (LH h):=by
 rw[AK]
 unfold LH
 by_cases h0:h.length=0
 ·have:h=[]:=List.eq_nil_of_length_eq_zero h0
  subst this;rfl
 ·obtain⟨c,hc,_⟩:=BR (l:=h) (i:=h.length - 1) (by omega)
  rw[if_pos (by simp;omega),As (by omega) (by omega),show ((h.length:Int) - 1)=((h.length - 1:Nat):Int) by omega,Ak hc,hc]
  rfl
theorem bz {h:List Cell} (hc :∀c∈h,Ju h c=true):WF h:=fun c hcm w hw=>by
 have:=hc c hcm
 unfold Ju at this
 simp only[Bool.and_eq_true] at this
 have h2:=List.all_eq_true.1 this.2 w hw
 simp only[Bool.and_eq_true] at h2
 exact h2.1
theorem Rl {h:List Cell} {c:Cell} (hc:Kc h c=true):Ju h c=true∧c.count≤999999:=by
 rw[TB,Bool.and_eq_true,decide_eq_true_eq] at hc;exact hc
theorem Tr {h:List Cell} (H:Hp h) {M:Nat} (hM:2000000≤M) {N i:Nat} (hi:i≤h.length) (hN:h.length - i < N):Cm M h N i=some (if (h.drop i).all (Kc h) then Sum.inr () else Sum.inl false):=by
 have hl:=H.len
 refine BM h.length (fun N i=>Cm M h N i=some (if (h.drop i).all (Kc h) then Sum.inr () else Sum.inl false)) ?_ ?_ hi hN
 ·intro n
  rw[Cm,if_neg (by simp[AK])];simp
 ·intro n i hi ih
  obtain⟨c,hc,hcm⟩:=BR hi
  rw[Cm,if_pos (by simp[AK];omega),Ak hc]
  simp only[Option.bind_some]
  rw[Su hl (H.Ni hcm) (H.cells c hcm).fields hM,As (by omega) (by omega),show ((i:Int) + 1)=((i+1:Nat):Int) from rfl,ih,I3 hc]
  cases Kc h c <;> simp
theorem Ve {h:List Cell} (H:Hp h) {N:Nat} (hN:2000000≤N) :∃b,El N h=some b∧(b=true↔VH h):=by
 have hl:=H.len
 unfold El
 rw[VK hl]
 simp only[Option.bind_some]
 cases h1:LH h with
 | true=>exact⟨false,by simp,(by simp;intro hv;rw[hv.last] at h1;cases h1)⟩
 | false=>
  have e1:=Tr H hN (Nat.zero_le _) (by omega:h.length - 0 < N)
  rw[show ((0:Nat):Int)=0 from rfl,List.drop_zero] at e1
  simp only[Bool.false_eq_true,if_false]
  rw[e1,SC H hN]
  cases h2:h.all (Kc h) with
  | false=>
   refine⟨false,by simp,?_⟩
   simp only[Bool.false_eq_true,false_iff]
   intro hv
   have:=List.all_eq_true.2 hv.cells
   rw[h2] at this;cases this
  | true=>
   have hcells:=List.all_eq_true.1 h2
   simp only[if_true,Sh.Jr,Option.bind_some]
   have e2:=UM hl (Nat.zero_le _) (by omega:h.length - 0 < N)
   rw[show ((0:Nat):Int)=0 from rfl] at e2
   rw[e2]
   cases h3:Lp (UL h) h.length 0 with
   | false=>
    refine⟨false,by simp,?_⟩
    simp only[Bool.false_eq_true,false_iff]
    intro hv
    have:=(Mw (p:=UL h) (Nat.zero_le _)).2 fun j _ hj=>hv.counts j hj
    rw[h3] at this;cases this
   | true=>
    have hcnt:=(Mw (p:=UL h) (Nat.zero_le _)).1 h3
    obtain⟨b,f1,f2⟩:=Se H (bz fun c hc=>(Rl (hcells c hc)).1) hN
    simp only[if_true,Sh.Jr]
    rw[f1]
    exact⟨b,rfl,f2.trans ⟨fun hr=>⟨h1,hcells,fun j hj=>hcnt j (Nat.zero_le _) hj,hr⟩,fun hv=>hv.XT⟩⟩
theorem UR {h:List Cell} {j:Nat} {c:Cell} (hc:h[j]?=some c):Tk h j=true↔UL h j=true∧(0 < c.count→c.count≤999999):=by
 unfold Tk UL
 rw[hc]
 by_cases h1:0 < c.count <;> by_cases h2:c.count < E5 h h j <;> by_cases h3:999999 < c.count <;> simp[h1,h2,h3] <;> omega
theorem TC (l:List Int) (hl:l.length≤1048576):D2 l=some l:=by
 unfold D2
 rw[Eh _ _ _ (by simp;omega) (by simp;omega)];rfl
theorem U1 {h:List Cell} (H:Hp h) {N:Nat} (hN:2000000≤N) :∃r b,Eg N h=some (r,b)∧(b=true↔VH h)∧(b=true→r=refs h):=by
 have hl:=H.len
 unfold Eg
 rw[VK hl,AK,Gw _ h.length 8 (by omega) (by omega),Ed]
 simp only[Option.bind_some]
 have e1:=V2 H hN (Nat.zero_le _) (by omega:h.length - 0 < N) (fun _=>0) (fun j=>⟨by omega,by
  have h1:=Th h (h.drop 0) j
  have h2:=NV h 0
  have h3:=H.size
  unfold CN at h3;omega⟩)
 rw[show ((0:Nat):Int)=0 from rfl,List.drop_zero] at e1
 rw[e1]
 have er:(rowOf h.length fun j=>(0:Int) + (E5 h h j:Int))=refs h:=Bj fun j _=>by omega
 rw[er]
 cases h2:h.all (Ju h) with
 | false=>
  refine⟨[],false,by simp,?_,by simp⟩
  simp only[Bool.false_eq_true,false_iff]
  intro hv
  have:=List.all_eq_true.2 fun c hc=>(Rl (hv.cells c hc)).1
  rw[h2] at this;cases this
 | true=>
  have hcells:=List.all_eq_true.1 h2
  simp only[if_true,Sh.Jr]
  cases h1:LH h with
  | true=>exact⟨[],false,by simp,(by simp;intro hv;rw[hv.last] at h1;cases h1),by simp⟩
  | false=>
   have hrl:(refs h).length=h.length:=FC
   simp only[Bool.false_eq_true,if_false]
   rw[TC _ (by omega)]
   have e2:=Wf hl (Nat.zero_le _) (by omega:h.length - 0 < N) [] (by simp)
   rw[show ((0:Nat):Int)=0 from rfl,List.nil_append,show BK []=[] from rfl] at e2
   rw[e2]
   simp only[Option.bind_some]
   cases h3:Lp (Tk h) h.length 0 with
   | false=>
    refine⟨[],false,by simp,?_,by simp⟩
    simp only[Bool.false_eq_true,false_iff]
    intro hv
    have:=(Mw (p:=Tk h) (Nat.zero_le _)).2 fun j _ hj=>by
     obtain⟨c,hc,hcm⟩:=BR hj
     exact (UR hc).2 ⟨hv.counts j hj,fun _=>(Rl (hv.cells c hcm)).2⟩
    rw[h3] at this;cases this
   | true=>
    have hcnt:=(Mw (p:=Tk h) (Nat.zero_le _)).1 h3
    simp only[if_true,Sh.Jr]
    have hr0:refs h=rowOf h.length fun j=>((un h (fun _=>false) j:Nat):Int):=Bj fun j _=>by rw[Rn]
    have hK0:KI h (fun _=>false) (Kg h 0) 0:=by
     have hz :∀x,x∈Kg h 0↔x < h.length∧E5 h h x=0:=fun x=>by
      unfold Kg
      rw[List.mem_filter,List.mem_range']
      simp
     refine⟨?_,fun x hx=>?_,fun j hj hu=>?_,?_,⟨fun _=>0,fun _ _ h=>(by cases h),fun _ _ _ h=>(by cases h)⟩⟩
     ·exact List.Nodup.sublist List.filter_sublist List.nodup_range'
     ·obtain⟨h4,h5⟩:=(hz x).1 hx
      exact⟨h4,rfl,by rw[Rn];exact h5⟩
     ·rw[Rn] at hu
      exact .inr ((hz j).2 ⟨hj,hu⟩)
     ·have :∀n,KT (fun _=>false) n=0:=fun n=>by induction n with
       | zero=>rfl
       | succ n ih=>rw[HC,ih];rfl
      exact this _
    obtain⟨p',many',f1,f2⟩:=W0 H hN h.length N _ _ 0 hK0 (by omega) (by omega)
    rw[show ((0:Nat):Int)=0 from rfl,← hr0] at f1
    rw[f1]
    refine⟨refs h,_,rfl,?_,fun _=>rfl⟩
    rw[decide_eq_true_eq]
    have hm:((many':Nat):Int)=(h.length:Int)↔many'=h.length:=by omega
    rw[hm,PH f2]
    constructor
    ·intro hr
     refine⟨h1,fun c hc=>?_,fun j hj=>?_,hr⟩
     ·rw[TB,hcells c hc,Bool.true_and,decide_eq_true_eq]
      obtain⟨j,hj⟩:=List.mem_iff_getElem?.1 hc
      by_cases h4:0 < c.count
      ·exact ((UR hj).1 (hcnt j (Nat.zero_le _) (List.getElem?_eq_some_iff.1 hj).1)).2 h4
      ·omega
     ·obtain⟨c,hc,_⟩:=BR hj
      exact ((UR hc).1 (hcnt j (Nat.zero_le _) hj)).1
    ·exact fun hv=>hv.XT
theorem Y1 {b b':Bool} {p:Prop} (h1:b=true↔p) (h2:b'=true↔p):b=b':=by
 cases b <;> cases b' <;> simp at h1 h2 <;> first | rfl | exact absurd h2 h1 | exact absurd h1 h2
theorem KQ {h:List Cell} (H:Hp h) {N:Nat} (hN:2000000≤N) :∃b r,El N h=some b∧Lm N h=some b∧Eg N h=some (r,b)∧Ge N h=some b∧(b=true↔VH h)∧(b=true→r=refs h):=by
 obtain⟨b,h1,h2⟩:=Ve H hN
 obtain⟨r,b',h3,h4,h5⟩:=U1 H hN
 obtain rfl:=Y1 h2 h4
 exact⟨b,r,h1,by unfold Lm;rw[h1];rfl,h3,by unfold Ge;rw[h3];rfl,h2,h5⟩
theorem Hp.of {h:List Cell} (H:XB h) (hs:CN h≤1048576):Hp h:=⟨hs,H.1⟩
end RC


namespace RC
open Go
def live (h:List Cell):Nat:=h.countP fun c=>decide (0 < c.count)
end RC



namespace RC
open Go
end RC



namespace RC
open Go
def cat (h:List Cell) (j:Nat):Cell:=(h[j]?).getD ⟨0,0,[]⟩
def ct (h:List Cell) (j:Nat):Int:=(cat h j).count
theorem Zj {h:List Cell} {j:Nat} {c:Cell} (hc:h[j]?=some c):cat h j=c:=by simp[cat,hc]
theorem UF {h:List Cell} {j:Nat} (hj:j < h.length):h[j]?=some (cat h j):=by
 obtain⟨c,hc,_⟩:=BR hj
 rw[Zj hc];exact hc
theorem XA {h:List Cell} {j:Nat} (hj:h.length≤j):cat h j=⟨0,0,[]⟩:=by simp[cat,List.getElem?_eq_none hj]
theorem VC {h:List Cell} {j:Nat} (hj:j < h.length):cat h j∈h:=List.mem_of_getElem? (UF hj)
theorem bV {h:List Cell} {j:Nat} (hj:ct h j≠0):j < h.length:=by
 by_cases h0:j < h.length
 ·exact h0
 ·exact absurd (by unfold ct;rw[XA (by omega)]) hj
theorem UG (h:List Cell) (j:Nat):fl h j=(cat h j).fields:=by
 unfold fl cat;cases h[j]? <;> rfl
theorem XY {h:List Cell} {j:Nat}:En h (1000+(j:Int))=decide (0 < ct h j):=by
 unfold En ct cat
 rw[show (1000+(j:Int) - 1000).toNat=j by omega]
 have e:decide ((1000:Int)≤1000+(j:Int))=true:=by simp;omega
 rw[e,Bool.true_and]
 cases h[j]? <;> rfl
theorem aU {w:Int} (hw:1000≤w):w=1000+(((w - 1000).toNat:Nat):Int):=by omega
theorem O5 {l:List Int} (hl:l.length≤1048576):GF l=some l:=by
 unfold GF
 rw[Eh [] l 8 (by simp;omega) (by simp;omega)];rfl
end RC



namespace RC
open Go
theorem Hp.aB {h:List Cell} (H:Hp h) (j:Nat) :∀w∈fl h j,E3 w:=by
 rw[UG]
 by_cases hj:j < h.length
 ·exact (H.cells _ (VC hj)).fields
 ·rw[XA (by omega)];intro w hw;cases hw
def gg (h:List Cell) (fr:Nat→Bool) (cn:Nat→Int) (j:Nat):Cell:=if fr j then ⟨0,0,[]⟩ else ⟨cn j,(cat h j).tag,(cat h j).fields⟩
def Nl (h:List Cell) (fr:Nat→Bool):Nat→Nat
 | 0=>0
 | n+1=>Nl h fr n+if fr n then 0 else (fl h n).length
theorem WC {h:List Cell} {p q:Nat→Bool} {n:Nat} (e :∀i,i < n→p i=q i):Nl h p n=Nl h q n:=by
 induction n with
 | zero=>rfl
 | succ n ih=>unfold Nl;rw[ih fun i hi=>e i (by omega),e n (by omega)]
theorem Yf {h:List Cell} {p:Nat→Bool} {n x:Nat} (hx:x < n) (hp:p x=false):Nl h p n=Nl h (fun k=>if k=x then true else p k) n+(fl h x).length:=by
 induction n with
 | zero=>omega
 | succ n ih=>
  unfold Nl
  by_cases e:x=n
  ·subst e
   rw[WC (p:=fun k=>if k=x then true else p k) (q:=p) (n:=x) (fun i hi=>by
    have:¬ i=x:=by omega
    simp[this])]
   simp[hp]
  ·have e':¬ n=x:=fun h=>e h.symm
   rw[ih (by omega)]
   simp only[e',if_false]
   omega
theorem Z4 (h:List Cell) (p:Nat→Bool):Nl h p h.length≤GB h:=by
 have key :∀n,n≤h.length→Nl h p n≤GB (h.take n):=by
  intro n
  induction n with
  | zero=>intro _;simp[Nl]
  | succ n ih=>
   intro hn
   have h1:=ih (by omega)
   have hc:=UF (h:=h) (j:=n) (by omega)
   unfold Nl
   rw[Ew hc,Lg,UG]
   have:GB [cat h n]=(cat h n).fields.length:=by simp[GB]
   split <;> omega
 have:=key h.length (Nat.le_refl _)
 rwa [List.take_length] at this
theorem ZA {t:List Int} {w:Int} (hl:t.length≤4000000):Sh.get (t ++ [w]) (Sh.w (Sh.len (t ++ [w]) - 1))=some w:=by
 rw[AK,List.length_append]
 have e:(((t.length + [w].length:Nat):Int) - 1)=(t.length:Int):=by simp
 rw[e,As (by omega) (by omega),Oc];simp
theorem Zs {t:List Int} {w:Int} (hl:t.length≤4000000):Sh.hi (t ++ [w]) (Sh.w (Sh.len (t ++ [w]) - 1))=some t:=by
 rw[AK,List.length_append]
 have e:(((t.length + [w].length:Nat):Int) - 1)=(t.length:Int):=by simp
 rw[e,As (by omega) (by omega),YO (by simp)];simp
theorem Uo {t:List Int} {w:Int}:decide (0 < Sh.len (t ++ [w]))=true:=by rw[AK,List.length_append];simp
end RC



namespace RC
open Go
section
variable {h g : List Cell} {W : List Int} {fr : Nat → Bool} {cn : Nat → Int}
end
theorem Zh {h:List Cell} {w:Int} (hw:1000≤w) (hwi:E3 w) (hj:(w - 1000).toNat < h.length):Sh.get h (Sh.w (w - 1000))=some (cat h (w - 1000).toNat):=by
 obtain⟨w1,w2⟩:=hwi
 rw[As (by omega) (by omega),Pk (by omega),UF hj]
end RC



namespace RC
open Go
def fst (h:List Cell):Nat→Nat→Nat
 | 0,i=>i
 | k+1,i=>if ct h i=0 then i else fst h k (i+1)
end RC



namespace RC
open Go
theorem Xx {α:Type} {n:Nat} {f:Nat→α} {w:Int} (hw:1000≤w) (hwi:E3 w) (hj:(w - 1000).toNat < n):Sh.get (rowOf n f) (Sh.w (w - 1000))=some (f (w - 1000).toNat):=by
 obtain⟨w1,w2⟩:=hwi
 rw[As (by omega) (by omega),Pk (by omega),Bd hj]
theorem Xi {α:Type} {n:Nat} {f:Nat→α} {w:Int} {c:α} (hw:1000≤w) (hwi:E3 w):Sh.put (rowOf n f) (Sh.w (w - 1000)) c=rowOf n (fun k=>if k=(w - 1000).toNat then c else f k):=by
 obtain⟨w1,w2⟩:=hwi
 rw[As (by omega) (by omega)]
 unfold Sh.put;rw[FA]
structure RI (h:List Cell) (W t:List Int) (m:Nat→Bool):Prop where
 live :∀i,m i=true→0 < ct h i
 closed :∀i,m i=true→∀w∈fl h i,1000≤w→0 < ct h (w - 1000).toNat→m (w - 1000).toNat=true∨w∈t
 words :∀w∈W,1000≤w→0 < ct h (w - 1000).toNat→m (w - 1000).toNat=true∨w∈t
 ti :∀w∈t,E3 w
theorem RI.pop {h:List Cell} {W t:List Int} {w:Int} {m:Nat→Bool} (R:RI h W (t ++ [w]) m) (hw:1000≤w→0 < ct h (w - 1000).toNat→m (w - 1000).toNat=true):RI h W t m:=by
 have key :∀v,1000≤v→0 < ct h (v - 1000).toNat→(m (v - 1000).toNat=true∨v∈t ++ [w])→m (v - 1000).toNat=true∨v∈t:=fun v h1 h2 h3=>by
  rcases h3 with h3 | h3
  ·exact .inl h3
  ·rcases List.mem_append.1 h3 with h3 | h3
   ·exact .inr h3
   ·rw[List.mem_singleton] at h3;subst h3;exact .inl (hw h1 h2)
 exact⟨R.live,fun i hi v hv h1 h2=>key v h1 h2 (R.closed i hi v hv h1 h2),fun v hv h1 h2=>key v h1 h2 (R.words v hv h1 h2),fun v hv=>R.ti v (List.mem_append_left _ hv)⟩
theorem RI.mark {h:List Cell} {W t:List Int} {w:Int} {m:Nat→Bool} (H:Hp h) (R:RI h W (t ++ [w]) m) (hl:0 < ct h (w - 1000).toNat) :
  RI h W (t ++ fl h (w - 1000).toNat) (fun k=>if k=(w - 1000).toNat then true else m k):=by
 have key :∀v,(m (v - 1000).toNat=true∨v∈t ++ [w])→(if (v - 1000).toNat=(w - 1000).toNat then true else m (v - 1000).toNat)=true∨v∈t ++ fl h (w - 1000).toNat:=fun v h3=>by
  rcases h3 with h3 | h3
  ·rw[h3];simp
  ·rcases List.mem_append.1 h3 with h3 | h3
   ·exact .inr (List.mem_append_left _ h3)
   ·rw[List.mem_singleton] at h3;subst h3;simp
 refine⟨fun i hi=>?_,fun i hi v hv h1 h2=>?_,fun v hv h1 h2=>key v (R.words v hv h1 h2),fun v hv=>?_⟩
 ·by_cases e:i=(w - 1000).toNat
  ·rw[e];exact hl
  ·simp only[e,if_false] at hi;exact R.live i hi
 ·by_cases e:i=(w - 1000).toNat
  ·subst e;exact .inr (List.mem_append_right _ hv)
  ·simp only[e,if_false] at hi
   exact key v (R.closed i hi v hv h1 h2)
 ·rcases List.mem_append.1 hv with hv | hv
  ·exact R.ti v (List.mem_append_left _ hv)
  ·exact H.aB _ v hv
theorem QP {h:List Cell} {w:Int} (hw:1000≤w):En h w=decide (0 < ct h (w - 1000).toNat):=by
 have:=XY (h:=h) (j:=(w - 1000).toNat)
 rwa [← aU hw] at this
theorem Xe {h:List Cell} {W:List Int} (H:Hp h) :∀(d N:Nat) (t:List Int) (m:Nat→Bool),RI h W t m→t.length+Nl h m h.length≤d→d≤3000000→d < N→
  ∃m',RI h W [] m'∧C0 h N (rowOf h.length m) t=some (rowOf h.length m')∧C2 h N (rowOf h.length m) t=some (rowOf h.length m'):=by
 have hlen:=H.len
 intro d
 induction d with
 | zero=>
  intro N t m R hd _ hN
  obtain⟨N',rfl⟩ :∃N',N=N' + 1:=⟨N - 1,by omega⟩
  have:t=[]:=List.eq_nil_of_length_eq_zero (by omega)
  subst this
  exact⟨m,R,by rw[C0,if_neg (by simp[AK])],by rw[C2,if_neg (by simp[AK])]⟩
 | succ d ih=>
  intro N t m R hd hd2 hN
  obtain⟨N',rfl⟩ :∃N',N=N' + 1:=⟨N - 1,by omega⟩
  rcases List.eq_nil_or_concat t with rfl | ⟨t',w,rfl⟩
  ·exact⟨m,R,by rw[C0,if_neg (by simp[AK])],by rw[C2,if_neg (by simp[AK])]⟩
  ·rw[List.concat_eq_append] at R hd ⊢
   have hl:t'.length≤4000000:=by rw[List.length_append] at hd;omega
   have hwi:=R.ti w (by simp)
   have hd':t'.length+1+Nl h m h.length≤d+1:=by rw[List.length_append] at hd;simpa using hd
   rw[C0,C2,if_pos Uo,if_pos Uo,ZA hl,Zs hl]
   simp only[Option.bind_some]
   rw[LY hlen hwi,J5 hlen hwi]
   simp only[Option.bind_some]
   cases hlv:En h w with
   | false=>
    simp only[Bool.false_eq_true,if_false,Option.bind_some]
    refine ih N' _ _ (R.pop fun h1 h2=>?_) (by omega) (by omega) (by omega)
    rw[QP h1] at hlv
    simp at hlv;omega
   | true=>
    have hw:1000≤w:=by
     by_cases h1:1000≤w
     ·exact h1
     ·rw[Lj h1] at hlv;cases hlv
    have hct:0 < ct h (w - 1000).toNat:=by rw[QP hw] at hlv;simpa using hlv
    have hj:(w - 1000).toNat < h.length:=bV (by omega)
    simp only[if_true]
    rw[Xx hw hwi hj,Zh hw hwi hj]
    simp only[Option.bind_some]
    cases hm:m (w - 1000).toNat with
    | true=>
     simp only[Bool.not_true,Bool.false_eq_true,if_false]
     exact ih N' _ _ (R.pop fun _ _=>hm) (by omega) (by omega) (by omega)
    | false=>
     have hfl:=H.Ni (VC hj)
     simp only[Bool.not_false,if_true]
     rw[Eh _ _ 8 (by omega) (by omega)]
     simp only[Option.bind_some]
     rw[Xi hw hwi,← UG]
     refine ih N' _ _ (R.mark H hct) ?_ (by omega) (by omega)
     have:=Yf hj hm (h:=h)
     rw[List.length_append];omega
def mk (m:Nat→Bool) (n i:Nat):List Nat:=(List.range' i (n - i)).filter m
theorem Q3 (m:Nat→Bool) (n:Nat):mk m n n=[]:=by simp[mk]
theorem JV {m:Nat→Bool} {n i:Nat} (hi:i < n):mk m n i=(if m i then [i] else []) ++ mk m n (i+1):=by
 unfold mk
 obtain⟨k,hk⟩ :∃k,n - i=k+1:=⟨n - i - 1,by omega⟩
 rw[hk,List.range'_succ,List.filter_cons,show n - (i+1)=k by omega]
 cases m i <;> simp
theorem UK {m:Nat→Bool} {n j:Nat}:j∈mk m n 0↔j < n∧m j=true:=by simp[mk]
theorem Q4 (m:Nat→Bool) (n i:Nat):(mk m n i).length≤n - i:=by
 have:=List.length_filter_le m (List.range' i (n - i))
 simpa [mk] using this
theorem Jn (a b:List Nat):BK (a ++ b)=BK a ++ BK b:=by simp[BK]
theorem FZ (a:List Nat):(BK a).length=a.length:=by simp[BK]
theorem Rc {h:List Cell} {m:Nat→Bool} (hl:h.length≤1048576) {N i:Nat} (hi:i≤h.length) (hN:h.length - i < N) :∀acc:List Nat,acc.length≤i→DZ (rowOf h.length m) h N i (BK acc)=some (BK (acc ++ mk m h.length i)):=by
 refine BM h.length (fun N i=>∀acc:List Nat,acc.length≤i→DZ (rowOf h.length m) h N i (BK acc)=some (BK (acc ++ mk m h.length i))) ?_ ?_ hi hN
 ·intro n acc _
  rw[DZ,if_neg (by simp[AK]),Q3,List.append_nil]
 ·intro n i hi ih acc ha
  rw[DZ,if_pos (by simp[AK];omega),Ak (Bd hi)]
  simp only[Option.bind_some]
  rw[As (by omega) (by omega),show ((i:Int) + 1)=((i+1:Nat):Int) by omega,JV hi]
  cases m i with
  | false=>simp only[Bool.false_eq_true,if_false,Option.bind_some,List.nil_append];exact ih acc (by omega)
  | true=>
   simp only[if_true]
   rw[Eh _ _ 8 (by rw[FZ];simp;omega) (by rw[FZ];simp;omega)]
   simp only[Option.bind_some]
   have:=ih (acc ++ [i]) (by simp;omega)
   rw[Jn,List.append_assoc] at this
   exact this
theorem LF {m:Nat→Bool} {n0:Nat} (hl:n0≤1048576) {N i:Nat} (hi:i≤n0) (hN:n0 - i < N) :∀acc:List Nat,acc.length≤i→Cs (rowOf n0 m) N i (BK acc)=some (BK (acc ++ mk m n0 i)):=by
 refine BM n0 (fun N i=>∀acc:List Nat,acc.length≤i→Cs (rowOf n0 m) N i (BK acc)=some (BK (acc ++ mk m n0 i))) ?_ ?_ hi hN
 ·intro n acc _
  rw[Cs,if_neg (by simp[AK,FC]),Q3,List.append_nil]
 ·intro n i hi ih acc ha
  rw[Cs,if_pos (by simp[AK,FC];omega),Ak (Bd hi)]
  simp only[Option.bind_some]
  rw[As (by omega) (by omega),show ((i:Int) + 1)=((i+1:Nat):Int) by omega,JV hi]
  cases m i with
  | false=>simp only[Bool.false_eq_true,if_false,Option.bind_some,List.nil_append];exact ih acc (by omega)
  | true=>
   simp only[if_true]
   rw[Eh _ _ 8 (by rw[FZ];simp;omega) (by rw[FZ];simp;omega)]
   simp only[Option.bind_some]
   have:=ih (acc ++ [i]) (by simp;omega)
   rw[Jn,List.append_assoc] at this
   exact this
theorem RV {h:List Cell} {W:List Int} (H:Hp h) (hW :∀w∈W,E3 w) (hWl2:W.length≤1048576) {N:Nat} (hN:2000000≤N) (hd:W.length+GB h≤3000000) (hdN:W.length+GB h < N) :
  ∃out,Kl N h W=some out∧Gu N h W=some out∧(¬ VH h→out=[])∧(VH h→∃m,RI h W [] m∧out=BK (mk m h.length 0)):=by
 have hl:=H.len
 obtain⟨b,r,h1,_,_,h2,h3,_⟩:=KQ H hN
 unfold Kl Gu
 rw[h1,h2]
 simp only[Option.bind_some]
 cases b with
 | false=>exact⟨[],by simp,by simp,fun _=>rfl,fun hv=>absurd (h3.2 hv) (by simp)⟩
 | true=>
  have V:=h3.1 rfl
  simp only[Bool.not_true,Bool.false_eq_true,if_false]
  have R:RI h W W (fun _=>false):=⟨fun _ h=>absurd h (by simp),fun _ h=>absurd h (by simp),fun w hw _ _=>.inr hw,hW⟩
  have hf:=Z4 h (fun _=>false)
  have hs:=H.size
  unfold CN at hs
  obtain⟨m,R',e1,e2⟩:=Xe H (W.length+Nl h (fun _=>false) h.length) N W _ R (Nat.le_refl _) (by omega) (by omega)
  have k1:=Rc (m:=m) hl (Nat.zero_le _) (by omega:h.length - 0 < N) [] (by simp)
  have k2:=LF (m:=m) hl (Nat.zero_le _) (by omega:h.length - 0 < N) [] (by simp)
  rw[show ((0:Nat):Int)=0 from rfl,show BK []=[] from rfl,List.nil_append] at k1 k2
  refine⟨BK (mk m h.length 0),?_,?_,fun hn=>absurd V hn,fun _=>⟨m,R',rfl⟩⟩
  ·unfold FK
   rw[AK,Gw _ _ _ (by omega) (by omega),O5 hWl2,Ed]
   simp only[Option.bind_some]
   rw[e1]
   simp only[Option.bind_some]
   rw[k1];rfl
  ·rw[AK,Gw _ _ _ (by omega) (by omega),TC _ hWl2,Ed]
   simp only[Option.bind_some]
   rw[e2]
   simp only[Option.bind_some]
   unfold E8
   rw[k2];rfl
end RC



namespace RC
open Go
def KL:Nat→Nat→List Int
 | _,0=>[]
 | k,n+1=>(k:Int) :: KL (k+1) n
theorem Tb :∀(n k:Nat),(KL k n).length=n
 | 0,_=>rfl
 | n+1,k=>by simp[KL,Tb n]
theorem Fq {α:Type} (A B:List α) (x:α):Sh.get (A ++ x :: B) (A.length:Int)=some x:=Ak (by simp)
theorem FP {α:Type} (A B:List α) (x y:α):Sh.put (A ++ x :: B) (A.length:Int) y=A ++ y :: B:=by rw[Ec];simp
theorem Lt :∀(B A:List Int) (k n:Nat),B.length < n→A.length+B.length≤2000000→k+B.length≤100000000→
  Dq n (k:Int) (A.length:Int) (A ++ B)=some (((k+B.length:Nat):Int),A ++ KL k B.length)
 | [],A,k,n,hn,_,_=>by
  obtain⟨n,rfl⟩ :∃m,n=m+1:=⟨n - 1,by simp at hn;omega⟩
  rw[Dq,if_neg (by simp[AK])];simp[KL]
 | b :: B,A,k,n,hn,h1,h2=>by
  simp only[List.length_cons] at hn h1 h2 ⊢
  obtain⟨n,rfl⟩ :∃m,n=m+1:=⟨n - 1,by omega⟩
  have ih:=Lt B (A ++ [(k:Int)]) (k+1) n (by omega) (by simp;omega) (by omega)
  rw[Dq,if_pos (by simp[AK];omega),Fq,FP,As (by omega) (by omega),As (by omega) (by omega)]
  simp only[Option.bind_some]
  rw[List.length_append,List.append_assoc,List.append_assoc] at ih
  simp only[List.length_cons,List.length_nil,List.cons_append,List.nil_append] at ih
  have e1:((A.length:Int) + 1)=((A.length+(0+1):Nat):Int):=by omega
  have e2:((k:Int) + 1)=((k+1:Nat):Int):=by omega
  rw[e1,e2,ih]
  simp only[KL,show k+1+B.length=k+(B.length+1) by omega]
theorem Eb {l:List Int} (hl:l.length≤1048576) {k:Nat} (hk:k≤50000000) {N:Nat} (hN:2000000≤N):Bx N l (k:Int)=some (((k+l.length:Nat):Int),KL k l.length):=by
 unfold Bx
 have:=Lt l [] k N (by omega) (by simp;omega) (by omega)
 rw[List.length_nil,List.nil_append,List.nil_append] at this
 rw[show (0:Int)=((0:Nat):Int) from rfl,this];rfl
theorem Lq :∀(m:Nat) (A:List Int) (k n:Nat),m < n→A.length+m≤2000000→k+m≤100000000→
  Dp (A ++ KL k m) n (k:Int) (A.length:Int)=some (Sum.inr (((k+m:Nat):Int)))
 | 0,A,k,n,hn,_,_=>by
  obtain⟨n,rfl⟩ :∃m,n=m+1:=⟨n - 1,by omega⟩
  rw[Dp,if_neg (by simp[AK,KL])];simp
 | m+1,A,k,n,hn,h1,h2=>by
  obtain⟨n,rfl⟩ :∃m,n=m+1:=⟨n - 1,by omega⟩
  have ih:=Lq m (A ++ [(k:Int)]) (k+1) n (by omega) (by simp;omega) (by omega)
  rw[Dp,if_pos (by simp[AK,Tb];omega)]
  simp only[KL]
  rw[Fq,As (by omega) (by omega),As (by omega) (by omega)]
  simp only[Option.bind_some,decide_true,Bool.not_true,Bool.false_eq_true,if_false]
  rw[List.length_append,List.append_assoc] at ih
  simp only[List.length_cons,List.length_nil,List.cons_append,List.nil_append] at ih
  have e1:((A.length:Int) + 1)=((A.length+(0+1):Nat):Int):=by omega
  have e2:((k:Int) + 1)=((k+1:Nat):Int):=by omega
  rw[e1,e2,ih]
  simp only[show k+1+m=k+(m+1) by omega]
theorem T2 {m:Nat} (hl:m≤1048576) {k:Nat} (hk:k≤50000000) {N:Nat} (hN:2000000≤N):GC N (KL k m) (k:Int)=some (((k+m:Nat):Int)):=by
 unfold GC
 have:=Lq m [] k N (by omega) (by simp;omega) (by omega)
 rw[List.length_nil,List.nil_append] at this
 rw[show (0:Int)=((0:Nat):Int) from rfl,this];rfl
def Ql (h:List Cell):Nat:=2 * h.length+GB h
def PG:Nat→List Cell→List Cell
 | _,[]=>[]
 | k,c :: r=>⟨(k:Int),((k+1:Nat):Int),KL (k+2) c.fields.length⟩ :: PG (k+2+c.fields.length) r
theorem Xc (c:Cell) (r:List Cell):Ql (c :: r)=2+c.fields.length+Ql r:=by simp[Ql,GB];omega
theorem Kt {N:Nat} (hN:2000000≤N) :∀(B A:List Cell) (k n:Nat),B.length < n→A.length+B.length≤2000000→(∀c∈B,c.fields.length≤1048576)→k+Ql B≤40000000→
  DM N n (k:Int) (A.length:Int) (A ++ B)=some (((k+Ql B:Nat):Int),A ++ PG k B)
 | [],A,k,n,hn,_,_,_=>by
  obtain⟨n,rfl⟩ :∃m,n=m+1:=⟨n - 1,by simp at hn;omega⟩
  rw[DM,if_neg (by simp[AK])];simp[PG,Ql,GB]
 | c :: B,A,k,n,hn,h1,hf,h2=>by
  have hfc:=hf c (by simp)
  rw[Xc] at h2 ⊢
  simp only[List.length_cons] at hn h1
  obtain⟨n,rfl⟩ :∃m,n=m+1:=⟨n - 1,by omega⟩
  have ih:=Kt hN B (A ++ [⟨(k:Int),((k+1:Nat):Int),KL (k+2) c.fields.length⟩]) (k+2+c.fields.length) n (by omega) (by simp;omega) (fun c hc=>hf c (by simp[hc])) (by omega)
  have e2:((k:Int) + 1)=((k+1:Nat):Int):=by omega
  have e3:(((k+1:Nat):Int) + 1)=((k+2:Nat):Int):=by omega
  rw[DM,if_pos (by simp[AK];omega),Fq]
  simp only[Option.bind_some,FP,Fq]
  rw[As (n:=(k:Int) + 1) (by omega) (by omega),e2,As (n:=((k+1:Nat):Int) + 1) (by omega) (by omega),e3,Eb hfc (by omega) hN]
  simp only[Option.bind_some]
  rw[As (by omega) (by omega)]
  rw[List.length_append,List.append_assoc,List.append_assoc] at ih
  simp only[List.length_cons,List.length_nil,List.cons_append,List.nil_append] at ih
  have e1:((A.length:Int) + 1)=((A.length+(0+1):Nat):Int):=by omega
  rw[e1,ih]
  simp only[PG,show k+2+c.fields.length+Ql B=k+(2+c.fields.length+Ql B) by omega]
theorem XJ {h:List Cell} (H:Hp h):Ql h≤2097152:=by have:=H.size;unfold CN at this;unfold Ql;omega
theorem Si {h:List Cell} (H:Hp h) {k:Nat} (hk:k≤30000000) {N:Nat} (hN:2000000≤N):Gm N h (k:Int)=some (((k+Ql h:Nat):Int),PG k h):=by
 unfold Gm
 have hl:=H.len
 have:=Kt hN h [] k N (by omega) (by simp;omega) (fun c hc=>H.Ni hc) (by have:=XJ H;omega)
 rw[List.length_nil,List.nil_append,List.nil_append] at this
 rw[show (0:Int)=((0:Nat):Int) from rfl,this];rfl
end RC



namespace RC
open Go
def Bl {α:Type} (f:Nat→α→Bool):Nat→List α→Bool
 | _,[]=>true
 | k,x :: r=>f k x && Bl f (k+1) r
theorem OW {α:Type} {f g:Nat→α→Bool} :∀(l:List α) (k:Nat),(∀(i:Nat) x,l[i]?=some x→f (k+i) x=g (k+i) x)→Bl f k l=Bl g k l
 | [],_,_=>rfl
 | x :: r,k,h=>by
  have h0:=h 0 x rfl
  rw[Nat.add_zero] at h0
  have h1:=OW r (k+1) fun i y hy=>(show k+(i+1)=k+1+i by omega) ▸ h (i+1) y hy
  rw[Bl,Bl,h0,h1]
theorem CW {α:Type} {p:α→Bool} :∀(l:List α) (k:Nat),Bl (fun _ x=>p x) k l=l.all p
 | [],_=>rfl
 | x :: r,k=>by rw[Bl,CW r (k+1),List.all_cons]
theorem Bo {α:Type} {l:List α} (L:Nat→Int→Option (Bool ⊕ Unit)) (f:Nat→α→Bool) (h0 :∀n,L (n+1) (l.length:Int)=some (.inr ()))
  (hs :∀n (i:Nat) x,l[i]?=some x→L (n+1) (i:Int)=if f i x=true then L n ((i+1:Nat):Int) else some (.inl false)) {N:Nat} (hN:l.length < N) :
  L N 0=some (if Bl f 0 l=true then .inr () else .inl false):=by
 have key :∀{N i:Nat},i≤l.length→l.length - i < N→L N (i:Int)=some (if Bl f i (l.drop i)=true then .inr () else .inl false):=by
  intro N i hi hN
  refine BM l.length (fun N i=>L N (i:Int)=some (if Bl f i (l.drop i)=true then .inr () else .inl false)) ?_ ?_ hi hN
  ·intro n;rw[h0 n];simp[Bl]
  ·intro n i hi ih
   obtain⟨x,hx,_⟩:=BR hi
   rw[hs n i x hx,ih,drop_cons hx,Bl]
   cases h:f i x <;> simp
 have:=key (Nat.zero_le _) (by omega:l.length - 0 < N)
 simpa using this
theorem Bz {β:Type} {b:Bool} {g:Bool→β} {K:Unit→Option β}:Sh.cont (some (if b=true then Sum.inr () else Sum.inl false)) g K=if b=true then K () else some (g false):=by
 cases b <;> rfl
theorem U2 {α:Type} {l:List α} {j:Nat} (h:j≤l.length) (h2:l.length≤9223372036854775807):Sh.sl l 0 (j:Int)=some (l.take j):=by
 unfold Sh.sl
 rw[if_pos ⟨by omega,by omega,by omega⟩];simp
end RC



namespace RC
open Go
def HM (D:List An) (t:Int):Bool:=decide (0≤t) && decide (t≤(D.length:Int))
theorem KF {D:List An} {x:Int}:At x 0 (Sh.len D)=some (HM D x):=by rw[A6];rfl
theorem KH {D:List An} {l:List Int} (hl:l.length≤1048576) {N:Nat} (hN:l.length < N):Fz N D l=some (l.all (HM D)):=by
 unfold Fz
 rw[Bo (l:=l) (Dr D l) (fun _ x=>HM D x) (fun n=>by rw[Dr,if_neg (by simp[AK])]) (fun n i x hx=>?_) hN,Bz,CW]
 ·cases l.all (HM D) <;> rfl
 ·have hi:=(List.getElem?_eq_some_iff.1 hx).1
  rw[Dr,if_pos (by simp[AK];omega),Ak hx]
  simp only[Option.bind_some]
  rw[KF,As (by omega) (by omega),show ((i:Int) + 1)=((i+1:Nat):Int) by omega]
  simp only[Option.bind_some]
  cases HM D x <;> rfl
theorem H4 {D:List An} {t:Int}:Fl D t=some (HM D t):=by
 unfold Fl HM
 by_cases h:0≤t <;> by_cases h2:t≤(D.length:Int) <;> simp[h,h2,AK]
theorem KV {D:List An} {l:List Int} (hl:l.length≤1048576) {N:Nat} (hN:l.length < N):GD N D l=some (l.all (HM D)):=by
 unfold GD
 rw[Bo (l:=l) (Dx D l) (fun _ x=>HM D x) (fun n=>by rw[Dx,if_neg (by simp[AK])]) (fun n i x hx=>?_) hN,Bz,CW]
 ·cases l.all (HM D) <;> rfl
 ·have hi:=(List.getElem?_eq_some_iff.1 hx).1
  rw[Dx,if_pos (by simp[AK];omega),Ak hx]
  simp only[Option.bind_some]
  rw[H4,As (by omega) (by omega),show ((i:Int) + 1)=((i+1:Nat):Int) by omega]
  simp only[Option.bind_some]
  cases HM D x <;> rfl
def PB (D:List An) (c:By):Bool:=decide (c.fields.length≤3) && c.fields.all (HM D)
def Ft (a b:An):Bool:=decide (a.cons.length=0) && (decide (a.from_=b.from_) && decide (a.to=b.to))
def Mk (D:List An) (i:Nat) (d:An):Bool:=
 if 0 < d.cons.length then (decide (d.cons.length≤3) && (decide (d.from_=0) && decide (d.to=0))) && d.cons.all (PB D)
 else (D.take i).all (fun e=>!Ft e d) && (HM D d.from_ && HM D d.to)
def Pb (D:List An) (i:Nat) (d:An):Bool:=
 ((HM D d.from_ && (HM D d.to && (decide (d.cons.length≤3) && (!(decide (0 < d.cons.length) && (!decide (d.from_=0) || !decide (d.to=0))))))) && d.cons.all (PB D)) && (D.take i).all (fun e=>!(decide (d.cons.length=0) && Ft e d))
theorem Wa (D:List An) (i:Nat) (d:An):Pb D i d=Mk D i d:=by
 unfold Pb Mk
 by_cases h:0 < d.cons.length
 ·have h0:¬ d.cons.length=0:=by omega
  have ha:(D.take i).all (fun e=>!(decide (d.cons.length=0) && Ft e d))=true:=by simp[h0]
  rw[if_pos h,ha]
  by_cases h1:d.from_=0 <;> by_cases h2:d.to=0 <;> simp[h,h1,h2,HM]
 ·have h0:d.cons.length=0:=by omega
  have hc:d.cons=[]:=List.eq_nil_of_length_eq_zero h0
  rw[if_neg h]
  simp only[hc,h0,List.length_nil,List.all_nil,decide_true,Bool.true_and,Bool.and_true]
  cases HM D d.from_ <;> cases HM D d.to <;> simp
structure Ms (D:List An):Prop where
 len:D.length≤1048576
 cons :∀d∈D,d.cons.length≤1048576
 PD :∀d∈D,∀c∈d.cons,c.fields.length≤1048576
theorem OD {D:List An} (hD:Ms D) {i:Nat} {d:An} (hd:D[i]?=some d) {N:Nat} (hN:2000000≤N):Gr N D i=some (Mk D i d):=by
 have hm:=List.mem_of_getElem? hd
 have hi:=(List.getElem?_eq_some_iff.1 hd).1
 have hlen:=hD.len
 have hc:=hD.cons d hm
 unfold Gr Mk
 rw[Ak hd]
 simp only[Option.bind_some]
 by_cases h:0 < d.cons.length
 ·rw[if_pos (by simp[AK];omega),if_pos h]
  rw[Bo (l:=d.cons) (DR N d D) (fun _ c=>PB D c) (fun n=>by rw[DR,if_neg (by simp[AK])]) (fun n j c hj=>?_) (by omega),Bz,CW]
  ·simp only[AK]
   by_cases h3:d.cons.length≤3
   ·have e3:¬ (3:Int) < (d.cons.length:Int):=by omega
    generalize d.cons.all (PB D)=z
    cases z <;> by_cases h1:d.from_=0 <;> by_cases h2:d.to=0 <;> simp[h1,h2,h3,e3]
   ·have e3:(3:Int) < (d.cons.length:Int):=by omega
    simp[h3,e3]
  ·have hj':=(List.getElem?_eq_some_iff.1 hj).1
   have hf:=hD.PD d hm c (List.mem_of_getElem? hj)
   rw[DR,if_pos (by simp[AK];omega),Ak hj]
   simp only[Option.bind_some]
   rw[KH hf (by omega),As (by omega) (by omega),show ((j:Int) + 1)=((j+1:Nat):Int) by omega]
   unfold PB
   by_cases h3:c.fields.length≤3
   ·have e3:¬ (3:Int) < (c.fields.length:Int):=by omega
    simp only[AK]
    cases c.fields.all (HM D) <;> simp[h3,e3]
   ·have e3:(3:Int) < (c.fields.length:Int):=by omega
    simp[h3,e3,AK]
 ·have h0:d.cons.length=0:=by omega
  have e0:¬ decide ((0:Int) < Sh.len d.cons)=true:=by rw[AK,h0];simp
  rw[if_neg e0,if_neg h]
  have hlt:(D.take i).length=i:=by simp;omega
  rw[Bo (l:=D.take i) (DS d D i) (fun _ e=>!Ft e d) (fun n=>by rw[DS,if_neg (by simp;omega)]) (fun n j e hj=>?_) (by omega),Bz,CW]
  ·rw[KF,KF]
   simp only[Option.bind_some]
   cases (D.take i).all (fun e=>!Ft e d) <;> cases HM D d.from_ <;> simp
  ·have hj':=(List.getElem?_eq_some_iff.1 hj).1
   have hje:D[j]?=some e:=by rw[List.getElem?_take] at hj;split at hj <;> first | exact hj | cases hj
   rw[DS,if_pos (by simp;omega),Ak hje]
   simp only[Option.bind_some]
   rw[As (by omega) (by omega),show ((j:Int) + 1)=((j+1:Nat):Int) by omega]
   unfold Ft
   simp only[AK]
   by_cases a0:e.cons.length=0 <;> by_cases a1:e.from_=d.from_ <;> by_cases a2:e.to=d.to <;> simp[a0,a1,a2]
def Lk (D:List An):Bool:=decide (D.length≤4) && Bl (Mk D) 0 D
theorem NN {D:List An} (hD:Ms D) {N:Nat} (hN:2000000≤N):F7 N D=some (Lk D):=by
 have hlen:=hD.len
 unfold F7 Lk
 rw[Bo (l:=D) (C9 N D) (Mk D) (fun n=>by rw[C9,if_neg (by simp[AK])]) (fun n i d hd=>?_) (by omega),Bz]
 ·simp only[AK]
  by_cases h:D.length≤4
  ·have e4:¬ (4:Int) < (D.length:Int):=by omega
   cases Bl (Mk D) 0 D <;> simp[h,e4]
  ·have e4:(4:Int) < (D.length:Int):=by omega
   simp[h,e4]
 ·have hi:=(List.getElem?_eq_some_iff.1 hd).1
  rw[C9,if_pos (by simp[AK];omega),OD hD hd hN]
  simp only[Option.bind_some]
  rw[As (by omega) (by omega),show ((i:Int) + 1)=((i+1:Nat):Int) by omega]
  cases Mk D i d <;> rfl
theorem NH {D:List An} (hD:Ms D) {N:Nat} (hN:2000000≤N):GG N D=some (Lk D):=by
 have hlen:=hD.len
 unfold GG Lk
 rw[← OW (f:=Pb D) D 0 (fun i d _=>Wa D _ d)]
 rw[Bo (l:=D) (C8 N D) (Pb D) (fun n=>by rw[C8,if_neg (by simp[AK])]) (fun n i d hd=>?_) (by omega),Bz]
 ·simp only[AK]
  by_cases h:D.length≤4
  ·have e4:¬ (4:Int) < (D.length:Int):=by omega
   cases Bl (Pb D) 0 D <;> simp[h,e4]
  ·have e4:(4:Int) < (D.length:Int):=by omega
   simp[h,e4]
 ·have hi:=(List.getElem?_eq_some_iff.1 hd).1
  have hm:=List.mem_of_getElem? hd
  have hc:=hD.cons d hm
  have l2:CO N d D N 0=some (if d.cons.all (PB D)=true then .inr () else .inl false):=by
   rw[Bo (l:=d.cons) (CO N d D) (fun _ c=>PB D c) (fun n=>by rw[CO,if_neg (by simp[AK])]) (fun n j c hj=>?_) (by omega),CW]
   have hj':=(List.getElem?_eq_some_iff.1 hj).1
   have hf:=hD.PD d hm c (List.mem_of_getElem? hj)
   rw[CO,if_pos (by simp[AK];omega),Ak hj]
   simp only[Option.bind_some]
   rw[KV hf (by omega),As (by omega) (by omega),show ((j:Int) + 1)=((j+1:Nat):Int) by omega]
   unfold PB
   by_cases h3:c.fields.length≤3
   ·have e3:¬ (3:Int) < (c.fields.length:Int):=by omega
    simp only[AK]
    cases c.fields.all (HM D) <;> simp[h3,e3]
   ·have e3:(3:Int) < (c.fields.length:Int):=by omega
    simp[h3,e3,AK]
  have hlt:(D.take i).length=i:=by simp;omega
  have l3:CU d (D.take i) N 0=some (if (D.take i).all (fun e=>!(decide (d.cons.length=0) && Ft e d))=true then .inr () else .inl false):=by
   rw[Bo (l:=D.take i) (CU d (D.take i)) (fun _ e=>!(decide (d.cons.length=0) && Ft e d)) (fun n=>by rw[CU,if_neg (by simp[AK])]) (fun n j e hj=>?_) (by omega),CW]
   have hj':=(List.getElem?_eq_some_iff.1 hj).1
   rw[CU,if_pos (by simp only[AK];simp;omega),Ak hj]
   simp only[Option.bind_some]
   rw[As (by omega) (by omega),show ((j:Int) + 1)=((j+1:Nat):Int) by omega]
   unfold Ft
   simp only[AK]
   by_cases b0:d.cons.length=0 <;> by_cases a0:e.cons.length=0 <;> by_cases a1:e.from_=d.from_ <;> by_cases a2:e.to=d.to <;> simp[a0,a1,a2,b0]
  rw[C8,if_pos (by simp[AK];omega),Ak hd]
  simp only[Option.bind_some]
  rw[H4,H4,l2,U2 (by omega) (by omega),As (by omega) (by omega),show ((i:Int) + 1)=((i+1:Nat):Int) by omega]
  simp only[Option.bind_some]
  rw[l3,Bz,Bz]
  unfold Pb
  simp only[AK]
  generalize d.cons.all (PB D)=z1
  generalize (D.take i).all (fun e=>!(decide (d.cons.length=0) && Ft e d))=z2
  by_cases h3:d.cons.length≤3
  ·have e3:¬ (3:Int) < (d.cons.length:Int):=by omega
   by_cases h0:0 < d.cons.length
   ·have e0:(0:Int) < (d.cons.length:Int):=by omega
    cases HM D d.from_ <;> cases HM D d.to <;> cases z1 <;> cases z2 <;> by_cases h1:d.from_=0 <;> by_cases h2:d.to=0 <;> simp[h1,h2,h3,e3,h0]
   ·have e0:¬ (0:Int) < (d.cons.length:Int):=by omega
    cases HM D d.from_ <;> cases HM D d.to <;> cases z1 <;> cases z2 <;> simp[h3,e3,h0]
  ·have e3:(3:Int) < (d.cons.length:Int):=by omega
   cases HM D d.from_ <;> cases HM D d.to <;> simp[h3,e3]
end RC



namespace RC
open Go
def G1 (ps ls:List Int) (i:Nat) (v:Int):Bool:=
 (decide (0≤v) && decide (v < (ps.length:Int))) && (!decide (ps[v.toNat]?=some 0) && !(decide (0 < i) && decide (v≤(ls[i - 1]?).getD 0)))
theorem TK {ls:List Int} {i:Nat} (h0:0 < i) (hi:i < ls.length) :∃x,ls[i - 1]?=some x∧Sh.get ls (((i:Nat):Int) - 1)=some x:=by
 obtain⟨x,hx,_⟩:=BR (l:=ls) (i:=i - 1) (by omega)
 exact⟨x,hx,by rw[show ((i:Int) - 1)=((i - 1:Nat):Int) by omega,Ak hx]⟩
theorem OG {ps ls:List Int} (hp:ps.length≤1048576) (hl:ls.length≤1048576) {N:Nat} (hN:2000000≤N):GY N ps ls=some (Bl (G1 ps ls) 0 ls):=by
 unfold GY
 rw[Bo (l:=ls) (DQ ps ls) (G1 ps ls) (fun n=>by rw[DQ,if_neg (by simp[AK])]) (fun n i v hv=>?_) (by omega),Bz]
 ·cases Bl (G1 ps ls) 0 ls <;> rfl
 ·have hi:=(List.getElem?_eq_some_iff.1 hv).1
  rw[DQ,if_pos (by simp[AK];omega),Ak hv]
  simp only[Option.bind_some]
  rw[A6,AK,As (n:=(ps.length:Int) - 1) (by omega) (by omega),As (n:=(i:Int) + 1) (by omega) (by omega),As (n:=(i:Int) - 1) (by omega) (by omega),show ((i:Int) + 1)=((i+1:Nat):Int) by omega]
  simp only[Option.bind_some]
  unfold G1
  by_cases h0:0≤v
  ·by_cases h1:v < (ps.length:Int)
   ·have h1':v≤(ps.length:Int) - 1:=by omega
    obtain⟨c,e1,e2⟩:=L4 h0 h1
    rw[e1,e2]
    by_cases hi0:0 < i
    ·obtain⟨x,g1,g2⟩:=TK hi0 hi
     rw[g1,g2]
     by_cases hc:c=0 <;> by_cases hx:v≤x <;> simp[h0,h1,h1',hc,hi0,hx]
    ·by_cases hc:c=0 <;> simp[h0,h1,h1',hc,hi0]
   ·have h1':¬ v≤(ps.length:Int) - 1:=by omega
    simp[h0,h1,h1']
  ·simp[h0]
theorem Sw {c:Bu} (hp:c.params.length≤1048576) (hl:c.BH.length≤1048576) {N:Nat} (hN:2000000≤N):Cl c N 0=some (if Bl (G1 c.params c.BH) 0 c.BH=true then .inr () else .inl false):=by
 refine Bo (l:=c.BH) (Cl c) (G1 c.params c.BH) (fun n=>by rw[Cl,if_neg (by simp[AK])]) (fun n i v hv=>?_) (by omega)
 have hi:=(List.getElem?_eq_some_iff.1 hv).1
 rw[Cl,if_pos (by simp[AK];omega),Ak hv]
 simp only[Option.bind_some]
 rw[AK,As (n:=(i:Int) + 1) (by omega) (by omega),As (n:=(i:Int) - 1) (by omega) (by omega),show ((i:Int) + 1)=((i+1:Nat):Int) by omega]
 unfold G1
 by_cases h0:0≤v
 ·have h0':¬ v < 0:=by omega
  by_cases h1:v < (c.params.length:Int)
  ·have h1':¬ (c.params.length:Int)≤v:=by omega
   obtain⟨d,e1,e2⟩:=L4 h0 h1
   rw[e1,e2]
   by_cases hi0:0 < i
   ·obtain⟨x,g1,g2⟩:=TK hi0 hi
    rw[g1,g2]
    by_cases hc:d=0 <;> by_cases hx:v≤x <;> simp[h0,h0',h1,h1',hc,hi0,hx]
   ·by_cases hc:d=0 <;> simp[h0,h0',h1,h1',hc,hi0]
  ·have h1':(c.params.length:Int)≤v:=by omega
   simp[h0,h0',h1,h1']
 ·have h0':v < 0:=by omega
  simp[h0,h0']
def Lv (D:List An) (ps:List Int) (r:Int):Bool:=decide (ps.length≤3) && (ps.all (HM D) && HM D r)
theorem Ph {p:IH} (hf:p.funcs.length≤1048576) (hp :∀f∈p.funcs,f.params.length≤1048576) {N:Nat} (hN:2000000≤N):Ct N p N 0=some (if (p.funcs.all fun f=>Lv p.decls f.params f.result)=true then .inr () else .inl false):=by
 rw[← CW _ 0]
 refine Bo (l:=p.funcs) (Ct N p) (fun _ f=>Lv p.decls f.params f.result) (fun n=>by rw[Ct,if_neg (by simp[AK])]) (fun n i f hi=>?_) (by omega)
 have hi':=(List.getElem?_eq_some_iff.1 hi).1
 have hpf:=hp f (List.mem_of_getElem? hi)
 rw[Ct,if_pos (by simp[AK];omega),Ak hi]
 simp only[Option.bind_some]
 rw[KH hpf (by omega),KF,As (by omega) (by omega),show ((i:Int) + 1)=((i+1:Nat):Int) by omega]
 unfold Lv
 simp only[AK]
 by_cases h3:f.params.length≤3
 ·have e3:¬ (3:Int) < (f.params.length:Int):=by omega
  generalize f.params.all (HM p.decls)=z
  cases z <;> cases HM p.decls f.result <;> simp[h3,e3]
 ·have e3:(3:Int) < (f.params.length:Int):=by omega
  simp[h3,e3]
theorem PJ {D:List An} {l:List Bu} (hf:l.length≤1048576) (hp :∀f∈l,f.params.length≤1048576∧f.BH.length≤1048576) {N:Nat} (hN:2000000≤N):Cr N D l N 0=some (if (l.all fun f=>Lv D f.params f.result && Bl (G1 f.params f.BH) 0 f.BH)=true then .inr () else .inl false):=by
 rw[← CW _ 0]
 refine Bo (l:=l) (Cr N D l) (fun _ f=>Lv D f.params f.result && Bl (G1 f.params f.BH) 0 f.BH) (fun n=>by rw[Cr,if_neg (by simp[AK])]) (fun n i f hi=>?_) (by omega)
 have hi':=(List.getElem?_eq_some_iff.1 hi).1
 have hpf:=hp f (List.mem_of_getElem? hi)
 rw[Cr,if_pos (by simp[AK];omega),Ak hi]
 simp only[Option.bind_some]
 rw[KV hpf.1 (by omega),H4,Sw hpf.1 hpf.2 hN,Bz,As (by omega) (by omega),show ((i:Int) + 1)=((i+1:Nat):Int) by omega]
 unfold Lv
 simp only[AK]
 generalize Bl (G1 f.params f.BH) 0 f.BH=y
 by_cases h3:f.params.length≤3
 ·have e3:¬ (3:Int) < (f.params.length:Int):=by omega
  generalize f.params.all (HM D)=z
  cases z <;> cases HM D f.result <;> cases y <;> simp[h3,e3]
 ·have e3:(3:Int) < (f.params.length:Int):=by omega
  simp[h3,e3]
end RC
namespace RC
open Go
def Uc (D:List (List Int×Int)):Bool:=match D with | []=>false | (ps,r) :: _=>decide (ps.length=0) && decide (r=0)
def LV (D:List An) (l:List (List Int×Int)):Bool:=Lk D && ((decide (1≤l.length) && decide (l.length≤4)) && (l.all (fun s=>Lv D s.1 s.2) && Uc l))
def UE (p:A0):IT:=⟨p.params,p.result,.mk 0 0 []⟩
def Ko (p:A0):Bu:=⟨p.params,p.BH,p.result⟩
theorem J2 {p:IH} (hD:Ms p.decls) (hf:p.funcs.length≤1048576) (hp :∀f∈p.funcs,f.params.length≤1048576) {N:Nat} (hN:2000000≤N):GZ N p=some (LV p.decls (p.funcs.map fun f=>(f.params,f.result))):=by
 unfold GZ LV
 rw[NN hD hN,Ph hf hp hN,Bz,A6]
 simp only[Option.bind_some,List.length_map,List.all_map,Function.comp_def]
 cases Lk p.decls with
 | false=>simp
 | true=>
  cases hl:p.funcs with
  | nil=>simp[AK]
  | cons f r=>
   have e0:Sh.get (f :: r) 0=some f:=rfl
   rw[e0]
   generalize (f :: r).all (fun f=>Lv p.decls f.params f.result)=z
   simp only[List.map_cons,Uc]
   have q1:decide ((1:Int)≤Sh.len (f :: r))=true:=decide_eq_true (by rw[AK,List.length_cons];omega)
   have q2:decide (1≤(f :: r).length)=true:=by simp
   have q3:decide (Sh.len (f :: r)≤4)=decide ((f :: r).length≤4):=decide_eq_decide.2 (by rw[AK];omega)
   have q4:decide (Sh.len f.params=0)=decide (f.params.length=0):=decide_eq_decide.2 (by rw[AK];omega)
   simp only[q1,q2,q3,q4,Option.bind_some]
   cases decide ((f :: r).length≤4) <;> cases z <;> by_cases a1:f.params.length=0 <;> by_cases a2:f.result=0 <;> simp[a1,a2]
theorem Nt {D:List An} {l:List Bu} (hD:Ms D) (hf:l.length≤1048576) (hp :∀f∈l,f.params.length≤1048576∧f.BH.length≤1048576) {N:Nat} (hN:2000000≤N) :
  Gp N D l=some (LV D (l.map fun f=>(f.params,f.result)) && l.all (fun f=>Bl (G1 f.params f.BH) 0 f.BH)):=by
 unfold Gp LV
 rw[NH hD hN,PJ hf hp hN,Bz]
 have hsplit:(l.all fun f=>Lv D f.params f.result && Bl (G1 f.params f.BH) 0 f.BH)=((l.all fun f=>Lv D f.params f.result) && (l.all fun f=>Bl (G1 f.params f.BH) 0 f.BH)):=by
  clear hf hp
  induction l with
  | nil=>rfl
  | cons f r ih=>
   simp only[List.all_cons,ih]
   cases Lv D f.params f.result <;> cases Bl (G1 f.params f.BH) 0 f.BH <;> simp
 rw[hsplit]
 simp only[Option.bind_some,List.length_map,List.all_map,Function.comp_def]
 cases Lk D with
 | false=>simp
 | true=>
  cases hl:l with
  | nil=>simp[AK]
  | cons f r=>
   have e0:Sh.get (f :: r) 0=some f:=rfl
   rw[e0]
   generalize (f :: r).all (fun f=>Lv D f.params f.result)=z
   generalize (f :: r).all (fun f=>Bl (G1 f.params f.BH) 0 f.BH)=y
   simp only[List.map_cons,Uc]
   have q1:decide (Sh.len (f :: r) < 1)=false:=decide_eq_false (by rw[AK,List.length_cons];omega)
   have q2:decide (1≤(f :: r).length)=true:=by simp
   have q3:decide ((4:Int) < Sh.len (f :: r))=!decide ((f :: r).length≤4):=by rw[← decide_not];exact decide_eq_decide.2 (by rw[AK];omega)
   have q4:decide ((0:Int) < Sh.len f.params)=!decide (f.params.length=0):=by rw[← decide_not];exact decide_eq_decide.2 (by rw[AK];omega)
   simp only[q1,q2,q3,q4,Option.bind_some]
   cases decide ((f :: r).length≤4) <;> cases z <;> cases y <;> by_cases a1:f.params.length=0 <;> by_cases a2:f.result=0 <;> simp[a1,a2]
theorem JX {im:Au} (hl:im.procs.length≤1048576) {N:Nat} (hN:2000000≤N):Fe N im=some ⟨im.decls,im.procs.map UE⟩:=by
 unfold Fe
 have key :∀{N i:Nat},i≤im.procs.length→im.procs.length - i < N→CF im N i ((im.procs.take i).map UE)=some (im.procs.map UE):=by
  intro N i hi hN
  refine BM im.procs.length (fun N i=>CF im N i ((im.procs.take i).map UE)=some (im.procs.map UE)) ?_ ?_ hi hN
  ·intro n;rw[CF,if_neg (by simp[AK]),List.take_length]
  ·intro n i hi ih
   obtain⟨p,hp,_⟩:=BR hi
   rw[CF,if_pos (by simp[AK];omega),Ak hp]
   simp only[Option.bind_some]
   rw[Eh _ _ _ (by simp;omega) (by simp;omega),As (by omega) (by omega),show ((i:Int) + 1)=((i+1:Nat):Int) by omega]
   simp only[Option.bind_some]
   rw[← ih,Ew hp,List.map_append];rfl
 have:=key (Nat.zero_le _) (by omega:im.procs.length - 0 < N)
 rw[show (((0:Nat):Int))=0 from rfl,List.take_zero,List.map_nil] at this
 rw[this];rfl
theorem Qk {im:Au} (hl:im.procs.length≤1048576) {N:Nat} (hN:2000000≤N):CJ im N 0 []=some (im.procs.map Ko):=by
 have key :∀{N i:Nat},i≤im.procs.length→im.procs.length - i < N→CJ im N i ((im.procs.take i).map Ko)=some (im.procs.map Ko):=by
  intro N i hi hN
  refine BM im.procs.length (fun N i=>CJ im N i ((im.procs.take i).map Ko)=some (im.procs.map Ko)) ?_ ?_ hi hN
  ·intro n;rw[CJ,if_neg (by simp[AK]),List.take_length]
  ·intro n i hi ih
   obtain⟨p,hp,_⟩:=BR hi
   rw[CJ,if_pos (by simp[AK];omega),Ak hp]
   simp only[Option.bind_some]
   rw[Eh _ _ _ (by simp;omega) (by simp;omega),As (by omega) (by omega),show ((i:Int) + 1)=((i+1:Nat):Int) by omega]
   simp only[Option.bind_some]
   rw[← ih,Ew hp,List.map_append];rfl
 have:=key (Nat.zero_le _) (by omega:im.procs.length - 0 < N)
 rw[show (((0:Nat):Int))=0 from rfl,List.take_zero,List.map_nil] at this
 exact this
end RC



namespace RC
open Go
def nc (D:List An):Nat:=(D.map (·.cons.length)).sum
theorem J6 {D:List An} {i:Nat} {d:An} (h:D[i]?=some d):nc (D.take (i+1))=nc (D.take i) + d.cons.length:=by
 rw[Ew h];simp[nc]
theorem VY {D:List An} {i:Nat} {d:An} (h:D[i]?=some d):nc (D.drop i)=d.cons.length+nc (D.drop (i+1)):=by
 rw[drop_cons h];simp[nc]
theorem HR (D:List An) (i:Nat):nc D=nc (D.take i) + nc (D.drop i):=by
 unfold nc
 rw[← List.sum_append_nat,← List.map_append,List.take_append_drop]
theorem G2 {D:List An} (hD:D.length≤1048576) (hn:nc D≤1048576) {i:Nat} (hi:i≤D.length) {N:Nat} (hN:2000000≤N):FQ N D i=some (nc (D.take i):Int):=by
 unfold FQ
 have key :∀{N j:Nat},j≤i→i - j < N→DF D i N (nc (D.take j)) j=some (nc (D.take i):Int):=by
  intro N j hj hN
  refine BM i (fun N j=>DF D i N (nc (D.take j)) j=some (nc (D.take i):Int)) ?_ ?_ hj hN
  ·intro n;rw[DF,if_neg (by simp)]
  ·intro n j hj ih
   obtain⟨d,hd,_⟩:=BR (l:=D) (i:=j) (by omega)
   have hs:=HR D (j+1)
   have ht:=J6 hd
   rw[DF,if_pos (by simp;omega),Ak hd]
   simp only[Option.bind_some]
   rw[AK,As (n:=(j:Int) + 1) (by omega) (by omega),As (by omega) (by omega),show ((nc (D.take j):Int) + (d.cons.length:Int))=((nc (D.take (j+1)):Nat):Int) by omega,show ((j:Int) + 1)=((j+1:Nat):Int) by omega]
   exact ih
 have:=key (Nat.zero_le _) (by omega:i - 0 < N)
 rw[show (((nc (D.take 0):Nat):Int))=0 from rfl,show (((0:Nat):Int))=0 from rfl] at this
 rw[this];rfl
theorem KP {D:List An} (hD:D.length≤1048576) (hn:nc D≤1048576) {N:Nat} (hN:2000000≤N):GH N D=some (nc D:Int):=by
 unfold GH
 have key :∀{N j:Nat},j≤D.length→D.length - j < N→DC D N (nc (D.take j)) j=some (nc D:Int):=by
  intro N j hj hN
  refine BM D.length (fun N j=>DC D N (nc (D.take j)) j=some (nc D:Int)) ?_ ?_ hj hN
  ·intro n;rw[DC,if_neg (by simp[AK]),List.take_length]
  ·intro n j hj ih
   obtain⟨d,hd,_⟩:=BR hj
   have hs:=HR D (j+1)
   have ht:=J6 hd
   rw[DC,if_pos (by simp[AK];omega),Ak hd]
   simp only[Option.bind_some]
   rw[AK,As (n:=(j:Int) + 1) (by omega) (by omega),As (by omega) (by omega),show ((nc (D.take j):Int) + (d.cons.length:Int))=((nc (D.take (j+1)):Nat):Int) by omega,show ((j:Int) + 1)=((j+1:Nat):Int) by omega]
   exact ih
 have:=key (Nat.zero_le _) (by omega:D.length - 0 < N)
 rw[show (((nc (D.take 0):Nat):Int))=0 from rfl,show (((0:Nat):Int))=0 from rfl] at this
 rw[this];rfl
def KN:List An→Nat→Nat→Option (Nat×By)
 | [],_,_=>none
 | d :: r,k,c=>match d.cons[c]? with
  | some x=>some (k+1,x)
  | none=>KN r (k+1) (c - d.cons.length)
theorem Rx :∀(D:List An) (k c:Nat),c < nc D→∃t x,KN D k c=some (t,x)∧k < t∧t≤k+D.length
 | [],k,c,h=>by simp[nc] at h
 | d :: r,k,c,h=>by
  unfold KN
  cases hx:d.cons[c]? with
  | some x=>exact⟨k+1,x,rfl,by omega,by simp⟩
  | none=>
   have hc:d.cons.length≤c:=by simpa using hx
   obtain⟨t,x,h1,h2,h3⟩:=Rx r (k+1) (c - d.cons.length) (by simp[nc] at h ⊢;omega)
   exact⟨t,x,h1,by omega,by simp;omega⟩
theorem Rj {D:List An} (hD:D.length≤1048576) (hn:nc D≤1048576) {c:Nat} (hc:c < nc D) {N:Nat} (hN:2000000≤N) :∃t x,KN D 0 c=some (t,x)∧JT N D c=some ((t:Int),x):=by
 have key :∀(m j N c:Nat),D.length - j=m→j≤D.length→m < N→c < nc (D.drop j)→∃t x,KN (D.drop j) j c=some (t,x)∧FT D N c j=some (.inl ((t:Int),x)):=by
  intro m
  induction m with
  | zero=>
   intro j N c h1 h2 _ h3
   rw[List.drop_eq_nil_of_le (by omega)] at h3;simp[nc] at h3
  | succ m ih=>
   intro j N c h1 h2 h3 h4
   obtain⟨N,rfl⟩ :∃n,N=n+1:=⟨N - 1,by omega⟩
   obtain⟨d,hd,_⟩:=BR (l:=D) (i:=j) (by omega)
   have hs:=HR D j
   rw[VY hd] at h4 hs
   rw[drop_cons hd]
   unfold KN
   rw[FT,if_pos (by simp[AK];omega),Ak hd]
   simp only[Option.bind_some]
   rw[if_pos (by simp),AK,As (n:=(j:Int) + 1) (by omega) (by omega),As (by omega) (by omega)]
   cases hx:d.cons[c]? with
   | some x=>
    have hlt:=(List.getElem?_eq_some_iff.1 hx).1
    refine⟨j+1,x,rfl,?_⟩
    have e:((c:Int) < (d.cons.length:Int)):=by omega
    simp[e,Ak hx]
   | none=>
    have hle:d.cons.length≤c:=by simpa using hx
    obtain⟨t,x,g1,g2⟩:=ih (j+1) N (c - d.cons.length) (by omega) (by omega) (by omega) (by omega)
    refine⟨t,x,g1,?_⟩
    have e:¬ ((c:Int) < (d.cons.length:Int)):=by omega
    rw[← g2,show ((c:Int) - (d.cons.length:Int))=((c - d.cons.length:Nat):Int) by omega,show ((j:Int) + 1)=((j+1:Nat):Int) by omega]
    simp[e]
 obtain⟨t,x,g1,g2⟩:=key D.length 0 N c (by omega) (by omega) (by omega) (by simpa using hc)
 refine⟨t,x,by simpa using g1,?_⟩
 unfold JT
 rw[show (((0:Nat):Int))=0 from rfl] at g2
 rw[g2];rfl
end RC
namespace RC
open Go
theorem Kv {D:List An} (hD:D.length≤1048576) (hn:nc D≤1048576) {c:Nat} (hc:c < nc D) {N:Nat} (hN:2000000≤N) :∃t x,KN D 0 c=some (t,x)∧Ez N D c=some (t:Int):=by
 have key :∀(m j M c:Nat),D.length - j=m→j≤D.length→m < M→c < nc (D.drop j)→∃t x,KN (D.drop j) j c=some (t,x)∧CZ N D ((nc (D.take j) + c:Nat):Int) M j=some (.inl (t:Int)):=by
  intro m
  induction m with
  | zero=>
   intro j M c h1 h2 _ h3
   rw[List.drop_eq_nil_of_le (by omega)] at h3;simp[nc] at h3
  | succ m ih=>
   intro j M c h1 h2 h3 h4
   obtain⟨M,rfl⟩ :∃n,M=n+1:=⟨M - 1,by omega⟩
   obtain⟨d,hd,_⟩:=BR (l:=D) (i:=j) (by omega)
   have hs:=HR D j
   rw[VY hd] at h4 hs
   have ht:=J6 hd
   rw[drop_cons hd]
   unfold KN
   rw[CZ,if_pos (by simp[AK];omega),G2 hD hn (by omega) hN,Ak hd]
   simp only[Option.bind_some]
   rw[AK,As (n:=(j:Int) + 1) (by omega) (by omega),As (n:=(nc (D.take j):Int) + (d.cons.length:Int)) (by omega) (by omega),As (by omega) (by omega),A6]
   simp only[Option.bind_some]
   cases hx:d.cons[c]? with
   | some x=>
    have hlt:=(List.getElem?_eq_some_iff.1 hx).1
    refine⟨j+1,x,rfl,?_⟩
    rw[if_pos (by simp;omega)]
    rfl
   | none=>
    have hle:d.cons.length≤c:=by simpa using hx
    obtain⟨t,x,g1,g2⟩:=ih (j+1) M (c - d.cons.length) (by omega) (by omega) (by omega) (by omega)
    refine⟨t,x,g1,?_⟩
    rw[if_neg (by simp;omega),← g2,show nc (D.take j) + c=nc (D.take (j+1)) + (c - d.cons.length) by omega]
    rfl
 obtain⟨t,x,g1,g2⟩:=key D.length 0 N c (by omega) (by omega) (by omega) (by simpa using hc)
 refine⟨t,x,by simpa using g1,?_⟩
 unfold Ez
 rw[show nc (D.take 0) + c=c by simp[nc],show (((0:Nat):Int))=0 from rfl] at g2
 rw[g2];rfl
theorem KK {D:List An} (hD:D.length≤1048576) (hn:nc D≤1048576) {c:Int} (hc:c < 0∨(nc D:Int)≤c) {N:Nat} (hN:2000000≤N):Ez N D c=some (-1):=by
 unfold Ez
 have key :∀{M j:Nat},j≤D.length→D.length - j < M→CZ N D c M j=some (.inr ()):=by
  intro M j hj hM
  refine BM D.length (fun M j=>CZ N D c M j=some (.inr ())) ?_ ?_ hj hM
  ·intro n;rw[CZ,if_neg (by simp[AK])]
  ·intro n j hj ih
   obtain⟨d,hd,_⟩:=BR hj
   have hs:=HR D (j+1)
   have ht:=J6 hd
   rw[CZ,if_pos (by simp[AK];omega),G2 hD hn (by omega) hN,Ak hd]
   simp only[Option.bind_some]
   rw[AK,As (n:=(j:Int) + 1) (by omega) (by omega),As (n:=(nc (D.take j):Int) + (d.cons.length:Int)) (by omega) (by omega),As (by omega) (by omega),A6]
   simp only[Option.bind_some]
   rw[if_neg (by simp;omega)]
   exact ih
 have:=key (Nat.zero_le _) (by omega:D.length - 0 < N)
 rw[show (((0:Nat):Int))=0 from rfl] at this
 rw[this];rfl
end RC
namespace RC
open Go
theorem Vv {D:List An} :∀(m j c t:Nat) (x:By),D.length - j=m→j≤D.length→KN (D.drop j) j c=some (t,x)→∃d,1≤t∧D[t - 1]?=some d∧nc (D.take (t - 1))≤nc (D.take j) + c∧d.cons[nc (D.take j) + c - nc (D.take (t - 1))]?=some x:=by
 intro m
 induction m with
 | zero=>
  intro j c t x h1 h2 h
  rw[List.drop_eq_nil_of_le (by omega)] at h;simp[KN] at h
 | succ m ih=>
  intro j c t x h1 h2 h
  obtain⟨d,hd,_⟩:=BR (l:=D) (i:=j) (by omega)
  have ht:=J6 hd
  rw[drop_cons hd] at h
  unfold KN at h
  cases hx:d.cons[c]? with
  | some y=>
   rw[hx] at h
   simp only[Option.some.injEq,Prod.mk.injEq] at h
   obtain⟨rfl,rfl⟩:=h
   exact⟨d,by omega,by simpa using hd,by simp,by simpa using hx⟩
  | none=>
   rw[hx] at h
   have hle:d.cons.length≤c:=by simpa using hx
   obtain⟨e,g1,g2,g3,g4⟩:=ih (j+1) (c - d.cons.length) t x (by omega) (by omega) h
   rw[show nc (D.take (j+1)) + (c - d.cons.length)=nc (D.take j) + c by omega] at g3 g4
   exact⟨e,g1,g2,g3,g4⟩
theorem Ny {D:List An} (hD:D.length≤1048576) (hn:nc D≤1048576) {c:Nat} (hc:c < nc D) {N:Nat} (hN:2000000≤N) :∃t x,KN D 0 c=some (t,x)∧Fa N D c=some x.fields:=by
 obtain⟨t,x,e1,e2⟩:=Kv hD hn hc hN
 obtain⟨d,g1,g2,g3,g4⟩:=Vv (D:=D) D.length 0 c t x (by omega) (by omega) (by simpa using e1)
 have hlt:=(List.getElem?_eq_some_iff.1 g2).1
 have hs:=HR D (t - 1)
 rw[show nc (D.take 0) + c=c by simp[nc]] at g3 g4
 refine⟨t,x,e1,?_⟩
 unfold Fa
 rw[e2]
 simp only[Option.bind_some]
 rw[if_neg (by simp;omega),As (n:=(t:Int) - 1) (by omega) (by omega),show ((t:Int) - 1)=((t - 1:Nat):Int) by omega,Ak g2,G2 hD hn (by omega) hN]
 simp only[Option.bind_some]
 rw[As (by omega) (by omega),show ((c:Int) - (nc (D.take (t - 1)):Int))=((c - nc (D.take (t - 1)):Nat):Int) by omega,Ak g4]
 rfl
theorem OX {D:List An} (hD:D.length≤1048576) (hn:nc D≤1048576) {c:Nat} (hc:c < nc D) {N:Nat} (hN:2000000≤N) :∃t x,KN D 0 c=some (t,x)∧HB N D c=some x.fields:=by
 obtain⟨t,x,e1,e2⟩:=Rj hD hn hc hN
 exact⟨t,x,e1,by unfold HB;rw[e2];rfl⟩
end RC
namespace RC
open Go
def Rt (D:List An) (t:Int):List Int:=
 if 1≤t∧t≤(D.length:Int) then (List.range ((D[(t - 1).toNat]?).elim 0 (·.cons.length))).map fun (i:Nat)=>(nc (D.take (t - 1).toNat):Int) + (i:Int) else []
theorem QK {f:Nat→Int} {i:Nat}:(List.range (i+1)).map f=(List.range i).map f ++ [f i]:=by rw[List.range_succ,List.map_append];rfl
theorem Qq {D:List An} (hD:D.length≤1048576) (hn:nc D≤1048576) {t:Int} {N:Nat} (hN:2000000≤N):HS N D t=some (Rt D t):=by
 unfold HS Rt
 rw[A6,AK]
 simp only[Option.bind_some]
 by_cases h:1≤t∧t≤(D.length:Int)
 ·obtain⟨a,ha⟩ :∃a:Nat,t=(a:Int) + 1:=⟨(t - 1).toNat,by omega⟩
  subst ha
  obtain⟨d,hd,_⟩:=BR (l:=D) (i:=a) (by omega)
  have hs:=HR D (a+1)
  have ht:=J6 hd
  rw[if_neg (by simp;omega),if_pos h,show (((a:Int) + 1) - 1).toNat=a by omega,hd]
  simp only[Option.elim_some]
  have key :∀{M i:Nat},i≤d.cons.length→d.cons.length - i < M→EA N D ((a:Int) + 1) M i ((List.range i).map fun (i:Nat)=>(nc (D.take a):Int) + (i:Int))=some ((List.range d.cons.length).map fun (i:Nat)=>(nc (D.take a):Int) + (i:Int)):=by
   intro M i hi hM
   refine BM d.cons.length (fun M i=>EA N D ((a:Int) + 1) M i ((List.range i).map fun (i:Nat)=>(nc (D.take a):Int) + (i:Int))=some ((List.range d.cons.length).map fun (i:Nat)=>(nc (D.take a):Int) + (i:Int))) ?_ ?_ hi hM
   ·intro n
    rw[EA,As (by omega) (by omega),show ((a:Int) + 1 - 1)=((a:Nat):Int) by omega,Ak hd]
    simp only[Option.bind_some]
    rw[if_neg (by simp[AK])]
   ·intro n i hi ih
    rw[EA,As (n:=(a:Int) + 1 - 1) (by omega) (by omega),show ((a:Int) + 1 - 1)=((a:Nat):Int) by omega,Ak hd]
    simp only[Option.bind_some]
    rw[if_pos (by simp[AK];omega),G2 hD hn (by omega) hN]
    simp only[Option.bind_some]
    rw[Eh _ _ _ (by simp;omega) (by simp;omega),As (n:=(i:Int) + 1) (by omega) (by omega),As (by omega) (by omega),show ((i:Int) + 1)=((i+1:Nat):Int) by omega]
    simp only[Option.bind_some]
    rw[← ih,QK]
  have:=key (Nat.zero_le _) (by omega:d.cons.length - 0 < N)
  rw[show (((0:Nat):Int))=0 from rfl,List.range_zero,List.map_nil] at this
  rw[this];rfl
 ·rw[if_pos (by simp;omega),if_neg h]
theorem Qr {D:List An} (hD:D.length≤1048576) (hn:nc D≤1048576) {t:Int} {N:Nat} (hN:2000000≤N):IZ N D t=some (Rt D t):=by
 unfold IZ Rt
 rw[AK]
 by_cases h:1≤t∧t≤(D.length:Int)
 ·obtain⟨a,ha⟩ :∃a:Nat,t=(a:Int) + 1:=⟨(t - 1).toNat,by omega⟩
  subst ha
  obtain⟨d,hd,_⟩:=BR (l:=D) (i:=a) (by omega)
  have hs:=HR D (a+1)
  have hs0:=HR D a
  have ht:=J6 hd
  have e1:¬ ((a:Int) + 1 < 1):=by omega
  have e2:¬ ((D.length:Int) < (a:Int) + 1):=by omega
  rw[if_pos h,show (((a:Int) + 1) - 1).toNat=a by omega,hd,As (by omega) (by omega),show ((a:Int) + 1 - 1)=((a:Nat):Int) by omega,U2 (by omega) (by omega),Ak hd]
  simp only[Option.elim_some,e1,e2,decide_false,Bool.false_eq_true,if_false,Option.bind_some]
  rw[KP (by simp;omega) (by omega) hN]
  simp only[Option.bind_some]
  have key :∀{M i:Nat},i≤d.cons.length→d.cons.length - i < M→D6 d (nc (D.take a):Int) M i ((List.range i).map fun (i:Nat)=>(nc (D.take a):Int) + (i:Int))=some ((List.range d.cons.length).map fun (i:Nat)=>(nc (D.take a):Int) + (i:Int)):=by
   intro M i hi hM
   refine BM d.cons.length (fun M i=>D6 d (nc (D.take a):Int) M i ((List.range i).map fun (i:Nat)=>(nc (D.take a):Int) + (i:Int))=some ((List.range d.cons.length).map fun (i:Nat)=>(nc (D.take a):Int) + (i:Int))) ?_ ?_ hi hM
   ·intro n;rw[D6,if_neg (by simp[AK])]
   ·intro n i hi ih
    rw[D6,if_pos (by simp[AK];omega)]
    rw[Eh _ _ _ (by simp;omega) (by simp;omega),As (n:=(i:Int) + 1) (by omega) (by omega),As (by omega) (by omega),show ((i:Int) + 1)=((i+1:Nat):Int) by omega]
    simp only[Option.bind_some]
    rw[← ih,QK]
  have:=key (Nat.zero_le _) (by omega:d.cons.length - 0 < N)
  rw[show (((0:Nat):Int))=0 from rfl,List.range_zero,List.map_nil] at this
  rw[this];rfl
 ·rw[if_neg h]
  by_cases e1:t < 1
  ·simp[e1]
  ·have e2:(D.length:Int) < t:=by omega
   simp[e1,e2]
end RC



namespace RC
open Go
theorem LK {α:Type} {l:List α} (f:α→Nat) (L:Nat→Int→Int→Option (Int ⊕ Int)) (h0 :∀n left,L (n+1) left (l.length:Int)=some (.inr left))
  (hs :∀n (i:Nat) x left,l[i]?=some x→0≤left→left≤1048576→L (n+1) left (i:Int)=if left - (f x:Int) < 0 then some (.inl (-1)) else L n (left - (f x:Int)) ((i+1:Nat):Int))
  {N:Nat} (hN:l.length < N) {left:Int} (hl0:0≤left) (hl1:left≤1048576):L N left 0=some (if left - ((l.map f).sum:Nat) < 0 then .inl (-1) else .inr (left - ((l.map f).sum:Nat))):=by
 have key :∀{N i:Nat},i≤l.length→l.length - i < N→∀left:Int,0≤left→left≤1048576→L N left (i:Int)=some (if left - (((l.drop i).map f).sum:Nat) < 0 then .inl (-1) else .inr (left - (((l.drop i).map f).sum:Nat))):=by
  intro N i hi hN
  refine BM l.length (fun N i=>∀left:Int,0≤left→left≤1048576→L N left (i:Int)=some (if left - (((l.drop i).map f).sum:Nat) < 0 then .inl (-1) else .inr (left - (((l.drop i).map f).sum:Nat)))) ?_ ?_ hi hN
  ·intro n left a b
   rw[h0,List.drop_length]
   simp
   omega
  ·intro n i hi ih left a b
   obtain⟨x,hx,_⟩:=BR hi
   rw[hs n i x left hx a b,drop_cons hx,List.map_cons,List.sum_cons]
   by_cases h:left - (f x:Int) < 0
   ·rw[if_pos h,if_pos (by omega)]
   ·rw[if_neg h,ih (left - (f x:Int)) (by omega) (by omega)]
    rw[show left - ((f x+(List.map f (l.drop (i+1))).sum:Nat):Int)=left - (f x:Int) - ((List.map f (l.drop (i+1))).sum:Nat) by omega]
 have:=key (Nat.zero_le _) (by omega:l.length - 0 < N) left hl0 hl1
 simpa using this
theorem Mb {α:Type} {l:List α} (L:Nat→Int→List α→Option (List α)) (h0 :∀n m,L (n+1) (l.length:Int) m=some m)
  (hs :∀n (i:Nat) x m,l[i]?=some x→m.length=l.length→L (n+1) (i:Int) m=L n ((i+1:Nat):Int) (m.set i x)) {N:Nat} (hN:l.length < N) {m:List α} (hm:m.length=l.length):L N 0 m=some l:=by
 have key :∀{N i:Nat},i≤l.length→l.length - i < N→∀m:List α,m.length=l.length→m.take i=l.take i→L N (i:Int) m=some l:=by
  intro N i hi hN
  refine BM l.length (fun N i=>∀m:List α,m.length=l.length→m.take i=l.take i→L N (i:Int) m=some l) ?_ ?_ hi hN
  ·intro n m a b
   rw[h0]
   rw[List.take_length,← a,List.take_length] at b
   rw[b]
  ·intro n i hi ih m a b
   obtain⟨x,hx,_⟩:=BR hi
   rw[hs n i x m hx a]
   refine ih (m.set i x) (by simp[a]) ?_
   have hi':(m.set i x)[i]?=some x:=by rw[List.getElem?_set_self (by omega)]
   rw[Ew hi',Ew hx,← b,List.take_set_of_le (Nat.le_refl _)]
 exact key (Nat.zero_le _) (by omega:l.length - 0 < N) m hm rfl
end RC



namespace RC
open Go
def NJ (left:Int) (s:Nat):Int:=if left - s < 0 then -1 else left - s
theorem Bk {left:Int} {s:Nat} (h:left - s < 0):NJ left s=-1:=if_pos h
theorem Cv {left:Int} {s:Nat} (h:¬ left - s < 0):NJ left s=left - s:=if_neg h
def cz (c:By):Nat:=c.fields.length
def dz (d:An):Nat:=d.cons.length+(d.cons.map cz).sum
def iz (i:Ag):Nat:=i.args.length+i.jumps.length
def pz (p:A0):Nat:=p.params.length+p.BH.length+(p.code.length+(p.code.map iz).sum)
def Lx (x:Au):Nat:=(x.decls.length+(x.decls.map dz).sum) + (x.procs.length+(x.procs.map pz).sum)
theorem Xj {c:By} (hc:Og c) {left:Int} (h0:0≤left) (h1:left≤1048576):Ja c left=some (NJ left (cz c)):=by
 unfold Ja
 rw[Fs h0 h1 hc.fields.2]
 unfold NJ cz
 by_cases h:left - (c.fields.length:Int) < 0
 ·rw[if_pos h];rfl
 ·rw[if_neg h];simp[h]
theorem W7 {l:List By} (hl:Cb Og l) {left:Int} (h0:0≤left) (h1:left≤1048576) {N:Nat} (hN:2000000≤N):IL N l left=some (NJ left (l.length+(l.map cz).sum)):=by
 unfold IL
 have hlen:=hl.2
 rw[AK,As (by omega) (by omega)]
 by_cases h:left - (l.length:Int) < 0
 ·rw[if_pos (by simpa using h),Bk (by omega)]
 ·rw[if_neg (by simpa using h),LK (l:=l) cz (Em l) (fun n left=>by rw[Em,if_neg (by simp[AK])]) (fun n i x left hx a b=>?_) (by omega) (by omega) (by omega)]
  ·by_cases g:left - (l.length:Int) - ((l.map cz).sum:Nat) < 0
   ·rw[if_pos g,Bk (by omega)];rfl
   ·rw[if_neg g,Cv (by omega)]
    show some _=some _
    congr 1;omega
  ·have hi:=(List.getElem?_eq_some_iff.1 hx).1
   rw[Em,if_pos (by simp[AK];omega),Ak hx]
   simp only[Option.bind_some]
   rw[Xj (hl.1 x (List.mem_of_getElem? hx)) a b,As (by omega) (by omega),show ((i:Int) + 1)=((i+1:Nat):Int) by omega]
   simp only[Option.bind_some]
   by_cases g:left - (cz x:Int) < 0
   ·rw[if_pos g,Bk g];rfl
   ·rw[if_neg g,Cv g,if_neg (by simpa using g)]
end RC
namespace RC
open Go
theorem Wu {d:An} (hd:Ml d) {left:Int} (h0:0≤left) (h1:left≤1048576) {N:Nat} (hN:2000000≤N):IY N d left=some (NJ left (dz d)):=by
 unfold IY
 rw[W7 hd.cons h0 h1 hN]
 simp only[Option.bind_some]
 by_cases a:left - ((d.cons.length+(d.cons.map cz).sum:Nat):Int) < 0
 ·rw[Bk a,Bk (by unfold dz;omega)];rfl
 ·rw[Cv a,if_neg (by simpa using a),Cv (by unfold dz;omega)];rfl
theorem U9 {l:List An} (hl:Cb Ml l) {left:Int} (h0:0≤left) (h1:left≤1048576) {N:Nat} (hN:2000000≤N):Ht N l left=some (NJ left (l.length+(l.map dz).sum)):=by
 unfold Ht
 have hlen:=hl.2
 rw[AK,As (by omega) (by omega)]
 by_cases h:left - (l.length:Int) < 0
 ·rw[if_pos (by simpa using h),Bk (by omega)]
 ·rw[if_neg (by simpa using h),LK (l:=l) dz (EH N l) (fun n left=>by rw[EH,if_neg (by simp[AK])]) (fun n i x left hx a b=>?_) (by omega) (by omega) (by omega)]
  ·by_cases g:left - (l.length:Int) - ((l.map dz).sum:Nat) < 0
   ·rw[if_pos g,Bk (by omega)];rfl
   ·rw[if_neg g,Cv (by omega)]
    show some _=some _
    congr 1;omega
  ·have hi:=(List.getElem?_eq_some_iff.1 hx).1
   rw[EH,if_pos (by simp[AK];omega),Ak hx]
   simp only[Option.bind_some]
   rw[Wu (hl.1 x (List.mem_of_getElem? hx)) a b hN,As (by omega) (by omega),show ((i:Int) + 1)=((i+1:Nat):Int) by omega]
   simp only[Option.bind_some]
   by_cases g:left - (dz x:Int) < 0
   ·rw[if_pos g,Bk g];rfl
   ·rw[if_neg g,Cv g,if_neg (by simpa using g)]
theorem VQ {i:Ag} (hi:LS i) {left:Int} (h0:0≤left) (h1:left≤1048576):Hl i left=some (NJ left (iz i)):=by
 unfold Hl
 rw[Fs h0 h1 hi.args.2]
 simp only[Option.bind_some]
 by_cases a:left - (i.args.length:Int) < 0
 ·rw[if_pos a,Bk (by unfold iz;omega)];rfl
 ·rw[if_neg a,if_neg (by simpa using a),Fs (by omega) (by omega) hi.jumps.2]
  simp only[Option.bind_some]
  by_cases b:left - (i.args.length:Int) - (i.jumps.length:Int) < 0
  ·rw[if_pos b,Bk (by unfold iz;omega)];rfl
  ·rw[if_neg b,if_neg (by simpa using b),Cv (by unfold iz;omega)]
   congr 1;unfold iz;omega
theorem Ug {l:List Ag} (hl:Cb LS l) {left:Int} (h0:0≤left) (h1:left≤1048576) {N:Nat} (hN:2000000≤N):G6 N l left=some (NJ left (l.length+(l.map iz).sum)):=by
 unfold G6
 have hlen:=hl.2
 rw[AK,As (by omega) (by omega)]
 by_cases h:left - (l.length:Int) < 0
 ·rw[if_pos (by simpa using h),Bk (by omega)]
 ·rw[if_neg (by simpa using h),LK (l:=l) iz (Dm l) (fun n left=>by rw[Dm,if_neg (by simp[AK])]) (fun n i x left hx a b=>?_) (by omega) (by omega) (by omega)]
  ·by_cases g:left - (l.length:Int) - ((l.map iz).sum:Nat) < 0
   ·rw[if_pos g,Bk (by omega)];rfl
   ·rw[if_neg g,Cv (by omega)]
    show some _=some _
    congr 1;omega
  ·have hi:=(List.getElem?_eq_some_iff.1 hx).1
   rw[Dm,if_pos (by simp[AK];omega),Ak hx]
   simp only[Option.bind_some]
   rw[VQ (hl.1 x (List.mem_of_getElem? hx)) a b,As (by omega) (by omega),show ((i:Int) + 1)=((i+1:Nat):Int) by omega]
   simp only[Option.bind_some]
   by_cases g:left - (iz x:Int) < 0
   ·rw[if_pos g,Bk g];rfl
   ·rw[if_neg g,Cv g,if_neg (by simpa using g)]
theorem V8 {p:A0} (hp:Me p) {left:Int} (h0:0≤left) (h1:left≤1048576) {N:Nat} (hN:2000000≤N):IV N p left=some (NJ left (pz p)):=by
 unfold IV
 rw[Fs h0 h1 hp.params.2]
 simp only[Option.bind_some]
 by_cases a:left - (p.params.length:Int) < 0
 ·rw[if_pos a,Bk (by unfold pz;omega)];rfl
 ·rw[if_neg a,if_neg (by simpa using a),Fs (by omega) (by omega) hp.BH.2]
  simp only[Option.bind_some]
  by_cases b:left - (p.params.length:Int) - (p.BH.length:Int) < 0
  ·rw[if_pos b,Bk (by unfold pz;omega)];rfl
  ·rw[if_neg b,if_neg (by simpa using b),Ug hp.code (by omega) (by omega) hN]
   simp only[Option.bind_some]
   by_cases c:left - (p.params.length:Int) - (p.BH.length:Int) - ((p.code.length+(p.code.map iz).sum:Nat):Int) < 0
   ·rw[Bk c,Bk (by unfold pz;omega)];rfl
   ·rw[Cv c,if_neg (by simpa using c),Cv (by unfold pz;omega)]
    congr 1;unfold pz;omega
theorem VR {l:List A0} (hl:Cb Me l) {left:Int} (h0:0≤left) (h1:left≤1048576) {N:Nat} (hN:2000000≤N):Hd N l left=some (NJ left (l.length+(l.map pz).sum)):=by
 unfold Hd
 have hlen:=hl.2
 rw[AK,As (by omega) (by omega)]
 by_cases h:left - (l.length:Int) < 0
 ·rw[if_pos (by simpa using h),Bk (by omega)]
 ·rw[if_neg (by simpa using h),LK (l:=l) pz (ER N l) (fun n left=>by rw[ER,if_neg (by simp[AK])]) (fun n i x left hx a b=>?_) (by omega) (by omega) (by omega)]
  ·by_cases g:left - (l.length:Int) - ((l.map pz).sum:Nat) < 0
   ·rw[if_pos g,Bk (by omega)];rfl
   ·rw[if_neg g,Cv (by omega)]
    show some _=some _
    congr 1;omega
  ·have hi:=(List.getElem?_eq_some_iff.1 hx).1
   rw[ER,if_pos (by simp[AK];omega),Ak hx]
   simp only[Option.bind_some]
   rw[V8 (hl.1 x (List.mem_of_getElem? hx)) a b hN,As (by omega) (by omega),show ((i:Int) + 1)=((i+1:Nat):Int) by omega]
   simp only[Option.bind_some]
   by_cases g:left - (pz x:Int) < 0
   ·rw[if_pos g,Bk g];rfl
   ·rw[if_neg g,Cv g,if_neg (by simpa using g)]
theorem VU {x:Au} (hx:Pr x) {left:Int} (h0:0≤left) (h1:left≤1048576) {N:Nat} (hN:2000000≤N):Hs N x left=some (NJ left (Lx x)):=by
 unfold Hs
 rw[U9 hx.decls h0 h1 hN]
 simp only[Option.bind_some]
 by_cases a:left - ((x.decls.length+(x.decls.map dz).sum:Nat):Int) < 0
 ·rw[Bk a,Bk (by unfold Lx;omega)];rfl
 ·rw[Cv a,if_neg (by simpa using a),VR hx.procs (by omega) (by omega) hN]
  simp only[Option.bind_some]
  by_cases b:left - ((x.decls.length+(x.decls.map dz).sum:Nat):Int) - ((x.procs.length+(x.procs.map pz).sum:Nat):Int) < 0
  ·rw[Bk b,Bk (by unfold Lx;omega)];rfl
  ·rw[Cv b,if_neg (by simpa using b),Cv (by unfold Lx;omega)]
   congr 1;unfold Lx;omega
end RC



namespace RC
open Go
def Is (r:Int) (a:Int):Bool:=decide (0≤a) && decide (a < r)
def Gg (at_ L:Int) (j:Int):Bool:=decide (at_ < j) && decide (j < L)
theorem Sf {i:Ag} {p:A0} (r1:1≤p.Ab) (r2:p.Ab≤2000) (hl:i.args.length≤1048576) {N:Nat} (hN:2000000≤N):CQ i p N 0=some (if i.args.all (Is p.Ab)=true then .inr () else .inl false):=by
 rw[Bo (l:=i.args) (CQ i p) (fun _ a=>Is p.Ab a) (fun n=>by rw[CQ,if_neg (by simp[AK])]) (fun n k x hx=>?_) (by omega),CW]
 have hk:=(List.getElem?_eq_some_iff.1 hx).1
 rw[CQ,if_pos (by simp[AK];omega),Ak hx]
 simp only[Option.bind_some]
 rw[A6,As (by omega) (by omega),As (by omega) (by omega)]
 have e:decide (x≤p.Ab - 1)=decide (x < p.Ab):=decide_eq_decide.2 (by omega)
 rw[e]
 simp only[Option.bind_some]
 unfold Is
 cases h:(decide (0≤x) && decide (x < p.Ab)) <;> simp
theorem Sz {i:Ag} {p:A0} (hl:i.args.length≤1048576) {N:Nat} (hN:2000000≤N):BU p i N 0=some (if i.args.all (Is p.Ab)=true then .inr () else .inl false):=by
 rw[Bo (l:=i.args) (BU p i) (fun _ a=>Is p.Ab a) (fun n=>by rw[BU,if_neg (by simp[AK])]) (fun n k x hx=>?_) (by omega),CW]
 have hk:=(List.getElem?_eq_some_iff.1 hx).1
 rw[BU,if_pos (by simp[AK];omega),Ak hx,As (by omega) (by omega)]
 simp only[Option.bind_some]
 unfold Is
 by_cases h1:x < 0
 ·have:¬ 0≤x:=by omega
  simp[h1,this]
 ·have h2:0≤x:=by omega
  by_cases h3:p.Ab≤x
  ·have:¬ x < p.Ab:=by omega
   simp[h1,h2,h3,this]
  ·have:x < p.Ab:=by omega
   simp[h1,h2,h3,this]
theorem SS {l:List Int} {n a L:Int} (hl:l.length≤1048576) (ha:0≤a) (ha2:a≤2000) (hL:0≤L) (hL2:L≤2000) {N:Nat} (hN:2000000≤N):FO N l n a L=some (decide ((l.length:Int)=n) && l.all (Gg a L)):=by
 unfold FO
 rw[AK]
 by_cases h:(l.length:Int)=n
 ·subst h
  rw[Bo (l:=l) (C3 l l.length a L) (fun _ j=>Gg a L j) (fun n=>by rw[C3,if_neg (by simp)]) (fun n k x hx=>?_) (by omega),CW,Bz]
  ·cases h:l.all (Gg a L) <;> simp
  ·have hk:=(List.getElem?_eq_some_iff.1 hx).1
   rw[C3,if_pos (by simp;omega),Ak hx]
   simp only[Option.bind_some]
   rw[A6,As (by omega) (by omega),As (by omega) (by omega),As (by omega) (by omega)]
   have e1:decide (a+1≤x)=decide (a < x):=decide_eq_decide.2 (by omega)
   have e2:decide (x≤L - 1)=decide (x < L):=decide_eq_decide.2 (by omega)
   rw[e1,e2]
   simp only[Option.bind_some]
   unfold Gg
   cases h:(decide (a < x) && decide (x < L)) <;> simp
 ·simp[h]
theorem HI {a:Int} {p:A0} (x:Int):B0 a p.params p.BH p.result p.Ab p.code x=some (Gg a p.code.length x):=by
 unfold B0 Gg
 rw[AK]
 by_cases h:a < x <;> simp[h]
theorem T7 {a:Int} {p:A0} {l:List Int} (hl:l.length≤1048576) {N i:Nat} (hi:i≤l.length) (hN:l.length - i < N) :
  ∃r,BZ a p.params p.BH p.result p.Ab p.code l N (i:Int)=some r∧((l.drop i).all (Gg a p.code.length)=true→r=.inr ())∧((l.drop i).all (Gg a p.code.length)=false→∃k:Nat,r=.inl (k:Int)):=by
 refine BM l.length (fun N i=>∃r,BZ a p.params p.BH p.result p.Ab p.code l N (i:Int)=some r∧((l.drop i).all (Gg a p.code.length)=true→r=.inr ())∧((l.drop i).all (Gg a p.code.length)=false→∃k:Nat,r=.inl (k:Int))) ?_ ?_ hi hN
 ·intro n
  exact⟨.inr (),by rw[BZ,if_neg (by simp[AK])],fun _=>rfl,fun h=>by simp at h⟩
 ·intro n i hi ⟨r,h1,h2,h3⟩
  obtain⟨x,hx,_⟩:=BR hi
  rw[BZ,if_pos (by simp[AK];omega),Ak hx]
  simp only[Option.bind_some]
  unfold Ds
  rw[HI,I3 hx]
  simp only[Option.bind_some]
  cases hj:Gg a p.code.length x with
  | false=>exact⟨.inl (i:Int),by simp,fun h=>by simp at h,fun _=>⟨i,rfl⟩⟩
  | true=>
   refine⟨r,?_,fun h=>h2 (by simpa using h),fun h=>h3 (by simpa using h)⟩
   rw[As (by omega) (by omega),show ((i:Int) + 1)=((i+1:Nat):Int) by omega,h1]
   simp
theorem contains_eq {a:Int} {p:A0} {l:List Int} (hl:l.length≤1048576) {N:Nat} (hN:2000000≤N):B6 N a p.params p.BH p.result p.Ab p.code l=some (!l.all (Gg a p.code.length)):=by
 unfold B6 Ep
 obtain⟨r,h1,h2,h3⟩:=T7 (a:=a) (p:=p) hl (Nat.zero_le _) (by omega:l.length - 0 < N)
 rw[show ((0:Nat):Int)=0 from rfl] at h1
 rw[List.drop_zero] at h2 h3
 rw[h1]
 cases h:l.all (Gg a p.code.length) with
 | true=>rw[h2 h];rfl
 | false=>
  obtain⟨k,hk⟩:=h3 h
  rw[hk]
  simp
end RC


namespace RC
open Go
structure I0 (im:Au) (p:A0) (at_:Nat) (i:Ag):Prop where
 code:p.code[at_]?=some i
 r1:1≤p.Ab
 r2:p.Ab≤2000
 cl:p.code.length≤2000
 al:i.args.length≤1048576
 jl:i.jumps.length≤1048576
 dl:im.decls.length≤1048576
 nn:nc im.decls≤1048576
 pl:im.procs.length≤1048576
 pp :∀q∈im.procs,q.params.length≤1048576
theorem I0.at {im:Au} {p:A0} {at_:Nat} {i:Ag} (H:I0 im p at_ i):at_ < p.code.length:=(List.getElem?_eq_some_iff.1 H.code).1
def GN (op:Int):Bool:=(decide (0≤op) && decide (op≤11) && !decide (op=7) && !decide (op=8)) || decide (op=18) || decide (op=19)
theorem Nf (op:Int):I2 op=some (GN op):=by
 unfold I2 JK GN
 rw[A6]
 simp only[Option.bind_some]
 by_cases h1:0≤op <;> by_cases h2:op≤11 <;> by_cases h3:op=7 <;> by_cases h4:op=8 <;> by_cases h5:op=18 <;> simp[h1,h2,h3,h4,h5] <;> omega
theorem NX {op:Int} (h7:op≠7) (h8:op≠8):Et op=some (GN op):=by
 unfold Et GN
 by_cases h1:0≤op <;> by_cases h2:op≤11 <;> by_cases h5:op=18 <;> simp[h1,h2,h7,h8,h5] <;> omega
def Bq (N:Nat) (p0:Au) (p1:A0) (p2:Int) (c3:Ag):Option Bool:=
 if (decide (c3.op=0))=true then
  Option.bind (
   if (decide ((Sh.len c3.args)=0))=true then
    Option.bind (At c3.num (-999) 999) fun q23=>
    some q23
   else
    some false
  ) fun t20=>
  some t20
 else
  Option.bind (
   if (decide (c3.op=1))=true then
    some true
   else
   if (decide (c3.op=2))=true then
    some true
   else
   if (decide (c3.op=3))=true then
    some true
   else
   if (decide (c3.op=4))=true then
    some true
   else
    some (decide (c3.op=11))
  ) fun t25=>
  if t25=true then
   Option.bind (
    if (decide ((Sh.len c3.args)=2))=true then
     some (decide (c3.num=0))
    else
     some false
   ) fun t29=>
   some t29
  else
   Option.bind (
    if (decide (c3.op=5))=true then
     some true
    else
    if (decide (c3.op=14))=true then
     some true
    else
    if (decide (c3.op=15))=true then
     some true
    else
    if (decide (c3.op=18))=true then
     some true
    else
     some (decide (c3.op=23))
   ) fun t33=>
   if t33=true then
    Option.bind (
     if (decide ((Sh.len c3.args)=1))=true then
      some (decide (c3.num=0))
     else
      some false
    ) fun t37=>
    some t37
   else
   if (decide (c3.op=6))=true then
    Option.bind (
     Option.bind (Ez N p0.decls c3.num) fun q45=>
     if (decide (0 < q45))=true then
      Option.bind (Fa N p0.decls c3.num) fun q47=>
      if (decide ((Sh.len c3.args)=(Sh.len q47)))=true then
       Option.bind (At c3.BY 0 p1.Ab) fun q49=>
       some q49
      else
       some false
     else
      some false
    ) fun t43=>
    some t43
   else
    Option.bind (
     if (decide (c3.op=9))=true then
      some true
     else
      some (decide (c3.op=24))
    ) fun t51=>
    if t51=true then
     Option.bind (EY p0 c3.num (Sh.len c3.args) 0) fun q55=>
     some q55
    else
    if (decide (c3.op=10))=true then
     Option.bind (
      Option.bind (EY p0 c3.num (Sh.len c3.args) 1) fun q61=>
      if q61=true then
       Option.bind (Sh.get p0.procs c3.num) fun c63=>
       some (decide ((Sh.len c63.BH)=0))
      else
       some false
     ) fun t59=>
     some t59
    else
     Option.bind (
      if (decide (c3.op=16))=true then
       some true
      else
       some (decide (c3.op=17))
     ) fun t65=>
     if t65=true then
      Option.bind (
       Option.bind (At (Sh.len c3.args) 1 4) fun q71=>
       if q71=true then
        some (decide (c3.num=0))
       else
        some false
      ) fun t69=>
      some t69
     else
     if (decide (c3.op=19))=true then
      Option.bind (
       if (decide ((Sh.len c3.args)=1))=true then
        Option.bind (At c3.num 0 2) fun q79=>
        some q79
       else
        some false
      ) fun t76=>
      some t76
     else
     if (decide (c3.op=20))=true then
      Option.bind (
       if (decide ((Sh.len c3.args)=1))=true then
        Option.bind (At c3.num (Sh.w (p2+1)) (Sh.w ((Sh.len p1.code) - 1))) fun q86=>
        some q86
       else
        some false
      ) fun t83=>
      some t83
     else
     if (decide (c3.op=22))=true then
      Option.bind (
       if (decide ((Sh.len c3.args)=0))=true then
        Option.bind (At c3.num (Sh.w (p2+1)) (Sh.w ((Sh.len p1.code) - 1))) fun q93=>
        some q93
       else
        some false
      ) fun t90=>
      some t90
     else
     if (decide (c3.op=21))=true then
      Option.bind (HS N p0.decls c3.num) fun q97=>
      Option.bind (
       if (decide ((Sh.len c3.args)=1))=true then
        if (decide (0 < (Sh.len q97)))=true then
         Option.bind (FO N c3.jumps (Sh.len q97) p2 (Sh.len p1.code)) fun q103=>
         some q103
        else
         some false
       else
        some false
      ) fun t99=>
      some t99
     else
      some false
def B4 (N:Nat) (p0:CR) (p1:A0) (p2:Int) (p3:Ag):Option Bool:=
 Option.bind (Aq N p2 p1.params p1.BH p1.result p1.Ab p1.code p0 p3) fun q27=>
 if (!q27)=true then
  some false
 else
  Option.bind (Ay N p0 p3) fun q33=>
  Option.bind (
   if (decide (q33.1≤(Sh.len p3.args)))=true then
    some (decide ((Sh.len p3.args)≤q33.2))
   else
    some false
  ) fun t35=>
  some t35
def preB (p:A0) (i:Ag):Bool:=
 (decide (0≤i.dst) && decide (i.dst < p.Ab)) && (decide (i.dst=0) || GN i.op) && (decide (i.BY=0) || decide (i.op=6)) && (decide (i.op=21) || decide (i.jumps.length=0))
theorem Pj {im:Au} {p:A0} {at_:Nat} {i:Ag} (H:I0 im p at_ i) {N:Nat} (hN:2000000≤N) :
  Eu N im p at_=if (i.args.all (Is p.Ab) && preB p i)=true then Bq N im p at_ i else some false:=by
 have r1:=H.r1
 have r2:=H.r2
 have e0:Sh.w (p.Ab - 1)=p.Ab - 1:=As (by omega) (by omega)
 have e1:decide (i.dst≤p.Ab - 1)=decide (i.dst < p.Ab):=decide_eq_decide.2 (by omega)
 unfold Eu
 rw[Ak H.code]
 simp only[Option.bind_some]
 rw[Sf H.r1 H.r2 H.al hN,Bz]
 cases hb:i.args.all (Is p.Ab) with
 | false=>simp
 | true=>
  rw[if_pos rfl,A6,e0,e1,Nf]
  simp only[Option.bind_some]
  show Option.bind _ (fun t11=>if t11=true then some false else Bq N im p at_ i)=_
  have hj:(decide (0 < Sh.len i.jumps))=!decide (i.jumps.length=0):=by
   rw[AK]
   by_cases h:i.jumps.length=0
   ·simp[h]
   ·have:(0:Int) < i.jumps.length:=by omega
    simp only[this,h,decide_true,decide_false,Bool.not_false]
  rw[hj]
  unfold preB
  cases decide (0≤i.dst) <;> cases decide (i.dst < p.Ab) <;> cases decide (i.dst=0) <;> cases GN i.op <;> cases decide (i.BY=0) <;> cases decide (i.op=6) <;> cases decide (i.op=21) <;> cases decide (i.jumps.length=0) <;> rfl
def Lo (p:A0) (i:Ag):Bool:=
 (decide (0≤i.dst) && decide (i.dst < p.Ab)) && (decide (i.dst=0) || GN i.op) && (decide (0≤i.BY) && decide (i.BY≤p.Ab)) && (decide (i.BY=0) || decide (i.op=6))
def NL (op:Int):Bool:=decide (0≤op) && decide (op≤24) && !decide (op=7) && !decide (op=8) && !decide (op=12) && !decide (op=13)
def Lw (p:A0) (at_:Int) (i:Ag):Bool:=(decide (i.op=21) || decide (i.jumps.length=0)) && i.jumps.all (Gg at_ p.code.length)
theorem Td {im:Au} {p:A0} {at_:Nat} {i:Ag} (H:I0 im p at_ i) {sg:CR} {N:Nat} (hN:2000000≤N) :
  CM N sg p at_ i=if (NL i.op && Lo p i && i.args.all (Is p.Ab) && Lw p at_ i)=true then B4 N sg p at_ i else some false:=by
 unfold CM
 rw[Sz H.al hN,Bz,contains_eq H.jl hN]
 simp only[Option.bind_some]
 have n1:decide (i.op < 0)=!decide (0≤i.op):=by by_cases h:0≤i.op <;> simp[h] <;> omega
 have n2:decide (24 < i.op)=!decide (i.op≤24):=by by_cases h:i.op≤24 <;> simp[h] <;> omega
 have n3:decide (i.dst < 0)=!decide (0≤i.dst):=by by_cases h:0≤i.dst <;> simp[h] <;> omega
 have n4:decide (p.Ab≤i.dst)=!decide (i.dst < p.Ab):=by by_cases h:i.dst < p.Ab <;> simp[h] <;> omega
 have n5:decide (i.BY < 0)=!decide (0≤i.BY):=by by_cases h:0≤i.BY <;> simp[h] <;> omega
 have n6:decide (p.Ab < i.BY)=!decide (i.BY≤p.Ab):=by by_cases h:i.BY≤p.Ab <;> simp[h] <;> omega
 have n7:(decide (0 < Sh.len i.jumps))=!decide (i.jumps.length=0):=by
  rw[AK]
  by_cases h:i.jumps.length=0
  ·simp[h]
  ·have:(0:Int) < i.jumps.length:=by omega
   simp only[this,h,decide_true,decide_false,Bool.not_false]
 rw[n1,n2,n3,n4,n5,n6,n7]
 by_cases hbad:NL i.op=true
 ·have h7:i.op≠7:=by intro e;simp[NL,e] at hbad
  have h8:i.op≠8:=by intro e;simp[NL,e] at hbad
  rw[NX h7 h8,hbad]
  unfold NL at hbad
  simp only[Bool.and_eq_true] at hbad
  obtain⟨⟨⟨⟨⟨b1,b2⟩,b3⟩,b4⟩,b5⟩,b6⟩:=hbad
  simp only[Bool.not_eq_true'] at b3 b4 b5 b6
  rw[b1,b2,b3,b4,b5,b6]
  simp only[Option.bind_some]
  show (if (false:Bool)=true then some false else Option.bind _ (fun t10=>if t10=true then some false else if i.args.all (Is p.Ab)=true then Option.bind _ (fun t21=>if t21=true then some false else B4 N sg p at_ i) else some (id false)))=_
  unfold Lo Lw
  cases decide (0≤i.dst) <;> cases decide (i.dst < p.Ab) <;> cases decide (i.dst=0) <;> cases GN i.op <;> cases decide (0≤i.BY) <;> cases decide (i.BY≤p.Ab) <;> cases decide (i.BY=0) <;> cases decide (i.op=6) <;> first | rfl | (cases i.args.all (Is p.Ab) <;> first | rfl | (cases decide (i.op=21) <;> cases decide (i.jumps.length=0) <;> cases i.jumps.all (Gg at_ p.code.length) <;> rfl))
 ·simp only[Bool.not_eq_true] at hbad
  rw[hbad]
  unfold NL at hbad
  simp only[Bool.false_and,Bool.false_eq_true,if_false]
  revert hbad
  cases decide (0≤i.op) <;> cases decide (i.op≤24) <;> cases decide (i.op=7) <;> cases decide (i.op=8) <;> cases decide (i.op=12) <;> cases decide (i.op=13) <;> intro hbad <;> first | rfl | cases hbad
end RC



namespace RC
open Go
def Ol (im:Au):CR:=⟨im.decls,im.procs.map Ko⟩
def CK (N:Nat) (im:Au) (p:A0) (at_:Nat) (i:Ag) (ex:Bool):Prop:=∃m,B4 N (Ol im) p at_ i=some m∧Bq N im p at_ i=some (m && ex)
section
variable {im : Au} {p : A0} {at_ : Nat} {i : Ag} {N : Nat}
theorem Z2 (H:I0 im p at_ i) (hN:2000000≤N) (hop:i.op=0):CK N im p at_ i true:=by
 have hal:=H.al
 have hat:=H.at
 have hcl:=H.cl
 unfold CK Bq B4 Aq Ay
 simp only[hop,A6,AK,Option.bind_some]
 by_cases h1:i.args.length=0 <;> by_cases h2:-999≤i.num <;> by_cases h3:i.num≤999 <;> simp[h1,h2,h3] <;> omega
theorem aH (H:I0 im p at_ i) (hN:2000000≤N) (hop:i.op=1):CK N im p at_ i true:=by
 have hal:=H.al
 have hat:=H.at
 have hcl:=H.cl
 unfold CK Bq B4 Aq Ay
 simp only[hop,A6,AK,Option.bind_some]
 by_cases h1:i.num=0
 ·by_cases h2:(i.args.length:Int)=2
  ·simp[h1,h2]
  ·have h3:¬ (2≤(i.args.length:Int)∧(i.args.length:Int)≤2):=by omega
   by_cases h4:2≤(i.args.length:Int)
   ·have h5:¬ (i.args.length:Int)≤2:=by omega
    simp[h1,h2,h4,h5]
   ·simp[h1,h2,h4]
 ·by_cases h2:(i.args.length:Int)=2 <;> simp[h1,h2]
theorem Z1 (H:I0 im p at_ i) (hN:2000000≤N) (hop:i.op=2):CK N im p at_ i true:=by
 have hal:=H.al
 have hat:=H.at
 have hcl:=H.cl
 unfold CK Bq B4 Aq Ay
 simp only[hop,A6,AK,Option.bind_some]
 by_cases h1:i.num=0
 ·by_cases h2:(i.args.length:Int)=2
  ·simp[h1,h2]
  ·have h3:¬ (2≤(i.args.length:Int)∧(i.args.length:Int)≤2):=by omega
   by_cases h4:2≤(i.args.length:Int)
   ·have h5:¬ (i.args.length:Int)≤2:=by omega
    simp[h1,h2,h4,h5]
   ·simp[h1,h2,h4]
 ·by_cases h2:(i.args.length:Int)=2 <;> simp[h1,h2]
theorem aM (H:I0 im p at_ i) (hN:2000000≤N) (hop:i.op=3):CK N im p at_ i true:=by
 have hal:=H.al
 have hat:=H.at
 have hcl:=H.cl
 unfold CK Bq B4 Aq Ay
 simp only[hop,A6,AK,Option.bind_some]
 by_cases h1:i.num=0
 ·by_cases h2:(i.args.length:Int)=2
  ·simp[h1,h2]
  ·have h3:¬ (2≤(i.args.length:Int)∧(i.args.length:Int)≤2):=by omega
   by_cases h4:2≤(i.args.length:Int)
   ·have h5:¬ (i.args.length:Int)≤2:=by omega
    simp[h1,h2,h4,h5]
   ·simp[h1,h2,h4]
 ·by_cases h2:(i.args.length:Int)=2 <;> simp[h1,h2]
theorem Zu (H:I0 im p at_ i) (hN:2000000≤N) (hop:i.op=4):CK N im p at_ i true:=by
 have hal:=H.al
 have hat:=H.at
 have hcl:=H.cl
 unfold CK Bq B4 Aq Ay
 simp only[hop,A6,AK,Option.bind_some]
 by_cases h1:i.num=0
 ·by_cases h2:(i.args.length:Int)=2
  ·simp[h1,h2]
  ·have h3:¬ (2≤(i.args.length:Int)∧(i.args.length:Int)≤2):=by omega
   by_cases h4:2≤(i.args.length:Int)
   ·have h5:¬ (i.args.length:Int)≤2:=by omega
    simp[h1,h2,h4,h5]
   ·simp[h1,h2,h4]
 ·by_cases h2:(i.args.length:Int)=2 <;> simp[h1,h2]
theorem ZZ (H:I0 im p at_ i) (hN:2000000≤N) (hop:i.op=11):CK N im p at_ i true:=by
 have hal:=H.al
 have hat:=H.at
 have hcl:=H.cl
 unfold CK Bq B4 Aq Ay
 simp only[hop,A6,AK,Option.bind_some]
 by_cases h1:i.num=0
 ·by_cases h2:(i.args.length:Int)=2
  ·simp[h1,h2]
  ·have h3:¬ (2≤(i.args.length:Int)∧(i.args.length:Int)≤2):=by omega
   by_cases h4:2≤(i.args.length:Int)
   ·have h5:¬ (i.args.length:Int)≤2:=by omega
    simp[h1,h2,h4,h5]
   ·simp[h1,h2,h4]
 ·by_cases h2:(i.args.length:Int)=2 <;> simp[h1,h2]
theorem Zm (H:I0 im p at_ i) (hN:2000000≤N) (hop:i.op=5):CK N im p at_ i true:=by
 have hal:=H.al
 have hat:=H.at
 have hcl:=H.cl
 unfold CK Bq B4 Aq Ay
 simp only[hop,A6,AK,Option.bind_some]
 by_cases h1:i.num=0
 ·by_cases h2:(i.args.length:Int)=1
  ·simp[h1,h2]
  ·by_cases h4:1≤(i.args.length:Int)
   ·have h5:¬ (i.args.length:Int)≤1:=by omega
    simp[h1,h2,h4,h5]
   ·simp[h1,h2,h4]
 ·by_cases h2:(i.args.length:Int)=1 <;> simp[h1,h2]
theorem ZP (H:I0 im p at_ i) (hN:2000000≤N) (hop:i.op=14):CK N im p at_ i true:=by
 have hal:=H.al
 have hat:=H.at
 have hcl:=H.cl
 unfold CK Bq B4 Aq Ay
 simp only[hop,A6,AK,Option.bind_some]
 by_cases h1:i.num=0
 ·by_cases h2:(i.args.length:Int)=1
  ·simp[h1,h2]
  ·by_cases h4:1≤(i.args.length:Int)
   ·have h5:¬ (i.args.length:Int)≤1:=by omega
    simp[h1,h2,h4,h5]
   ·simp[h1,h2,h4]
 ·by_cases h2:(i.args.length:Int)=1 <;> simp[h1,h2]
theorem Zd (H:I0 im p at_ i) (hN:2000000≤N) (hop:i.op=15):CK N im p at_ i true:=by
 have hal:=H.al
 have hat:=H.at
 have hcl:=H.cl
 unfold CK Bq B4 Aq Ay
 simp only[hop,A6,AK,Option.bind_some]
 by_cases h1:i.num=0
 ·by_cases h2:(i.args.length:Int)=1
  ·simp[h1,h2]
  ·by_cases h4:1≤(i.args.length:Int)
   ·have h5:¬ (i.args.length:Int)≤1:=by omega
    simp[h1,h2,h4,h5]
   ·simp[h1,h2,h4]
 ·by_cases h2:(i.args.length:Int)=1 <;> simp[h1,h2]
theorem ZF (H:I0 im p at_ i) (hN:2000000≤N) (hop:i.op=18):CK N im p at_ i true:=by
 have hal:=H.al
 have hat:=H.at
 have hcl:=H.cl
 unfold CK Bq B4 Aq Ay
 simp only[hop,A6,AK,Option.bind_some]
 by_cases h1:i.num=0
 ·by_cases h2:(i.args.length:Int)=1
  ·simp[h1,h2]
  ·by_cases h4:1≤(i.args.length:Int)
   ·have h5:¬ (i.args.length:Int)≤1:=by omega
    simp[h1,h2,h4,h5]
   ·simp[h1,h2,h4]
 ·by_cases h2:(i.args.length:Int)=1 <;> simp[h1,h2]
theorem Y3 (H:I0 im p at_ i) (hN:2000000≤N) (hop:i.op=23):CK N im p at_ i true:=by
 have hal:=H.al
 have hat:=H.at
 have hcl:=H.cl
 unfold CK Bq B4 Aq Ay
 simp only[hop,A6,AK,Option.bind_some]
 by_cases h1:i.num=0
 ·by_cases h2:(i.args.length:Int)=1
  ·simp[h1,h2]
  ·by_cases h4:1≤(i.args.length:Int)
   ·have h5:¬ (i.args.length:Int)≤1:=by omega
    simp[h1,h2,h4,h5]
   ·simp[h1,h2,h4]
 ·by_cases h2:(i.args.length:Int)=1 <;> simp[h1,h2]
theorem ZY (H:I0 im p at_ i) (hN:2000000≤N) (hop:i.op=16):CK N im p at_ i true:=by
 have hal:=H.al
 have hat:=H.at
 have hcl:=H.cl
 unfold CK Bq B4 Aq Ay
 simp only[hop,A6,AK,Option.bind_some]
 by_cases h1:i.num=0 <;> by_cases h2:1≤(i.args.length:Int) <;> by_cases h3:(i.args.length:Int)≤4 <;> simp[h1,h2,h3]
theorem Yp (H:I0 im p at_ i) (hN:2000000≤N) (hop:i.op=17):CK N im p at_ i true:=by
 have hal:=H.al
 have hat:=H.at
 have hcl:=H.cl
 unfold CK Bq B4 Aq Ay
 simp only[hop,A6,AK,Option.bind_some]
 by_cases h1:i.num=0 <;> by_cases h2:1≤(i.args.length:Int) <;> by_cases h3:(i.args.length:Int)≤4 <;> simp[h1,h2,h3]
theorem ZL (H:I0 im p at_ i) (hN:2000000≤N) (hop:i.op=19):CK N im p at_ i true:=by
 have hal:=H.al
 have hat:=H.at
 have hcl:=H.cl
 unfold CK Bq B4 Aq Ay
 simp only[hop,A6,AK,Option.bind_some]
 have e:decide (i.num≤2)=decide (i.num < 3):=decide_eq_decide.2 (by omega)
 rw[e]
 by_cases h1:0≤i.num <;> by_cases h3:i.num < 3 <;> by_cases h2:(i.args.length:Int)=1 <;> by_cases h4:1≤(i.args.length:Int) <;> by_cases h5:(i.args.length:Int)≤1 <;> first | (exfalso;omega) | simp[h1,h2,h3,h4,h5]
theorem YU (H:I0 im p at_ i) (hN:2000000≤N) (hop:i.op=20):CK N im p at_ i true:=by
 have hal:=H.al
 have hat:=H.at
 have hcl:=H.cl
 unfold CK Bq B4 Aq Ay
 simp only[hop,A6,AK,Option.bind_some]
 have e2:Sh.w ((at_:Int) + 1)=(at_:Int) + 1:=As (by omega) (by omega)
 have e3:Sh.w ((p.code.length:Int) - 1)=(p.code.length:Int) - 1:=As (by omega) (by omega)
 have e4:decide ((at_:Int) + 1≤i.num)=decide ((at_:Int) < i.num):=decide_eq_decide.2 (by omega)
 have e5:decide (i.num≤(p.code.length:Int) - 1)=decide (i.num < (p.code.length:Int)):=decide_eq_decide.2 (by omega)
 simp only[e2,e3,e4,e5,HI,Gg,Option.bind_some]
 by_cases h1:(at_:Int) < i.num <;> by_cases h3:i.num < (p.code.length:Int) <;> by_cases h2:(i.args.length:Int)=1 <;> by_cases h4:1≤(i.args.length:Int) <;> by_cases h5:(i.args.length:Int)≤1 <;> first | (exfalso;omega) | simp[h1,h2,h3,h4,h5]
theorem YY (H:I0 im p at_ i) (hN:2000000≤N) (hop:i.op=22):CK N im p at_ i true:=by
 have hal:=H.al
 have hat:=H.at
 have hcl:=H.cl
 unfold CK Bq B4 Aq Ay
 simp only[hop,A6,AK,Option.bind_some]
 have e2:Sh.w ((at_:Int) + 1)=(at_:Int) + 1:=As (by omega) (by omega)
 have e3:Sh.w ((p.code.length:Int) - 1)=(p.code.length:Int) - 1:=As (by omega) (by omega)
 have e4:decide ((at_:Int) + 1≤i.num)=decide ((at_:Int) < i.num):=decide_eq_decide.2 (by omega)
 have e5:decide (i.num≤(p.code.length:Int) - 1)=decide (i.num < (p.code.length:Int)):=decide_eq_decide.2 (by omega)
 simp only[e2,e3,e4,e5,HI,Gg,Option.bind_some]
 have q0:((i.args.length:Int)=0)↔i.args=[]:=by rw[← List.length_eq_zero_iff];omega
 by_cases h0:i.args=[]
 ·have h0':(i.args.length:Int)=0:=q0.2 h0
  by_cases h1:(at_:Int) < i.num <;> by_cases h3:i.num < (p.code.length:Int) <;> simp[h1,h3,h0]
 have h0':¬ (i.args.length:Int)=0:=fun h=>h0 (q0.1 h)
 by_cases h1:(at_:Int) < i.num <;> by_cases h3:i.num < (p.code.length:Int) <;> by_cases h2:(i.args.length:Int)=0 <;> by_cases h4:0≤(i.args.length:Int) <;> by_cases h5:(i.args.length:Int)≤0 <;> first | (exfalso;omega) | simp[h0,h1,h2,h3,h4,h5]
theorem Zv (H:I0 im p at_ i) (hN:2000000≤N) (hop:i.op=9):CK N im p at_ i true:=by
 have hal:=H.al
 have hat:=H.at
 have hcl:=H.cl
 unfold CK Bq B4 Aq Ay
 simp only[hop,A6,AK,Option.bind_some]
 have hpl:=H.pl
 have e1:Sh.w ((im.procs.length:Int) - 1)=(im.procs.length:Int) - 1:=As (by omega) (by omega)
 have e2:Sh.w ((i.args.length:Int) + 0)=(i.args.length:Int):=by rw[As (by omega) (by omega)];omega
 have e3:decide (i.num≤(im.procs.length:Int) - 1)=decide (i.num < (im.procs.length:Int)):=decide_eq_decide.2 (by omega)
 unfold EY Ol
 simp only[A6,AK,e1,e2,e3,List.length_map,Option.bind_some]
 by_cases h1:0≤i.num
 ·by_cases h2:i.num < (im.procs.length:Int)
  ·obtain⟨q,hq⟩:=Int.eq_ofNat_of_zero_le h1
   obtain⟨c,hc,_⟩:=BR (l:=im.procs) (i:=q) (by omega)
   have g1:Sh.get im.procs i.num=some c:=by rw[hq];exact Ak hc
   have g2:Sh.get (im.procs.map Ko) i.num=some (Ko c):=by rw[hq];exact Ak (by rw[List.getElem?_map,hc];rfl)
   rw[g1,g2]
   have t:(Ko c).params=c.params:=rfl
   by_cases h3:(c.params.length:Int)=(i.args.length:Int)
   ·simp[h1,h2,h3,t]
   ·by_cases h4:(c.params.length:Int)≤(i.args.length:Int)
    ·have h5:¬ (i.args.length:Int)≤(c.params.length:Int):=by omega
     simp[h1,h2,h3,h4,h5,t]
    ·simp[h1,h2,h3,h4,t]
  ·simp[h1,h2]
 ·simp[h1]
theorem Yn (H:I0 im p at_ i) (hN:2000000≤N) (hop:i.op=24):CK N im p at_ i true:=by
 have hal:=H.al
 have hat:=H.at
 have hcl:=H.cl
 unfold CK Bq B4 Aq Ay
 simp only[hop,A6,AK,Option.bind_some]
 have hpl:=H.pl
 have e1:Sh.w ((im.procs.length:Int) - 1)=(im.procs.length:Int) - 1:=As (by omega) (by omega)
 have e2:Sh.w ((i.args.length:Int) + 0)=(i.args.length:Int):=by rw[As (by omega) (by omega)];omega
 have e3:decide (i.num≤(im.procs.length:Int) - 1)=decide (i.num < (im.procs.length:Int)):=decide_eq_decide.2 (by omega)
 unfold EY Ol
 simp only[A6,AK,e1,e2,e3,List.length_map,Option.bind_some]
 by_cases h1:0≤i.num
 ·by_cases h2:i.num < (im.procs.length:Int)
  ·obtain⟨q,hq⟩:=Int.eq_ofNat_of_zero_le h1
   obtain⟨c,hc,_⟩:=BR (l:=im.procs) (i:=q) (by omega)
   have g1:Sh.get im.procs i.num=some c:=by rw[hq];exact Ak hc
   have g2:Sh.get (im.procs.map Ko) i.num=some (Ko c):=by rw[hq];exact Ak (by rw[List.getElem?_map,hc];rfl)
   rw[g1,g2]
   have t:(Ko c).params=c.params:=rfl
   by_cases h3:(c.params.length:Int)=(i.args.length:Int)
   ·simp[h1,h2,h3,t]
   ·by_cases h4:(c.params.length:Int)≤(i.args.length:Int)
    ·have h5:¬ (i.args.length:Int)≤(c.params.length:Int):=by omega
     simp[h1,h2,h3,h4,h5,t]
    ·simp[h1,h2,h3,h4,t]
  ·simp[h1,h2]
 ·simp[h1]
theorem Y5 (H:I0 im p at_ i) (hN:2000000≤N) (hop:i.op=10):CK N im p at_ i true:=by
 have hal:=H.al
 have hat:=H.at
 have hcl:=H.cl
 unfold CK Bq B4 Aq Ay
 simp only[hop,A6,AK,Option.bind_some]
 have hpl:=H.pl
 have e1:Sh.w ((im.procs.length:Int) - 1)=(im.procs.length:Int) - 1:=As (by omega) (by omega)
 have e2:Sh.w ((i.args.length:Int) + 1)=(i.args.length:Int) + 1:=As (by omega) (by omega)
 have e3:decide (i.num≤(im.procs.length:Int) - 1)=decide (i.num < (im.procs.length:Int)):=decide_eq_decide.2 (by omega)
 unfold EY Ol
 simp only[A6,AK,e1,e2,e3,List.length_map,Option.bind_some]
 by_cases h1:0≤i.num
 ·by_cases h2:i.num < (im.procs.length:Int)
  ·obtain⟨q,hq⟩:=Int.eq_ofNat_of_zero_le h1
   obtain⟨c,hc,hcm⟩:=BR (l:=im.procs) (i:=q) (by omega)
   have hpp:=H.pp c hcm
   have g1:Sh.get im.procs i.num=some c:=by rw[hq];exact Ak hc
   have g2:Sh.get (im.procs.map Ko) i.num=some (Ko c):=by rw[hq];exact Ak (by rw[List.getElem?_map,hc];rfl)
   rw[g1,g2]
   have t:(Ko c).params=c.params:=rfl
   have t2:(Ko c).BH=c.BH:=rfl
   have e4:Sh.w ((c.params.length:Int) - 1)=(c.params.length:Int) - 1:=As (by omega) (by omega)
   simp only[t,t2,Option.bind_some,e4]
   by_cases h6:(c.BH.length:Int)=0
   ·by_cases h3:(c.params.length:Int)=(i.args.length:Int) + 1
    ·simp[h1,h2,h3,h6]
    ·by_cases h4:(c.params.length:Int) - 1≤(i.args.length:Int)
     ·have h5:¬ (i.args.length:Int)≤(c.params.length:Int) - 1:=by omega
      simp[h1,h2,h3,h4,h5,h6]
     ·simp[h1,h2,h3,h4,h6]
   ·have h7:¬ c.BH=[]:=by
     intro h
     rw[h] at h6
     exact h6 rfl
    by_cases h3:(c.params.length:Int)=(i.args.length:Int) + 1 <;> simp[h1,h2,h3,h6,h7]
  ·simp[h1,h2]
 ·simp[h1]
theorem Zn (H:I0 im p at_ i) (hN:2000000≤N) (hop:i.op=6):CK N im p at_ i (decide (0≤i.BY) && decide (i.BY≤p.Ab)):=by
 have hal:=H.al
 have hat:=H.at
 have hcl:=H.cl
 unfold CK Bq B4 Aq Ay
 simp only[hop,A6,AK,Option.bind_some]
 unfold Ol
 simp only[]
 rw[KP H.dl H.nn hN]
 simp only[Option.bind_some]
 by_cases h1:0≤i.num
 ·by_cases h2:i.num < (nc im.decls:Int)
  ·obtain⟨q,hq⟩:=Int.eq_ofNat_of_zero_le h1
   obtain⟨t,x,f1,f2⟩:=Kv H.dl H.nn (c:=q) (by omega) hN
   obtain⟨t',x',f3,f4⟩:=Ny H.dl H.nn (c:=q) (by omega) hN
   obtain⟨t2,x2,f5,f6⟩:=OX H.dl H.nn (c:=q) (by omega) hN
   obtain⟨t3,x3,f7,f8,_⟩:=Rx im.decls 0 q (by omega)
   rw[f1] at f3 f5 f7
   cases f3;cases f5;cases f7
   rw[hq,f2,f4,f6]
   have ht:(0:Int) < t:=by omega
   have ht0:¬ t=0:=by omega
   have h2':(q:Int) < (nc im.decls:Int):=by omega
   have h1':(0:Int)≤(q:Int):=Int.natCast_nonneg _
   simp only[Option.bind_some,AK]
   by_cases h3:(i.args.length:Int)=(x.fields.length:Int)
   ·simp[h1',h2',h3,ht,ht0]
   ·by_cases h4:(x.fields.length:Int)≤(i.args.length:Int)
    ·have h5:¬ (i.args.length:Int)≤(x.fields.length:Int):=by omega
     simp[h1',h2',h3,h4,h5,ht,ht0]
    ·simp[h1',h2',h3,h4,ht,ht0]
  ·rw[KK H.dl H.nn (.inr (by omega)) hN]
   simp[h1,h2]
 ·rw[KK H.dl H.nn (.inl (by omega)) hN]
  simp[h1]
theorem Vf (H:I0 im p at_ i) (hN:2000000≤N) (hop:i.op=21):CK N im p at_ i (i.jumps.all (Gg at_ p.code.length)):=by
 have hal:=H.al
 have hat:=H.at
 have hcl:=H.cl
 unfold CK Bq B4 Aq Ay
 simp only[hop,A6,AK,Option.bind_some]
 unfold Ol
 simp only[]
 rw[Qq H.dl H.nn hN,Qr H.dl H.nn hN]
 simp only[Option.bind_some,AK]
 rw[SS H.jl (Int.natCast_nonneg _) (by omega) (Int.natCast_nonneg _) (by omega) hN]
 generalize Rt im.decls i.num=cl
 have dd :∀a:Bool,(match a with | true=>true | false=>false)=a:=by intro a;cases a <;> rfl
 rcases cl with _ | ⟨c0,cl⟩
 ·simp only[List.length_nil]
  by_cases h2:(i.args.length:Int)=1 <;> by_cases h3:(i.jumps.length:Int)=((0:Nat):Int) <;> by_cases h4:1≤(i.args.length:Int) <;> by_cases h5:(i.args.length:Int)≤1 <;> first | (exfalso;omega) | (cases i.jumps.all (Gg at_ p.code.length) <;> simp[h2,h3,h4,h5])
 ·have h1:(0:Int) < ((List.length (c0 :: cl):Nat):Int):=by simp only[List.length_cons];omega
  by_cases h2:(i.args.length:Int)=1 <;> by_cases h3:(i.jumps.length:Int)=((List.length (c0 :: cl):Nat):Int) <;> by_cases h4:1≤(i.args.length:Int) <;> by_cases h5:(i.args.length:Int)≤1 <;> first | (exfalso;omega) | (cases i.jumps.all (Gg at_ p.code.length) <;> simp only[h1,h2,h3,h4,h5] <;> simp[h4,h5])
theorem KW (H:I0 im p at_ i) (hN:2000000≤N) :∃b,Eu N im p at_=some b∧CM N (Ol im) p at_ i=some b:=by
 rw[Pj H hN,Td H hN]
 have other :∀(h6:i.op≠6) (h21:i.op≠21),(preB p i=(Lo p i && Lw p at_ i)):=fun h6 h21=>by
  have r1:=H.r1
  unfold preB Lo Lw
  simp only[h6,h21,decide_false,Bool.or_false,Bool.false_or]
  by_cases h1:i.BY=0
  ·have h2:(0:Int)≤p.Ab:=by omega
   by_cases h3:i.jumps.length=0
   ·have:i.jumps=[]:=List.eq_nil_of_length_eq_zero h3
    simp[h1,h2,this]
   ·simp[h3]
  ·simp[h1]
 have fin:CK N im p at_ i true→i.op≠6→i.op≠21→NL i.op=true→
   ∃b,(if (i.args.all (Is p.Ab) && preB p i)=true then Bq N im p at_ i else some false)=some b∧(if (NL i.op && Lo p i && i.args.all (Is p.Ab) && Lw p at_ i)=true then B4 N (Ol im) p at_ i else some false)=some b:=fun⟨m,h1,h2⟩ h6 h21 hop=>by
  rw[h1,h2,other h6 h21,hop]
  cases i.args.all (Is p.Ab) <;> cases Lo p i <;> cases Lw p at_ i <;> simp
 by_cases o0:i.op=0
 ·exact fin (Z2 H hN o0) (by omega) (by omega) (by rw[o0];rfl)
 by_cases o1:i.op=1
 ·exact fin (aH H hN o1) (by omega) (by omega) (by rw[o1];rfl)
 by_cases o2:i.op=2
 ·exact fin (Z1 H hN o2) (by omega) (by omega) (by rw[o2];rfl)
 by_cases o3:i.op=3
 ·exact fin (aM H hN o3) (by omega) (by omega) (by rw[o3];rfl)
 by_cases o4:i.op=4
 ·exact fin (Zu H hN o4) (by omega) (by omega) (by rw[o4];rfl)
 by_cases o5:i.op=5
 ·exact fin (Zm H hN o5) (by omega) (by omega) (by rw[o5];rfl)
 by_cases o9:i.op=9
 ·exact fin (Zv H hN o9) (by omega) (by omega) (by rw[o9];rfl)
 by_cases o10:i.op=10
 ·exact fin (Y5 H hN o10) (by omega) (by omega) (by rw[o10];rfl)
 by_cases o11:i.op=11
 ·exact fin (ZZ H hN o11) (by omega) (by omega) (by rw[o11];rfl)
 by_cases o14:i.op=14
 ·exact fin (ZP H hN o14) (by omega) (by omega) (by rw[o14];rfl)
 by_cases o15:i.op=15
 ·exact fin (Zd H hN o15) (by omega) (by omega) (by rw[o15];rfl)
 by_cases o16:i.op=16
 ·exact fin (ZY H hN o16) (by omega) (by omega) (by rw[o16];rfl)
 by_cases o17:i.op=17
 ·exact fin (Yp H hN o17) (by omega) (by omega) (by rw[o17];rfl)
 by_cases o18:i.op=18
 ·exact fin (ZF H hN o18) (by omega) (by omega) (by rw[o18];rfl)
 by_cases o19:i.op=19
 ·exact fin (ZL H hN o19) (by omega) (by omega) (by rw[o19];rfl)
 by_cases o20:i.op=20
 ·exact fin (YU H hN o20) (by omega) (by omega) (by rw[o20];rfl)
 by_cases o22:i.op=22
 ·exact fin (YY H hN o22) (by omega) (by omega) (by rw[o22];rfl)
 by_cases o23:i.op=23
 ·exact fin (Y3 H hN o23) (by omega) (by omega) (by rw[o23];rfl)
 by_cases o24:i.op=24
 ·exact fin (Yn H hN o24) (by omega) (by omega) (by rw[o24];rfl)
 by_cases o6:i.op=6
 ·obtain⟨m,h1,h2⟩:=Zn H hN o6
  rw[h1,h2]
  have hop:NL i.op=true:=by rw[o6];rfl
  have e:(preB p i && (decide (0≤i.BY) && decide (i.BY≤p.Ab)))=(Lo p i && Lw p at_ i):=by
   unfold preB Lo Lw
   have h21:decide (i.op=21)=false:=by rw[o6];rfl
   have h6:decide (i.op=6)=true:=by rw[o6];rfl
   rw[h21,h6]
   by_cases h3:i.jumps.length=0
   ·have:i.jumps=[]:=List.eq_nil_of_length_eq_zero h3
    rw[this]
    cases decide (0≤i.dst) <;> cases decide (i.dst < p.Ab) <;> cases decide (i.dst=0) <;> cases GN i.op <;> cases decide (0≤i.BY) <;> cases decide (i.BY≤p.Ab) <;> simp
   ·simp[h3]
  rw[hop]
  revert e
  cases i.args.all (Is p.Ab) <;> cases preB p i <;> cases Lo p i <;> cases Lw p at_ i <;> cases (decide (0≤i.BY) && decide (i.BY≤p.Ab)) <;> cases m <;> simp
 by_cases o21:i.op=21
 ·obtain⟨m,h1,h2⟩:=Vf H hN o21
  rw[h1,h2]
  have hop:NL i.op=true:=by rw[o21];rfl
  have e:(preB p i && i.jumps.all (Gg at_ p.code.length))=(Lo p i && Lw p at_ i):=by
   have r1:=H.r1
   unfold preB Lo Lw
   have h21:decide (i.op=21)=true:=by rw[o21];rfl
   have h6:decide (i.op=6)=false:=by rw[o21];rfl
   rw[h21,h6]
   by_cases h1:i.BY=0
   ·have h2:(0:Int)≤p.Ab:=by omega
    simp[h1,h2]
   ·simp[h1]
  rw[hop]
  revert e
  cases i.args.all (Is p.Ab) <;> cases preB p i <;> cases Lo p i <;> cases Lw p at_ i <;> cases i.jumps.all (Gg at_ p.code.length) <;> cases m <;> simp
 have hop:NL i.op=false:=by
  unfold NL
  by_cases h0:0≤i.op
  ·by_cases h24:i.op≤24
   ·have:i.op=7∨i.op=8∨i.op=12∨i.op=13:=by omega
    rcases this with h | h | h | h <;> simp[h]
   ·simp[h24]
  ·simp[h0]
 have hs:Bq N im p at_ i=some false:=by
  unfold Bq
  simp[o0,o1,o2,o3,o4,o5,o6,o9,o10,o11,o14,o15,o16,o17,o18,o19,o20,o21,o22,o23,o24]
 rw[hop,hs]
 refine⟨false,?_,by simp⟩
 split <;> rfl
end
end RC



namespace RC
open Go
theorem EZ {α:Type} (f:α→Nat) {l:List α} {x:α} (h:x∈l):f x≤(l.map f).sum:=by
 induction l with
 | nil=>cases h
 | cons y r ih=>
  rw[List.map_cons,List.sum_cons]
  rcases List.mem_cons.1 h with rfl | h
  ·omega
  ·have:=ih h;omega
theorem YG {c:By} (h:cz c≤1048576) {N:Nat} (hN:2000000≤N):JR N c=some c:=by
 unfold cz at h
 unfold JR;rw[Fu h hN];rfl
theorem WJ {l:List By} (hl:l.length+(l.map cz).sum≤1048576) {N:Nat} (hN:2000000≤N):IW N l=some l:=by
 unfold IW
 rw[AK,Gw _ _ _ (by omega) (by omega)]
 simp only[Option.bind_some]
 rw[Mb (l:=l) (Ej N l) (fun n m=>by rw[Ej,if_neg (by simp[AK])]) (fun n i x m hx hm=>?_) (by omega) (by simp)]
 ·rfl
 ·have hi:=(List.getElem?_eq_some_iff.1 hx).1
  have hz:=EZ cz (List.mem_of_getElem? hx)
  obtain⟨y,hy,_⟩:=BR (l:=m) (i:=i) (by omega)
  rw[Ej,if_pos (by simp[AK];omega),Ak hx]
  simp only[Option.bind_some]
  rw[YG (by omega) hN,Ak hy]
  simp only[Option.bind_some]
  rw[Ec,As (by omega) (by omega),show ((i:Int) + 1)=((i+1:Nat):Int) by omega]
theorem V0 {d:An} (h:dz d≤1048576) {N:Nat} (hN:2000000≤N):Ic N d=some d:=by
 unfold dz at h
 unfold Ic;rw[WJ h hN];rfl
theorem Uj {l:List An} (hl:l.length+(l.map dz).sum≤1048576) {N:Nat} (hN:2000000≤N):Hk N l=some l:=by
 unfold Hk
 rw[AK,Gw _ _ _ (by omega) (by omega)]
 simp only[Option.bind_some]
 rw[Mb (l:=l) (EG N l) (fun n m=>by rw[EG,if_neg (by simp[AK])]) (fun n i x m hx hm=>?_) (by omega) (by simp)]
 ·rfl
 ·have hi:=(List.getElem?_eq_some_iff.1 hx).1
  have hz:=EZ dz (List.mem_of_getElem? hx)
  obtain⟨y,hy,_⟩:=BR (l:=m) (i:=i) (by omega)
  rw[EG,if_pos (by simp[AK];omega),Ak hx]
  simp only[Option.bind_some]
  rw[V0 (by omega) hN,Ak hy]
  simp only[Option.bind_some]
  rw[Ec,As (by omega) (by omega),show ((i:Int) + 1)=((i+1:Nat):Int) by omega]
theorem VO {i:Ag} (h:iz i≤1048576) {N:Nat} (hN:2000000≤N):Hq N i=some i:=by
 unfold iz at h
 unfold Hq;rw[Fu (by omega) hN,Fu (by omega) hN];rfl
theorem UU {l:List Ag} (hl:l.length+(l.map iz).sum≤1048576) {N:Nat} (hN:2000000≤N):G3 N l=some l:=by
 unfold G3
 rw[AK,Gw _ _ _ (by omega) (by omega)]
 simp only[Option.bind_some]
 rw[Mb (l:=l) (Dw N l) (fun n m=>by rw[Dw,if_neg (by simp[AK])]) (fun n i x m hx hm=>?_) (by omega) (by simp)]
 ·rfl
 ·have hi:=(List.getElem?_eq_some_iff.1 hx).1
  have hz:=EZ iz (List.mem_of_getElem? hx)
  obtain⟨y,hy,_⟩:=BR (l:=m) (i:=i) (by omega)
  rw[Dw,if_pos (by simp[AK];omega),Ak hx]
  simp only[Option.bind_some]
  rw[VO (by omega) hN,Ak hy]
  simp only[Option.bind_some]
  rw[Ec,As (by omega) (by omega),show ((i:Int) + 1)=((i+1:Nat):Int) by omega]
theorem Wd {p:A0} (h:pz p≤1048576) {N:Nat} (hN:2000000≤N):Ih N p=some p:=by
 unfold pz at h
 unfold Ih;rw[Fu (by omega) hN,Fu (by omega) hN,UU (by omega) hN];rfl
theorem Ui {l:List A0} (hl:l.length+(l.map pz).sum≤1048576) {N:Nat} (hN:2000000≤N):Hg N l=some l:=by
 unfold Hg
 rw[AK,Gw _ _ _ (by omega) (by omega)]
 simp only[Option.bind_some]
 rw[Mb (l:=l) (EP N l) (fun n m=>by rw[EP,if_neg (by simp[AK])]) (fun n i x m hx hm=>?_) (by omega) (by simp)]
 ·rfl
 ·have hi:=(List.getElem?_eq_some_iff.1 hx).1
  have hz:=EZ pz (List.mem_of_getElem? hx)
  obtain⟨y,hy,_⟩:=BR (l:=m) (i:=i) (by omega)
  rw[EP,if_pos (by simp[AK];omega),Ak hx]
  simp only[Option.bind_some]
  rw[Wd (by omega) hN,Ak hy]
  simp only[Option.bind_some]
  rw[Ec,As (by omega) (by omega),show ((i:Int) + 1)=((i+1:Nat):Int) by omega]
theorem Vb {x:Au} (h:Lx x≤1048576) {N:Nat} (hN:2000000≤N):FL N x=some x:=by
 unfold Lx at h
 unfold FL;rw[Uj (by omega) hN,Ui (by omega) hN];rfl
end RC



namespace RC
open Go
theorem X0 {c:By} (h:cz c≤1048576) {N:Nat} (hN:2000000≤N):JN N c c=some true:=by
 unfold cz at h
 unfold JN;rw[FR h hN];rfl
theorem WA {l:List By} (hl:l.length+(l.map cz).sum≤1048576) {N:Nat} (hN:2000000≤N):Iu N l l=some true:=by
 unfold Iu
 have L:=Bo (l:=l) (Ei N l l) (fun _ _=>true) (fun n=>by rw[Ei,if_neg (by simp[AK])]) (fun n i x hx=>?_) (by omega:l.length < N)
 ·rw[CW (p:=fun _=>true)] at L
  simp[L,Sh.cont]
 ·have hi:=(List.getElem?_eq_some_iff.1 hx).1
  have hz:=EZ cz (List.mem_of_getElem? hx)
  rw[Ei,if_pos (by simp[AK];omega),Ak hx]
  simp only[Option.bind_some]
  rw[X0 (by omega) hN,As (by omega) (by omega),show ((i:Int) + 1)=((i+1:Nat):Int) by omega]
  rfl
theorem Ww {d:An} (h:dz d≤1048576) {N:Nat} (hN:2000000≤N):It N d d=some true:=by
 unfold dz at h
 unfold It;rw[WA h hN];simp
theorem Vo {l:List An} (hl:l.length+(l.map dz).sum≤1048576) {N:Nat} (hN:2000000≤N):HZ N l l=some true:=by
 unfold HZ
 have L:=Bo (l:=l) (EN N l l) (fun _ _=>true) (fun n=>by rw[EN,if_neg (by simp[AK])]) (fun n i x hx=>?_) (by omega:l.length < N)
 ·rw[CW (p:=fun _=>true)] at L
  simp[L,Sh.cont]
 ·have hi:=(List.getElem?_eq_some_iff.1 hx).1
  have hz:=EZ dz (List.mem_of_getElem? hx)
  rw[EN,if_pos (by simp[AK];omega),Ak hx]
  simp only[Option.bind_some]
  rw[Ww (by omega) hN,As (by omega) (by omega),show ((i:Int) + 1)=((i+1:Nat):Int) by omega]
  rfl
theorem VX {i:Ag} (h:iz i≤1048576) {N:Nat} (hN:2000000≤N):Hx N i i=some true:=by
 unfold iz at h
 unfold Hx;rw[FR (by omega) hN,FR (by omega) hN];simp
theorem US {l:List Ag} (hl:l.length+(l.map iz).sum≤1048576) {N:Nat} (hN:2000000≤N):HA N l l=some true:=by
 unfold HA
 have L:=Bo (l:=l) (Dz N l l) (fun _ _=>true) (fun n=>by rw[Dz,if_neg (by simp[AK])]) (fun n i x hx=>?_) (by omega:l.length < N)
 ·rw[CW (p:=fun _=>true)] at L
  simp[L,Sh.cont]
 ·have hi:=(List.getElem?_eq_some_iff.1 hx).1
  have hz:=EZ iz (List.mem_of_getElem? hx)
  rw[Dz,if_pos (by simp[AK];omega),Ak hx]
  simp only[Option.bind_some]
  rw[VX (by omega) hN,As (by omega) (by omega),show ((i:Int) + 1)=((i+1:Nat):Int) by omega]
  rfl
theorem WN {p:A0} (h:pz p≤1048576) {N:Nat} (hN:2000000≤N):IX N p p=some true:=by
 unfold pz at h
 unfold IX;rw[FR (by omega) hN,FR (by omega) hN,US (by omega) hN];simp
theorem Vd {l:List A0} (hl:l.length+(l.map pz).sum≤1048576) {N:Nat} (hN:2000000≤N):Hh N l l=some true:=by
 unfold Hh
 have L:=Bo (l:=l) (EJ N l l) (fun _ _=>true) (fun n=>by rw[EJ,if_neg (by simp[AK])]) (fun n i x hx=>?_) (by omega:l.length < N)
 ·rw[CW (p:=fun _=>true)] at L
  simp[L,Sh.cont]
 ·have hi:=(List.getElem?_eq_some_iff.1 hx).1
  have hz:=EZ pz (List.mem_of_getElem? hx)
  rw[EJ,if_pos (by simp[AK];omega),Ak hx]
  simp only[Option.bind_some]
  rw[WN (by omega) hN,As (by omega) (by omega),show ((i:Int) + 1)=((i+1:Nat):Int) by omega]
  rfl
theorem Vc {x:Au} (h:Lx x≤1048576) {N:Nat} (hN:2000000≤N):Hf N x x=some true:=by
 unfold Lx at h
 unfold Hf;rw[Vo (by omega) hN,Vd (by omega) hN];rfl
end RC



namespace RC
open Go
def G0 (p:A0):Bool:=decide (1≤p.Ab) && (decide ((p.params.length:Int)≤p.Ab) && (decide (p.Ab≤2000) && (decide (1≤p.code.length) && decide (p.code.length≤2000))))
def Ry (p:A0):Bool:=match p.code[p.code.length - 1]? with | some c=>decide (c.op=23) || decide (c.op=24) | none=>false
def HQ (N:Nat) (im:Au) (p:A0) (at_:Nat) (_:Ag):Bool:=(Eu N im p at_).getD false
def Di (p:A0):Bool:=Bl (G1 p.params p.BH) 0 p.BH
structure Eo (im:Au):Prop where
 decls:Ms im.decls
 nn:nc im.decls≤1048576
 pl:im.procs.length≤1048576
 pp :∀q∈im.procs,q.params.length≤1048576
 ll :∀q∈im.procs,q.BH.length≤1048576
 cl :∀q∈im.procs,q.code.length≤1048576
 ar :∀q∈im.procs,∀i∈q.code,i.args.length≤1048576∧i.jumps.length≤1048576
theorem max_eq (l:List Int) :∃m:Int,(if Sh.len l > 1 then Sh.len l else 1)=m∧∀r:Int,decide (m≤r)=(decide (1≤r) && decide ((l.length:Int)≤r)):=by
 refine⟨_,rfl,fun r=>?_⟩
 rw[AK]
 by_cases h:(l.length:Int) > 1
 ·rw[if_pos h]
  by_cases h2:(l.length:Int)≤r
  ·have:(1:Int)≤r:=by omega
   simp[h2,this]
  ·simp[h2]
 ·rw[if_neg h]
  by_cases h2:(1:Int)≤r
  ·have:(l.length:Int)≤r:=by omega
   simp[h2,this]
  ·simp[h2]
theorem LP {im:Au} (S:Eo im) {p:A0} (hp:p∈im.procs) (hs:G0 p=true) {at_:Nat} {i:Ag} (hi:p.code[at_]?=some i):I0 im p at_ i:=by
 unfold G0 at hs
 simp only[Bool.and_eq_true,decide_eq_true_eq] at hs
 obtain⟨a1,a2,a3,a4,a5⟩:=hs
 have ha:=S.ar p hp i (List.mem_of_getElem? hi)
 exact⟨hi,a1,a3,a5,ha.1,ha.2,S.decls.len,S.nn,S.pl,S.pp⟩
theorem Nx {p:A0} (hs:G0 p=true) :∃c,p.code[p.code.length - 1]?=some c∧Sh.get p.code (Sh.w ((p.code.length:Int) - 1))=some c∧Ry p=(decide (c.op=23) || decide (c.op=24)):=by
 unfold G0 at hs
 simp only[Bool.and_eq_true,decide_eq_true_eq] at hs
 obtain⟨a1,a2,a3,a4,a5⟩:=hs
 obtain⟨c,hc,_⟩:=BR (l:=p.code) (i:=p.code.length - 1) (by omega)
 refine⟨c,hc,?_,?_⟩
 ·rw[As (by omega) (by omega),show ((p.code.length:Int) - 1)=((p.code.length - 1:Nat):Int) by omega]
  exact Ak hc
 ·unfold Ry;rw[hc]
theorem OE {im:Au} (S:Eo im) {p:A0} (hp:p∈im.procs) {N:Nat} (hN:2000000≤N) :
  GW N im p=some (Di p && (G0 p && (Ry p && Bl (HQ N im p) 0 p.code))):=by
 have b1:=S.pp p hp
 have b2:=S.ll p hp
 have b3:=S.cl p hp
 unfold GW
 rw[OG b1 b2 hN]
 obtain⟨m,hm,hmr⟩:=max_eq p.params
 rw[hm]
 simp only[Option.bind_some,A6,AK,hmr]
 have el:Bl (G1 p.params p.BH) 0 p.BH=Di p:=rfl
 rw[el]
 cases hl:Di p with
 | false=>simp
 | true=>
  have e1:(decide ((1:Int)≤(p.code.length:Int)) && decide ((p.code.length:Int)≤2000))=(decide (1≤p.code.length) && decide (p.code.length≤2000)):=by
   congr 1 <;> exact decide_eq_decide.2 (by omega)
  rw[e1]
  by_cases hs:G0 p=true
  ·have hs':=hs
   unfold G0 at hs
   simp only[Bool.and_eq_true,decide_eq_true_eq] at hs
   obtain⟨a1,a2,a3,a4,a5⟩:=hs
   obtain⟨c,hc,hg,hla⟩:=Nx hs'
   rw[Bo (l:=p.code) (DT N im p) (HQ N im p) (fun n=>by rw[DT,if_neg (by simp[AK])]) (fun n i x hx=>?_) (by omega),Bz,hg,hla,hs']
   ·simp only[a1,a2,a3,a4,a5,decide_true,Bool.and_self,Bool.not_true,Option.bind_some,Bool.false_eq_true,if_false]
    cases Bl (HQ N im p) 0 p.code <;> by_cases h23:c.op=23 <;> by_cases h24:c.op=24 <;> simp[h23,h24]
   ·have hi:=(List.getElem?_eq_some_iff.1 hx).1
    obtain⟨b,g1,g2⟩:=KW (LP S hp hs' hx) hN
    rw[DT,if_pos (by simp[AK];omega),g1]
    simp only[Option.bind_some]
    have:HQ N im p i x=b:=by unfold HQ;rw[g1];rfl
    rw[this,As (by omega) (by omega)]
    cases b <;> simp
  ·have hs':G0 p=false:=by cases h:G0 p with | true=>exact absurd h hs | false=>rfl
   rw[hs']
   unfold G0 at hs'
   revert hs'
   cases decide (1≤p.Ab) <;> cases decide ((p.params.length:Int)≤p.Ab) <;> cases decide (p.Ab≤2000) <;> cases decide (1≤p.code.length) <;> cases decide (p.code.length≤2000) <;> simp
def FY (N:Nat) (im:Au) (p:A0):Bool:=G0 p && (Ry p && Bl (HQ N im p) 0 p.code)
theorem Rv {im:Au} (S:Eo im) {b:Bool} {N:Nat} (hN:2000000≤N) :
  CT N im (⟨im.decls,im.procs.map Ko⟩,b) N 0=some (if (im.procs.all (FY N im))=true then .inr () else .inl false):=by
 have hpl:=S.pl
 rw[← CW _ 0]
 refine Bo (l:=im.procs) (CT N im (⟨im.decls,im.procs.map Ko⟩,b)) (fun _ p=>FY N im p) (fun n=>by rw[CT,if_neg (by simp[AK])]) (fun n i p hp=>?_) (by omega)
 have hi:=(List.getElem?_eq_some_iff.1 hp).1
 have hm:=List.mem_of_getElem? hp
 rw[CT,if_pos (by simp[AK];omega),Ak hp]
 obtain⟨m,hmx,hmr⟩:=max_eq p.params
 have hmr:=hmr p.Ab
 simp only[Option.bind_some]
 rw[hmx]
 simp only[AK]
 have e0:(Sh.w ((i:Int) + 1))=((i+1:Nat):Int):=by rw[As (by omega) (by omega)];omega
 rw[e0]
 by_cases hs:G0 p=true
 ·have hs':=hs
  unfold G0 at hs
  simp only[Bool.and_eq_true,decide_eq_true_eq] at hs
  obtain⟨a1,a2,a3,a4,a5⟩:=hs
  obtain⟨c,hc,hg,hla⟩:=Nx hs'
  have m0:¬ p.Ab < m:=by
   rw[decide_eq_true a1,decide_eq_true a2] at hmr
   have:=of_decide_eq_true hmr
   omega
  have m1:¬ 2000 < p.Ab:=by omega
  have m2:¬ (p.code.length:Int) < 1:=by omega
  have m3:¬ 2000 < (p.code.length:Int):=by omega
  rw[hg,Bo (l:=p.code) (C4 N p (⟨im.decls,im.procs.map Ko⟩,b)) (HQ N im p) (fun n=>by rw[C4,if_neg (by simp[AK])]) (fun n i x hx=>?_) (by omega),Bz]
  ·simp only[m0,m1,m2,m3,decide_false,Bool.false_eq_true,if_false,Option.bind_some]
   unfold FY
   rw[hs',hla]
   cases Bl (HQ N im p) 0 p.code <;> by_cases h23:c.op=23 <;> by_cases h24:c.op=24 <;> simp[h23,h24]
  ·have hi:=(List.getElem?_eq_some_iff.1 hx).1
   obtain⟨b,g1,g2⟩:=KW (LP S hm hs' hx) hN
   rw[C4,if_pos (by simp[AK];omega),Ak hx]
   simp only[Option.bind_some]
   unfold Ol at g2
   rw[g2]
   have:HQ N im p i x=b:=by unfold HQ;rw[g1];rfl
   simp only[Option.bind_some]
   rw[this,As (by omega) (by omega)]
   cases b <;> simp
 ·have hs':G0 p=false:=by cases h:G0 p with | true=>exact absurd h hs | false=>rfl
  have hf:FY N im p=false:=by unfold FY;rw[hs'];rfl
  rw[hf]
  simp only[Bool.false_eq_true,if_false]
  by_cases m0:p.Ab < m
  ·simp only[m0,decide_true,if_true,Option.bind_some]
  ·by_cases m1:2000 < p.Ab
   ·simp only[m0,m1,decide_true,decide_false,Bool.false_eq_true,if_true,if_false,Option.bind_some]
   ·by_cases m2:(p.code.length:Int) < 1
    ·simp only[m0,m1,m2,decide_true,decide_false,Bool.false_eq_true,if_true,if_false,Option.bind_some]
    ·by_cases m3:2000 < (p.code.length:Int)
     ·simp only[m0,m1,m2,m3,decide_true,decide_false,Bool.false_eq_true,if_true,if_false,Option.bind_some]
     ·exfalso
      refine hs ?_
      unfold G0
      simp only[Bool.and_eq_true,decide_eq_true_eq]
      rw[decide_eq_true (by omega:m≤p.Ab)] at hmr
      have hmr:=hmr.symm
      simp only[Bool.and_eq_true,decide_eq_true_eq] at hmr
      omega
theorem Mj {im:Au} (S:Eo im) {N:Nat} (hN:2000000≤N) :
  CP N im N 0=some (if (im.procs.all fun p=>Di p && FY N im p)=true then .inr () else .inl false):=by
 have hpl:=S.pl
 rw[← CW _ 0]
 refine Bo (l:=im.procs) (CP N im) (fun _ p=>Di p && FY N im p) (fun n=>by rw[CP,if_neg (by simp[AK])]) (fun n i p hp=>?_) (by omega)
 have hi:=(List.getElem?_eq_some_iff.1 hp).1
 rw[CP,if_pos (by simp[AK];omega),Ak hp]
 simp only[Option.bind_some]
 rw[OE S (List.mem_of_getElem? hp) hN]
 simp only[Option.bind_some]
 have e0:(Sh.w ((i:Int) + 1))=((i+1:Nat):Int):=by rw[As (by omega) (by omega)];omega
 have e1:(Di p && (G0 p && (Ry p && Bl (HQ N im p) 0 p.code)))=(Di p && FY N im p):=rfl
 rw[e0,e1]
 cases (Di p && FY N im p) <;> simp
theorem QI {im:Au} (S:Eo im) {N:Nat} (hN:2000000≤N) :∃b,I8 N im=some b∧F5 N im=some b:=by
 have hpl:=S.pl
 refine⟨decide (im.procs.length≤4) && ((LV im.decls (im.procs.map fun p=>(p.params,p.result)) && im.procs.all Di) && im.procs.all (FY N im)),?_,?_⟩
 ·unfold I8 Dh
  rw[JX hpl hN]
  simp only[Option.bind_some,AK]
  rw[J2 (p:=⟨im.decls,im.procs.map UE⟩) S.decls (by simpa using hpl) (fun f hf=>by obtain⟨q,hq,rfl⟩:=List.mem_map.1 hf;exact S.pp q hq) hN]
  rw[Mj S hN,Bz]
  have e2:(im.procs.all fun p=>Di p && FY N im p)=(im.procs.all Di && im.procs.all (FY N im)):=by
   induction im.procs with
   | nil=>rfl
   | cons x r ih=>simp only[List.all_cons,ih];cases Di x <;> cases FY N im x <;> cases r.all Di <;> rfl
  have e3:(List.map (fun f:IT=>(f.params,f.result)) (List.map UE im.procs))=im.procs.map fun p=>(p.params,p.result):=by
   rw[List.map_map];rfl
  rw[e2,e3]
  by_cases h4:im.procs.length≤4
  ·have h4':¬ 4 < (im.procs.length:Int):=by omega
   simp only[h4,h4',decide_true,decide_false,Bool.false_eq_true,if_false,Option.bind_some]
   cases LV im.decls (im.procs.map fun p=>(p.params,p.result)) <;> cases im.procs.all Di <;> cases im.procs.all (FY N im) <;> simp
  ·have h4':4 < (im.procs.length:Int):=by omega
   simp[h4,h4']
 ·unfold F5 H5
  rw[AK]
  by_cases h4:im.procs.length≤4
  ·have h4':¬ 4 < (im.procs.length:Int):=by omega
   simp only[h4,h4',decide_true,decide_false,Bool.false_eq_true,if_false]
   rw[Qk hpl hN]
   simp only[Option.bind_some]
   rw[Nt S.decls (by simpa using hpl) (fun f hf=>by obtain⟨q,hq,rfl⟩:=List.mem_map.1 hf;exact⟨S.pp q hq,S.ll q hq⟩) hN]
   simp only[Option.bind_some]
   rw[Rv S hN,Bz]
   have e3:(List.map (fun f:Bu=>(f.params,f.result)) (List.map Ko im.procs))=im.procs.map fun p=>(p.params,p.result):=by
    rw[List.map_map];rfl
   have e4:((List.map Ko im.procs).all fun f=>Bl (G1 f.params f.BH) 0 f.BH)=im.procs.all Di:=by
    rw[List.all_map];rfl
   rw[e3,e4]
   cases LV im.decls (im.procs.map fun p=>(p.params,p.result)) <;> cases im.procs.all Di <;> cases im.procs.all (FY N im) <;> simp
  ·have h4':4 < (im.procs.length:Int):=by omega
   simp[h4,h4']
theorem ba (D:List An):nc D≤(D.map dz).sum:=by
 unfold nc
 induction D with
 | nil=>exact Nat.le_refl _
 | cons d r ih=>simp only[List.map_cons,List.sum_cons];unfold dz at *;omega
theorem Xb {im:Au} (h:Lx im≤1048576):Eo im:=by
 unfold Lx at h
 have hn:=ba im.decls
 have hd :∀d∈im.decls,dz d≤1048576:=fun d hd=>by have:=EZ dz hd;omega
 have hp :∀p∈im.procs,pz p≤1048576:=fun p hp=>by have:=EZ pz hp;omega
 refine⟨⟨by omega,fun d hm=>?_,fun d hm c hc=>?_⟩,by omega,by omega,fun p hm=>?_,fun p hm=>?_,fun p hm=>?_,fun p hm i hi=>?_⟩
 ·have:=hd d hm;unfold dz at this;omega
 ·have:=hd d hm;unfold dz at this
  have:=EZ cz hc
  show cz c≤_
  omega
 ·have:=hp p hm;unfold pz at this;omega
 ·have:=hp p hm;unfold pz at this;omega
 ·have:=hp p hm;unfold pz at this;omega
 ·have:=hp p hm;unfold pz at this
  have:=EZ iz hi
  have e:iz i=i.args.length+i.jumps.length:=rfl
  omega
end RC

