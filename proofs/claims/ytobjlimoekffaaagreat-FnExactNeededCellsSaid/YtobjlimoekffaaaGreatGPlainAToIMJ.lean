import Derived.Test.YtobjlimoekffaaaGreatGEncToEncB
import Derived.Test.YtobjlimoekffaaaGreatGEncCToNCDefs

namespace RC
open Go
theorem Au {n:Int} (h1:-9223372036854775808≤n) (h2:n≤9223372036854775807):Sh.w n=n:=Abs.wrap_i64 h1 h2
theorem AK {α:Type} (l:List α):Sh.len l=(l.length:Int):=rfl
theorem Oz {α:Type} (l:List α) (i:Nat):Sh.get l (i:Int)=l[i]?:=by
 unfold Sh.get;rw[if_pos (Int.natCast_nonneg i)];simp
theorem Ai {α:Type} {l:List α} {i:Nat} {x:α} (h:l[i]?=some x):Sh.get l (i:Int)=some x:=by rw[Oz,h]
theorem L5 {α:Type} {l:List α} {j:Int} (h0:0≤j) (h1:j < l.length) :∃x,Sh.get l j=some x∧l[j.toNat]?=some x:=by
 have h:l[j.toNat]?=some (l[j.toNat]'(by omega)):=List.getElem?_eq_getElem (by omega)
 exact⟨_,by unfold Sh.get;rw[if_pos h0,h],h⟩
theorem PE {α:Type} {l:List α} {j:Int} (h0:0≤j):Sh.get l j=l[j.toNat]?:=by unfold Sh.get;rw[if_pos h0]
theorem ET {α:Type} (l:List α) (i:Nat) (x:α):Sh.put l (i:Int) x=l.set i x:=by simp[Sh.put]
theorem Gu {α:Type} (x:α) (n b:Nat) (h:n * b≤281474976710656) (h2:n≤9223372036854775807):Sh.mk x (n:Int) b=some (List.replicate n x):=by
 unfold Sh.mk
 rw[if_pos ⟨by omega,by rw[← Int.natCast_mul];omega,by omega⟩];simp
theorem Er {α:Type} (l m:List α) (b:Nat) (h:(l.length+m.length) * b≤140737488355328) (h2:l.length+m.length≤9223372036854775807):Sh.app l m b=some (l ++ m):=by
 unfold Sh.app;rw[if_pos ⟨h,h2⟩]
theorem Yt {α:Type} {l:List α} {j:Nat} (h:j≤l.length):Sh.hi l (j:Int)=some (l.take j):=by
 unfold Sh.hi;rw[if_pos ⟨by omega,by omega⟩];simp
theorem BN (len:Nat) (P:Nat→Nat→Prop) (h0 :∀n,P (n+1) len) (hs :∀n i,i < len→P n (i+1)→P (n+1) i) :∀{N i:Nat},i≤len→len - i < N→P N i:=by
 intro N i hi hN
 obtain⟨k,hk⟩ :∃k,len - i=k:=⟨_,rfl⟩
 induction k generalizing N i with
 | zero=>
  obtain⟨n,rfl⟩ :∃n,N=n+1:=⟨N - 1,by omega⟩
  have:i=len:=by omega
  subst this;exact h0 n
 | succ k ih=>
  obtain⟨n,rfl⟩ :∃n,N=n+1:=⟨N - 1,by omega⟩
  exact hs n i (by omega) (ih (by omega) (by omega) (by omega))
theorem BS {α:Type} {l:List α} {i:Nat} (h:i < l.length) :∃x,l[i]?=some x∧x∈l:=⟨l[i],List.getElem?_eq_getElem h,List.getElem_mem h⟩
theorem Eo {α:Type} {l:List α} {j:Nat} {x:α} (h:l[j]?=some x):l.take (j+1)=l.take j ++ [x]:=by rw[List.take_add_one,h];rfl
theorem drop_cons {α:Type} {l:List α} {j:Nat} {x:α} (h:l[j]?=some x):l.drop j=x :: l.drop (j+1):=by
 obtain⟨hj,rfl⟩:=List.getElem?_eq_some_iff.1 h
 exact List.drop_eq_getElem_cons hj
def Fy (h:List Cell):Nat:=(h.map fun c=>c.fields.length).sum
def CM (h:List Cell):Nat:=h.length+Fy h
abbrev W8:List Cell→Prop:=Cb JA
structure Hp (h:List Cell):Prop where
 size:CM h≤1048576
 cells :∀c∈h,JA c
theorem XZ {h:List Cell} {c:Cell} (hc:c∈h):c.fields.length≤Fy h:=by
 induction h with
 | nil=>cases hc
 | cons d h ih=>
  simp only[Fy,List.map_cons,List.sum_cons] at ih ⊢
  rcases List.mem_cons.1 hc with rfl | hc
  ·omega
  ·have:=ih hc;omega
theorem Hp.len {h:List Cell} (H:Hp h):h.length≤1048576:=by have:=H.size;unfold CM at this;omega
theorem Hp.NR {h:List Cell} (H:Hp h) {c:Cell} (hc:c∈h):c.fields.length≤1048576:=by have:=H.size;have:=XZ hc;unfold CM at *;omega
theorem LK (a b:List Cell):Fy (a ++ b)=Fy a+Fy b:=by simp[Fy]
theorem NK (h:List Cell) (i:Nat):Fy (h.drop i)≤Fy h:=by
 have:=LK (h.take i) (h.drop i)
 rw[List.take_append_drop] at this;omega
end RC


namespace RC
open Go
theorem Fo {l:List Int} {left:Int} (h0:0≤left) (h1:left≤1048576) (hl:l.length≤9223372036854775807):DD l left=some (if left - l.length < 0 then -1 else left - l.length):=by
 unfold DD
 rw[AK,Au (by omega) (by omega)]
 by_cases h:left - l.length < 0 <;> simp[h]
theorem Vr {c:Cell} {left:Int} (h0:0≤left) (h1:left≤1048576) (hc:JA c):IX c left=some (if left - c.fields.length < 0 then -1 else left - c.fields.length):=by
 unfold IX
 rw[Fo h0 h1 hc.len]
 simp only[Option.bind_some]
 by_cases h:left - c.fields.length < 0 <;> simp[h]
theorem SW {l:List Int} (hl:l.length≤1048576) {N i:Nat} (hi:i≤l.length) (hN:l.length - i < N) :∀m:List Int,m.length=l.length→m.take i=l.take i→D6 l N i m=some l:=by
 refine BN l.length (fun N i=>∀m:List Int,m.length=l.length→m.take i=l.take i→D6 l N i m=some l) ?_ ?_ hi hN
 ·intro n m hm ht
  rw[D6,if_neg (by simp[AK])]
  rw[List.take_of_length_le (by omega),List.take_length] at ht
  rw[ht]
 ·intro n i hi ih m hm ht
  obtain⟨x,hx,_⟩:=BS hi
  obtain⟨y,hy,_⟩:=BS (l:=m) (i:=i) (by omega)
  rw[D6,if_pos (by simp[AK];omega),Ai hx]
  simp only[Option.bind_some]
  rw[Ai hy]
  simp only[Option.bind_some]
  rw[Au (by omega) (by omega),ET,show ((i:Int) + 1)=((i+1:Nat):Int) by omega]
  refine ih _ (by simp[hm]) ?_
  rw[Eo hx,Eo (x:=x) (by rw[List.getElem?_set];simp;omega),List.take_set_of_le (Nat.le_refl _),ht]
theorem Fl {l:List Int} (hl:l.length≤1048576) {N:Nat} (hN:2000000≤N):DC N l=some l:=by
 unfold DC
 rw[AK,Gu 0 l.length 8 (by omega) (by omega)]
 simp only[Option.bind_some]
 have:=SW hl (Nat.zero_le _) (by omega:l.length - 0 < N) (List.replicate l.length 0) (by simp) (by simp)
 rw[show ((0:Nat):Int)=0 from rfl] at this
 rw[this];rfl
theorem Vq {c:Cell} (hl:c.fields.length≤1048576) {N:Nat} (hN:2000000≤N):Io N c=some c:=by
 unfold Io
 rw[Fl hl hN];rfl
theorem Rt {h:List Cell} (hl:h.length≤1048576) (hf :∀c∈h,c.fields.length≤1048576) {M:Nat} (hM:2000000≤M) {N i:Nat} (hi:i≤h.length) (hN:h.length - i < N) :∀m:List Cell,m.length=h.length→m.take i=h.take i→DX M h N i m=some h:=by
 refine BN h.length (fun N i=>∀m:List Cell,m.length=h.length→m.take i=h.take i→DX M h N i m=some h) ?_ ?_ hi hN
 ·intro n m hm ht
  rw[DX,if_neg (by simp[AK])]
  rw[List.take_of_length_le (by omega),List.take_length] at ht
  rw[ht]
 ·intro n i hi ih m hm ht
  obtain⟨x,hx,hxm⟩:=BS hi
  obtain⟨y,hy,_⟩:=BS (l:=m) (i:=i) (by omega)
  rw[DX,if_pos (by simp[AK];omega),Ai hx]
  simp only[Option.bind_some]
  rw[Vq (hf x hxm) hM]
  simp only[Option.bind_some]
  rw[Ai hy]
  simp only[Option.bind_some]
  rw[Au (by omega) (by omega),ET,show ((i:Int) + 1)=((i+1:Nat):Int) by omega]
  refine ih _ (by simp[hm]) ?_
  rw[Eo hx,Eo (x:=x) (by rw[List.getElem?_set];simp;omega),List.take_set_of_le (Nat.le_refl _),ht]
theorem VS {h:List Cell} (H:Hp h) {N:Nat} (hN:2000000≤N):Hh N h=some h:=by
 have hl:=H.len
 unfold Hh
 rw[AK,Gu _ h.length 40 (by omega) (by omega)]
 simp only[Option.bind_some]
 have:=Rt hl (fun c hc=>H.NR hc) hN (Nat.zero_le _) (by omega:h.length - 0 < N) (List.replicate h.length ⟨0,0,[]⟩) (by simp) (by simp)
 rw[show ((0:Nat):Int)=0 from rfl] at this
 rw[this];rfl
theorem SP {l:List Int} (hl:l.length≤1048576) {N i:Nat} (hi:i≤l.length) (hN:l.length - i < N):D3 l l N i=some (Sum.inr ()):=by
 refine BN l.length (fun N i=>D3 l l N i=some (Sum.inr ())) ?_ ?_ hi hN
 ·intro n
  rw[D3,if_neg (by simp[AK])]
 ·intro n i hi ih
  obtain⟨x,hx,_⟩:=BS hi
  rw[D3,if_pos (by simp[AK];omega),Ai hx]
  simp only[Option.bind_some]
  rw[Au (by omega) (by omega),show ((i:Int) + 1)=((i+1:Nat):Int) by omega]
  simpa using ih
theorem FP {l:List Int} (hl:l.length≤1048576) {N:Nat} (hN:2000000≤N):CE N l l=some true:=by
 unfold CE
 have:=SP hl (Nat.zero_le _) (by omega:l.length - 0 < N)
 rw[show ((0:Nat):Int)=0 from rfl] at this
 simp[this]
theorem Vj {c:Cell} (hl:c.fields.length≤1048576) {N:Nat} (hN:2000000≤N):IM N c c=some true:=by
 unfold IM
 simp[FP hl hN]
theorem Rc {h:List Cell} (hl:h.length≤1048576) (hf :∀c∈h,c.fields.length≤1048576) {M:Nat} (hM:2000000≤M) {N i:Nat} (hi:i≤h.length) (hN:h.length - i < N):Dd M h h N i=some (Sum.inr ()):=by
 refine BN h.length (fun N i=>Dd M h h N i=some (Sum.inr ())) ?_ ?_ hi hN
 ·intro n
  rw[Dd,if_neg (by simp[AK])]
 ·intro n i hi ih
  obtain⟨x,hx,hxm⟩:=BS hi
  rw[Dd,if_pos (by simp[AK];omega),Ai hx]
  simp only[Option.bind_some]
  rw[Vj (hf x hxm) hM,Au (by omega) (by omega),show ((i:Int) + 1)=((i+1:Nat):Int) by omega]
  simpa using ih
theorem Uk {h:List Cell} (H:Hp h) {N:Nat} (hN:2000000≤N):He N h h=some true:=by
 have hl:=H.len
 unfold He
 have:=Rc hl (fun c hc=>H.NR hc) hN (Nat.zero_le _) (by omega:h.length - 0 < N)
 rw[show ((0:Nat):Int)=0 from rfl] at this
 simp[this]
end RC


namespace RC
open Go
def Eh (h:List Cell) (w:Int):Bool:=decide (1000≤w) && (match h[(w - 1000).toNat]? with | some c=>decide (0 < c.count) | none=>false)
def FA (w:Int):Bool:=decide (-999≤w) && decide (w≤999)
def Gs (h:List Cell) (w:Int):Bool:=Eh h w || FA w
theorem Rj {h:List Cell} {w:Int} {c:Cell} (h1:1000≤w) (hc:h[(w - 1000).toNat]?=some c):Eh h w=decide (0 < c.count):=by simp[Eh,h1,hc]
theorem Q6 {h:List Cell} {w:Int} (h2:¬ w - 1000 < h.length):Eh h w=false:=by
 unfold Eh
 rw[List.getElem?_eq_none (by omega)];simp
theorem LZ {h:List Cell} {w:Int} (h1:¬ 1000≤w):Eh h w=false:=by simp[Eh,h1]
theorem HE {h:List Cell} {w:Int} (hl:Eh h w=true) :∃(i:Nat) (c:Cell),w=1000+(i:Int)∧(w - 1000).toNat=i∧i < h.length∧h[i]?=some c∧0 < c.count:=by
 unfold Eh at hl
 simp only[Bool.and_eq_true,decide_eq_true_eq] at hl
 obtain⟨h1,h2⟩:=hl
 split at h2
 ·rename_i c hc
  exact⟨(w - 1000).toNat,c,by omega,rfl,(List.getElem?_eq_some_iff.1 hc).1,hc,by simpa using h2⟩
 ·cases h2
theorem A6 (a b c:Int):As a b c=some (decide (b≤a) && decide (a≤c)):=by
 unfold As
 by_cases h:b≤a <;> simp[h]
theorem LL {h:List Cell} {w:Int} (hl:h.length≤1048576) (hw:Ez w):FE h w=some (Eh h w):=by
 obtain⟨w1,w2⟩:=hw
 unfold FE Ct
 rw[A6,AK,Au (n:=(h.length:Int) - 1) (by omega) (by omega)]
 by_cases h1:-9223372036854775808≤w - 1000
 ·rw[Au h1 (by omega)]
  by_cases h2:1000≤w
  ·by_cases h3:w - 1000 < h.length
   ·obtain⟨c,hc,hc2⟩:=L5 (l:=h) (j:=w - 1000) (by omega) h3
    have e:(decide (0≤w - 1000) && decide (w - 1000≤(h.length:Int) - 1))=true:=by
     simp;omega
    simp only[Option.bind_some,e,h2,hc,decide_true,if_true,Rj h2 hc2]
   ·have e:(decide (0≤w - 1000) && decide (w - 1000≤(h.length:Int) - 1))=false:=by
     simp;omega
    simp only[Option.bind_some,e,Q6 h3];simp
  ·have e:(decide (0≤w - 1000) && decide (w - 1000≤(h.length:Int) - 1))=false:=by
    simp;omega
   simp only[Option.bind_some,e,LZ h2];simp
 ·have e0:Sh.w (w - 1000)=w - 1000+18446744073709551616:=Abs.TK (by omega) (by omega)
  have e:(decide (0≤Sh.w (w - 1000)) && decide (Sh.w (w - 1000)≤(h.length:Int) - 1))=false:=by
   rw[e0];simp;omega
  simp only[Option.bind_some,e,LZ (h:=h) (w:=w) (by omega)];simp
theorem WI {h:List Cell} {w:Int} (hl:h.length≤1048576) (hw:Ez w):Ih h w=some (Gs h w):=by
 unfold Ih
 rw[A6,LL hl hw]
 unfold Gs FA
 by_cases h1:-999≤w <;> by_cases h2:w≤999 <;> simp[h1,h2]
theorem Jv {h:List Cell} {w:Int} (hl:h.length≤1048576) (hw:Ez w):FC h w=some (Sh.w (w - 1000),Eh h w):=by
 obtain⟨w1,w2⟩:=hw
 unfold FC
 by_cases h2:1000≤w
 ·rw[Au (n:=w - 1000) (by omega) (by omega),AK]
  by_cases h3:w - 1000 < h.length
  ·obtain⟨c,hc,hc2⟩:=L5 (l:=h) (j:=w - 1000) (by omega) h3
   simp[h2,h3,hc,Rj h2 hc2]
  ·simp[h2,h3,Q6 h3]
 ·simp[h2,LZ h2]
theorem Me (w:Int):GF w=some (FA w):=by
 unfold GF FA
 by_cases h:-999≤w <;> simp[h]
theorem Se {h:List Cell} {w:Int} (hl:h.length≤1048576) (hw:Ez w):Gi h w=some (Gs h w):=by
 unfold Gi Gs
 rw[Jv hl hw,Me]
 cases h1:Eh h w <;> simp[h1]
def KZ (l:List Int):Bool:=l.all fun w=>decide (w=0)
def Jo (h:List Cell) (c:Cell):Bool:=
 !(decide (c.count < -1) || decide (c.tag < 0) || decide (99 < c.tag) || decide (3 < (c.fields.length:Int))) &&
 !((decide (c.count < 1) && !decide (c.tag=0)) || (decide (c.count=0) && decide (0 < (c.fields.length:Int)))) &&
 c.fields.all fun w=>Gs h w && !(decide (c.count < 0) && !decide (w=0))
def Kc (h:List Cell) (c:Cell):Bool:=
 !(decide (3 < (c.fields.length:Int)) || !(decide (-1≤c.count) && decide (c.count≤999999))) &&
 if c.count < 1 then decide (c.tag=0) && KZ c.fields && (decide (c.count < 0) || decide ((c.fields.length:Int)=0)) else (c.fields.all fun w=>Gs h w) && (decide (0≤c.tag) && decide (c.tag≤99))
theorem I2 {α:Type} {p:α→Bool} {l:List α} {i:Nat} {x:α} (h:l[i]?=some x):(l.drop i).all p=(p x && (l.drop (i+1)).all p):=by rw[drop_cons h];rfl
theorem Rq {l:List Int} (hl:l.length≤1048576) {N i:Nat} (hi:i≤l.length) (hN:l.length - i < N):Dc l N i=some (if KZ (l.drop i) then Sum.inr () else Sum.inl false):=by
 refine BN l.length (fun N i=>Dc l N i=some (if KZ (l.drop i) then Sum.inr () else Sum.inl false)) ?_ ?_ hi hN
 ·intro n
  rw[Dc,if_neg (by simp[AK])];simp[KZ]
 ·intro n i hi ih
  obtain⟨x,hx,_⟩:=BS hi
  rw[Dc,if_pos (by simp[AK];omega),Ai hx]
  simp only[Option.bind_some]
  rw[Au (by omega) (by omega),show ((i:Int) + 1)=((i+1:Nat):Int) from rfl,ih]
  unfold KZ
  rw[I2 hx]
  by_cases h:x=0 <;> simp[h]
theorem Uw {l:List Int} (hl:l.length≤1048576) {N:Nat} (hN:2000000≤N):Hq N l=some (KZ l):=by
 unfold Hq
 have:=Rq hl (Nat.zero_le _) (by omega:l.length - 0 < N)
 rw[show ((0:Nat):Int)=0 from rfl,List.drop_zero] at this
 rw[this]
 cases KZ l <;> simp
theorem Ps {h:List Cell} {c:Cell} (hl:h.length≤1048576) (hf:c.fields.length≤1048576) (hF :∀x∈c.fields,Ez x) {N i:Nat} (hi:i≤c.fields.length) (hN:c.fields.length - i < N) :
  Cr h c N i=some (if (c.fields.drop i).all (fun w=>Gs h w) then Sum.inr () else Sum.inl false):=by
 refine BN c.fields.length (fun N i=>Cr h c N i=some (if (c.fields.drop i).all (fun w=>Gs h w) then Sum.inr () else Sum.inl false)) ?_ ?_ hi hN
 ·intro n
  rw[Cr,if_neg (by simp[AK])];simp
 ·intro n i hi ih
  obtain⟨x,hx,hxm⟩:=BS hi
  rw[Cr,if_pos (by simp[AK];omega),Ai hx]
  simp only[Option.bind_some]
  rw[WI hl (hF x hxm)]
  simp only[Option.bind_some]
  rw[Au (by omega) (by omega),show ((i:Int) + 1)=((i+1:Nat):Int) from rfl,ih,I2 hx]
  cases Gs h x <;> simp
theorem SQ {h:List Cell} {c:Cell} (hl:h.length≤1048576) (hf:c.fields.length≤1048576) (hF :∀x∈c.fields,Ez x) {N:Nat} (hN:2000000≤N):GZ N h c=some (Kc h c):=by
 unfold GZ Kc
 simp only[A6,AK,Uw hf hN]
 by_cases h1:3 < (c.fields.length:Int)
 ·simp[h1]
 ·by_cases h2:-1≤c.count
  ·by_cases h3:c.count≤999999
   ·by_cases h4:c.count < 1
    ·by_cases h5:c.tag=0
     ·cases h6:KZ c.fields
      ·simp[h1,h2,h3,h4,h5]
      ·by_cases h7:c.count < 0 <;> simp[h1,h2,h3,h4,h5,h7]
     ·simp[h1,h2,h3,h4,h5]
    ·have:=Ps hl hf hF (Nat.zero_le _) (by omega:c.fields.length - 0 < N)
     rw[show ((0:Nat):Int)=0 from rfl,List.drop_zero] at this
     simp only[h1,h2,h3,h4,this]
     cases c.fields.all (fun w=>Gs h w) <;> simp
   ·simp[h1,h2,h3]
  ·simp[h1,h2]
def UH (h:List Cell) (c:Cell) (w:Int):Bool:=Gs h w && !(decide (c.count < 0) && !decide (w=0))
theorem Pw {h:List Cell} {c:Cell} (hl:h.length≤1048576) (hf:c.fields.length≤1048576) (hF :∀x∈c.fields,Ez x) {N i:Nat} (hi:i≤c.fields.length) (hN:c.fields.length - i < N) :
  Ck h c N i=some (if (c.fields.drop i).all (UH h c) then Sum.inr () else Sum.inl false):=by
 refine BN c.fields.length (fun N i=>Ck h c N i=some (if (c.fields.drop i).all (UH h c) then Sum.inr () else Sum.inl false)) ?_ ?_ hi hN
 ·intro n
  rw[Ck,if_neg (by simp[AK])];simp
 ·intro n i hi ih
  obtain⟨x,hx,hxm⟩:=BS hi
  rw[Ck,if_pos (by simp[AK];omega),Ai hx]
  simp only[Option.bind_some]
  rw[Se hl (hF x hxm)]
  simp only[Option.bind_some]
  rw[Au (by omega) (by omega),show ((i:Int) + 1)=((i+1:Nat):Int) from rfl,ih,I2 hx]
  unfold UH
  cases Gs h x
  ·simp
  ·by_cases h1:c.count < 0 <;> by_cases h2:x=0 <;> simp[h1,h2]
theorem SZ {h:List Cell} {c:Cell} (hl:h.length≤1048576) (hf:c.fields.length≤1048576) (hF :∀x∈c.fields,Ez x) {N:Nat} (hN:2000000≤N):Gf N h c=some (Jo h c):=by
 have hc:Jo h c=(!(decide (c.count < -1) || decide (c.tag < 0) || decide (99 < c.tag) || decide (3 < (c.fields.length:Int))) &&
   !((decide (c.count < 1) && !decide (c.tag=0)) || (decide (c.count=0) && decide (0 < (c.fields.length:Int)))) && c.fields.all (UH h c)):=rfl
 rw[hc]
 unfold Gf
 have:=Pw hl hf hF (Nat.zero_le _) (by omega:c.fields.length - 0 < N)
 rw[show ((0:Nat):Int)=0 from rfl,List.drop_zero] at this
 simp only[AK,this]
 have key :∀b:Bool,Sh.cont (some (if b=true then (Sum.inr ():Bool ⊕ Unit) else Sum.inl false)) id (fun _=>some true)=some b:=fun b=>by cases b <;> rfl
 by_cases h1:c.count < -1
 ·simp[h1]
 ·by_cases h2:c.tag < 0
  ·simp[h1,h2]
  ·by_cases h3:99 < c.tag
   ·simp[h1,h2,h3]
   ·by_cases h4:3 < (c.fields.length:Int)
    ·simp[h1,h2,h3,h4]
    ·by_cases h5:c.count < 1
     ·by_cases h6:c.tag=0
      ·by_cases h7:c.count=0
       ·by_cases h8:0 < (c.fields.length:Int)
        ·have h8':0 < c.fields.length:=by omega
         simp[h2,h3,h4,h5,h6,h7,h8']
        ·simp only[h1,h2,h3,h4,h5,h6,h7,h8,key];simp
       ·simp only[h1,h2,h3,h4,h5,h6,h7,key];simp
      ·simp[h1,h2,h3,h4,h5,h6]
     ·have h7:¬ c.count=0:=by omega
      simp only[h1,h2,h3,h4,h5,h7,key];simp
theorem S6 (h:List Cell) (c:Cell):Kc h c=(Jo h c && decide (c.count≤999999)):=by
 unfold Kc Jo
 by_cases h4:3 < (c.fields.length:Int)
 ·simp[h4]
 ·by_cases hm:c.count≤999999
  ·by_cases hlo:-1≤c.count
   ·have hlo':¬ c.count < -1:=by omega
    by_cases h5:c.count < 1
    ·by_cases h6:c.tag=0
     ·by_cases h7:c.count=0
      ·by_cases h8:0 < (c.fields.length:Int)
       ·have h9:¬ (c.fields.length:Int)=0:=by omega
        have h8':0 < c.fields.length:=by omega
        have h9':¬ c.fields=[]:=fun e=>by rw[e] at h8';simp at h8'
        simp[h4,h6,h7,h8',h9']
       ·have h9:c.fields=[]:=List.eq_nil_of_length_eq_zero (by omega)
        simp[hm,h7,h6,h9,KZ]
      ·have h8:c.count < 0:=by omega
       simp only[h4,hm,hlo,hlo',h5,h6,h7,h8,KZ]
       simp only[decide_true,decide_false,Bool.not_false,Bool.and_true,Bool.true_and,Bool.or_false,Bool.or_true,Bool.and_self,Bool.not_true,if_true,Bool.false_and,Bool.or_self,Bool.true_or]
       have e :∀l:List Int,(l.all fun w=>decide (w=0))=l.all fun w=>Gs h w && !(!decide (w=0)):=fun l=>by
        congr 1
        funext w
        by_cases h0:w=0
        ·subst h0
         have:Gs h 0=true:=by simp[Gs,FA]
         simp[this]
        ·simp[h0]
       rw[e]
       simp
     ·have h6':decide (c.tag=0)=false:=by simpa using h6
      simp[h4,hm,hlo,hlo',h5,h6']
    ·have h7:¬ c.count=0:=by omega
     have h8:¬ c.count < 0:=by omega
     by_cases h9:c.tag < 0
     ·have:¬ 0≤c.tag:=by omega
      simp[h4,hm,hlo,hlo',h5,h7,h8,h9,this]
     ·have h9':0≤c.tag:=by omega
      by_cases h10:99 < c.tag
      ·have:¬ c.tag≤99:=by omega
       simp[h4,hm,hlo,hlo',h5,h7,h8,h9,h10,this]
      ·have:c.tag≤99:=by omega
       simp[h4,hm,hlo,hlo',h5,h7,h8,h9,h9',h10,this]
   ·have:c.count < -1:=by omega
    simp[h4,hlo,this]
  ·simp[hm]
end RC


namespace RC
open Go
def rowOf {α:Type} (n:Nat) (f:Nat→α):List α:=(List.range n).map f
theorem E5 {α:Type} {n:Nat} {f:Nat→α}:(rowOf n f).length=n:=by simp[rowOf]
theorem Bc {α:Type} {n:Nat} {f:Nat→α} {j:Nat} (h:j < n):(rowOf n f)[j]?=some (f j):=by simp[rowOf,h]
theorem Bj {α:Type} {n:Nat} {f g:Nat→α} (h :∀j,j < n→f j=g j):rowOf n f=rowOf n g:=List.map_congr_left fun j hj=>h j (List.mem_range.1 hj)
theorem E4 {α:Type} {n:Nat} {f:Nat→α} {j:Nat} {v:α}:(rowOf n f).set j v=rowOf n (fun k=>if k=j then v else f k):=by
 apply List.ext_getElem?
 intro k
 rw[List.getElem?_set]
 by_cases hk:k < n
 ·rw[Bc hk,Bc hk,E5]
  by_cases e:j=k
  ·subst e;simp[hk]
  ·have e':¬ k=j:=fun h=>e h.symm
   simp[e,e']
 ·rw[List.getElem?_eq_none (by rw[E5];omega),List.getElem?_eq_none (by rw[E5];omega),E5]
  by_cases e:j=k
  ·subst e;simp[hk]
  ·simp[e]
theorem Ea {α:Type} (n:Nat) (x:α):List.replicate n x=rowOf n (fun _=>x):=by
 apply List.ext_getElem?
 intro k
 by_cases hk:k < n
 ·rw[Bc hk];simp[hk]
 ·rw[List.getElem?_eq_none (by simp;omega),List.getElem?_eq_none (by rw[E5];omega)]
def NQ (h:List Cell) (j:Nat) (w:Int):Bool:=Eh h w && decide ((w - 1000).toNat=j)
def Fq (h:List Cell) (ws:List Int) (j:Nat):Nat:=ws.countP (NQ h j)
def E0 (h l:List Cell) (j:Nat):Nat:=(l.map fun c=>Fq h c.fields j).sum
theorem O2 (h:List Cell) (j:Nat):Fq h [] j=0:=rfl
theorem Xg (h:List Cell) (x:Int) (ws:List Int) (j:Nat):Fq h (x :: ws) j=(if NQ h j x then 1 else 0) + Fq h ws j:=by
 unfold Fq;rw[List.countP_cons];omega
theorem H6 {h:List Cell} {ws:List Int} {i:Nat} {x:Int} (hx:ws[i]?=some x) (j:Nat):Fq h (ws.drop i) j=(if NQ h j x then 1 else 0) + Fq h (ws.drop (i+1)) j:=by rw[drop_cons hx,Xg]
theorem TX (h:List Cell) (ws:List Int) (j:Nat):Fq h ws j≤ws.length:=List.countP_le_length
theorem Mm {h l:List Cell} {i:Nat} {c:Cell} (hc:l[i]?=some c) (j:Nat):E0 h (l.drop i) j=Fq h c.fields j+E0 h (l.drop (i+1)) j:=by rw[drop_cons hc];simp[E0]
theorem TW (h l:List Cell) (j:Nat):E0 h l j≤Fy l:=by
 induction l with
 | nil=>simp[E0]
 | cons c l ih=>
  have:=TX h c.fields j
  simp only[E0,Fy,List.map_cons,List.sum_cons] at ih ⊢
  omega
theorem WV {h:List Cell} {j:Nat} {x:Int} (hh:NQ h j x=true):Eh h x=true∧(x - 1000).toNat=j:=by
 unfold NQ at hh;simpa using hh
theorem Mk {h:List Cell} {j:Nat} {x:Int} (hl:Eh h x=false):NQ h j x=false:=by simp[NQ,hl]
theorem Oh {h:List Cell} {j:Nat} {x:Int} (hl:Eh h x=true):NQ h j x=decide ((x - 1000).toNat=j):=by simp[NQ,hl]
theorem UW {h:List Cell} {c:Cell} {i:Nat} (hc:h[i]?=some c) (hl:h.length≤1048576) (hf:c.fields.length≤1048576) (hF :∀x∈c.fields,Ez x) {N k:Nat} (hk:k≤c.fields.length) (hN:c.fields.length - k < N) :
  ∀f:Nat→Int,(∀j,0≤f j∧f j≤1048576+k)→D5 i h N k (rowOf h.length f)=some (rowOf h.length fun j=>f j+Fq h (c.fields.drop k) j):=by
 refine BN c.fields.length (fun N k=>∀f:Nat→Int,(∀j,0≤f j∧f j≤1048576+k)→D5 i h N k (rowOf h.length f)=some (rowOf h.length fun j=>f j+Fq h (c.fields.drop k) j)) ?_ ?_ hk hN
 ·intro n f _
  rw[D5,Ai hc]
  simp only[Option.bind_some]
  rw[if_neg (by simp[AK])]
  simp[O2]
 ·intro n k hk ih f hb
  obtain⟨x,hx,hxm⟩:=BS hk
  rw[D5,Ai hc]
  simp only[Option.bind_some]
  rw[if_pos (by simp[AK];omega),Ai hx]
  simp only[Option.bind_some]
  rw[LL hl (hF x hxm)]
  simp only[Option.bind_some]
  rw[Au (n:=(k:Int) + 1) (by omega) (by omega),show ((k:Int) + 1)=((k+1:Nat):Int) from rfl]
  cases hlv:Eh h x
  ·simp only[Bool.false_eq_true,if_false,Option.bind_some]
   rw[ih f (fun j=>⟨(hb j).1,by have:=(hb j).2;omega⟩)]
   congr 1
   refine Bj fun j _=>?_
   rw[H6 hx,Mk hlv];simp
  ·obtain⟨q,c',h1,h2,h3,_⟩:=HE hlv
   have e1:x - 1000=(q:Int):=by omega
   simp only[if_true]
   rw[Au (n:=x - 1000) (by omega) (by omega),e1,Ai (Bc h3)]
   simp only[Option.bind_some]
   have hbq:=hb q
   rw[Au (by omega) (by omega),ET,E4]
   rw[ih _ (fun j=>by
    by_cases e:j=q
    ·simp only[e,if_true];omega
    ·simp only[e,if_false];have:=hb j;omega)]
   congr 1
   refine Bj fun j _=>?_
   rw[H6 hx,Oh hlv,h2]
   by_cases e:j=q
   ·subst e;simp;omega
   ·have e':¬ q=j:=fun h=>e h.symm
    simp[e,e']
theorem VP {h:List Cell} (H:Hp h) {M:Nat} (hM:2000000≤M) {N i:Nat} (hi:i≤h.length) (hN:h.length - i < N) :
  ∀f:Nat→Int,(∀j,0≤f j∧f j+E0 h (h.drop i) j≤1048576)→D7 M h N i (rowOf h.length f)=some (rowOf h.length fun j=>f j+E0 h (h.drop i) j):=by
 have hl:=H.len
 refine BN h.length (fun N i=>∀f:Nat→Int,(∀j,0≤f j∧f j+E0 h (h.drop i) j≤1048576)→D7 M h N i (rowOf h.length f)=some (rowOf h.length fun j=>f j+E0 h (h.drop i) j)) ?_ ?_ hi hN
 ·intro n f _
  rw[D7,if_neg (by simp[AK])]
  simp[E0]
 ·intro n i hi ih f hb
  obtain⟨c,hc,hcm⟩:=BS hi
  have hfl:=H.NR hcm
  have:=UW hc hl hfl (H.cells c hcm).fields (Nat.zero_le _) (by omega:c.fields.length - 0 < M) f (fun j=>⟨(hb j).1,by have:=(hb j).2;omega⟩)
  rw[show ((0:Nat):Int)=0 from rfl,List.drop_zero] at this
  rw[D7,if_pos (by simp[AK];omega),this]
  simp only[Option.bind_some]
  rw[Au (by omega) (by omega),show ((i:Int) + 1)=((i+1:Nat):Int) from rfl,ih]
  ·congr 1
   refine Bj fun j _=>?_
   rw[Mm hc];omega
  ·intro j
   have:=hb j
   rw[Mm hc] at this
   omega
def refs (h:List Cell):List Int:=rowOf h.length fun j=>(E0 h h j:Int)
theorem Qt {h:List Cell} (H:Hp h) {N:Nat} (hN:2000000≤N):HJ N h=some (refs h):=by
 have hl:=H.len
 unfold HJ
 rw[AK,Gu _ h.length 8 (by omega) (by omega),Ea]
 simp only[Option.bind_some]
 have:=VP H hN (Nat.zero_le _) (by omega:h.length - 0 < N) (fun _=>0) (fun j=>⟨by omega,by
  have h1:=TW h (h.drop 0) j
  have h2:=NK h 0
  have h3:=H.size
  unfold CM at h3;omega⟩)
 rw[show ((0:Nat):Int)=0 from rfl,List.drop_zero] at this
 rw[this]
 simp[refs]
theorem WB {h:List Cell} {c:Cell} (hl:h.length≤1048576) (hf:c.fields.length≤1048576) (hF :∀x∈c.fields,Ez x) {N k:Nat} (hk:k≤c.fields.length) (hN:c.fields.length - k < N) :
  ∀f:Nat→Int,(∀j,0≤f j∧f j≤1048576+k)→B8 c h N k (rowOf h.length f)=some (rowOf h.length fun j=>f j+Fq h (c.fields.drop k) j):=by
 refine BN c.fields.length (fun N k=>∀f:Nat→Int,(∀j,0≤f j∧f j≤1048576+k)→B8 c h N k (rowOf h.length f)=some (rowOf h.length fun j=>f j+Fq h (c.fields.drop k) j)) ?_ ?_ hk hN
 ·intro n f _
  rw[B8,if_neg (by simp[AK])]
  simp[O2]
 ·intro n k hk ih f hb
  obtain⟨x,hx,hxm⟩:=BS hk
  rw[B8,if_pos (by simp[AK];omega),Ai hx]
  simp only[Option.bind_some]
  rw[Jv hl (hF x hxm)]
  simp only[Option.bind_some]
  rw[Au (n:=(k:Int) + 1) (by omega) (by omega),show ((k:Int) + 1)=((k+1:Nat):Int) from rfl]
  cases hlv:Eh h x
  ·simp only[Bool.false_eq_true,if_false,Option.bind_some]
   rw[ih f (fun j=>⟨(hb j).1,by have:=(hb j).2;omega⟩)]
   congr 1
   refine Bj fun j _=>?_
   rw[H6 hx,Mk hlv];simp
  ·obtain⟨q,c',h1,h2,h3,_⟩:=HE hlv
   have e1:x - 1000=(q:Int):=by omega
   simp only[if_true]
   rw[Au (n:=x - 1000) (by omega) (by omega),e1,Ai (Bc h3)]
   simp only[Option.bind_some]
   have hbq:=hb q
   rw[Au (by omega) (by omega),ET,E4]
   rw[ih _ (fun j=>by
    by_cases e:j=q
    ·simp only[e,if_true];omega
    ·simp only[e,if_false];have:=hb j;omega)]
   congr 1
   refine Bj fun j _=>?_
   rw[H6 hx,Oh hlv,h2]
   by_cases e:j=q
   ·subst e;simp;omega
   ·have e':¬ q=j:=fun h=>e h.symm
    simp[e,e']
theorem WT {h:List Cell} (H:Hp h) {M:Nat} (hM:2000000≤M) {N i:Nat} (hi:i≤h.length) (hN:h.length - i < N) :
  ∀f:Nat→Int,(∀j,0≤f j∧f j+E0 h (h.drop i) j≤1048576)→B9 M h N i (rowOf h.length f)=some (if (h.drop i).all (Jo h) then Sum.inr (rowOf h.length fun j=>f j+E0 h (h.drop i) j) else Sum.inl ([],false)):=by
 have hl:=H.len
 refine BN h.length (fun N i=>∀f:Nat→Int,(∀j,0≤f j∧f j+E0 h (h.drop i) j≤1048576)→B9 M h N i (rowOf h.length f)=some (if (h.drop i).all (Jo h) then Sum.inr (rowOf h.length fun j=>f j+E0 h (h.drop i) j) else Sum.inl ([],false))) ?_ ?_ hi hN
 ·intro n f _
  rw[B9,if_neg (by simp[AK])]
  simp[E0]
 ·intro n i hi ih f hb
  obtain⟨c,hc,hcm⟩:=BS hi
  have hfl:=H.NR hcm
  rw[B9,if_pos (by simp[AK];omega),Ai hc]
  simp only[Option.bind_some]
  rw[SZ hl hfl (H.cells c hcm).fields hM,I2 hc]
  simp only[Option.bind_some]
  cases hv:Jo h c
  ·simp
  ·simp only[Bool.not_true,Bool.false_eq_true,if_false,Bool.true_and]
   have:=WB hl hfl (H.cells c hcm).fields (Nat.zero_le _) (by omega:c.fields.length - 0 < M) f (fun j=>⟨(hb j).1,by have:=(hb j).2;omega⟩)
   rw[show ((0:Nat):Int)=0 from rfl,List.drop_zero] at this
   rw[this]
   simp only[Option.bind_some]
   rw[Au (by omega) (by omega),show ((i:Int) + 1)=((i+1:Nat):Int) from rfl,ih]
   ·have e:(rowOf h.length fun j=>f j+(Fq h c.fields j:Int) + (E0 h (h.drop (i+1)) j:Int))=rowOf h.length fun j=>f j+(E0 h (h.drop i) j:Int):=Bj fun j _=>by rw[Mm hc];omega
    rw[e]
   ·intro j
    have:=hb j
    rw[Mm hc] at this
    omega
def RV (p:Nat→Bool):Nat→Nat→Bool
 | 0,_=>true
 | k+1,i=>p i && RV p k (i+1)
def Li (p:Nat→Bool) (n i:Nat):Bool:=RV p (n - i) i
theorem O8 (p:Nat→Bool) (n:Nat):Li p n n=true:=by simp[Li,RV]
theorem OC {p:Nat→Bool} {n i:Nat} (h:i < n):Li p n i=(p i && Li p n (i+1)):=by
 unfold Li
 obtain⟨k,hk⟩ :∃k,n - i=k+1:=⟨n - i - 1,by omega⟩
 rw[hk,show n - (i+1)=k by omega];rfl
theorem Mi {p:Nat→Bool} {n i:Nat} (h:i≤n):Li p n i=true↔∀j,i≤j→j < n→p j=true:=by
 obtain⟨k,hk⟩ :∃k,n - i=k:=⟨_,rfl⟩
 induction k generalizing i with
 | zero=>
  have:i=n:=by omega
  subst this
  rw[O8]
  simp;intro j h1 h2;omega
 | succ k ih=>
  rw[OC (by omega),Bool.and_eq_true,ih (by omega) (by omega)]
  constructor
  ·rintro⟨h1,h2⟩ j h3 h4
   rcases Nat.eq_or_lt_of_le h3 with rfl | h5
   ·exact h1
   ·exact h2 j h5 h4
  ·intro h1
   exact⟨h1 i (Nat.le_refl _) (by omega),fun j h2 h3=>h1 j (by omega) h3⟩
def UO (h:List Cell) (j:Nat):Bool:=match h[j]? with | some c=>!(decide (0 < c.count) && decide (c.count < E0 h h j)) | none=>true
def Tw (h:List Cell) (j:Nat):Bool:=match h[j]? with | some c=>!(decide (0 < c.count) && (decide (c.count < E0 h h j) || decide (999999 < c.count))) | none=>true
theorem TT {h:List Cell} (hl:h.length≤1048576) {N i:Nat} (hi:i≤h.length) (hN:h.length - i < N):Co h (refs h) N i=some (if Li (UO h) h.length i then Sum.inr () else Sum.inl false):=by
 refine BN h.length (fun N i=>Co h (refs h) N i=some (if Li (UO h) h.length i then Sum.inr () else Sum.inl false)) ?_ ?_ hi hN
 ·intro n
  rw[Co,if_neg (by simp[AK]),O8];rfl
 ·intro n i hi ih
  obtain⟨c,hc,_⟩:=BS hi
  rw[Co,if_pos (by simp[AK];omega),Ai hc]
  simp only[Option.bind_some]
  rw[Ai (l:=refs h) (Bc hi),Au (by omega) (by omega),show ((i:Int) + 1)=((i+1:Nat):Int) from rfl,ih,OC hi]
  unfold UO
  rw[hc]
  by_cases h1:0 < c.count <;> by_cases h2:c.count < E0 h h i <;> simp[h1,h2]
def BO (l:List Nat):List Int:=List.map (fun n:Nat=>(n:Int)) l
def KU (h:List Cell) (i:Nat):List Nat:=(List.range' i (h.length - i)).filter fun j=>decide (E0 h h j=0)
theorem WE (h:List Cell):KU h h.length=[]:=by simp[KU]
theorem U3 {h:List Cell} {i:Nat} (hi:i < h.length):KU h i=(if E0 h h i=0 then [i] else []) ++ KU h (i+1):=by
 unfold KU
 obtain⟨k,hk⟩ :∃k,h.length - i=k+1:=⟨h.length - i - 1,by omega⟩
 rw[hk,show h.length - (i+1)=k by omega,List.range'_succ,List.filter_cons]
 by_cases h1:E0 h h i=0 <;> simp[h1]
theorem Vf {h:List Cell} (hl:h.length≤1048576) {N i:Nat} (hi:i≤h.length) (hN:h.length - i < N) :∀ws:List Nat,ws.length≤i→
  CG (refs h) h N i (BO ws)=some (if Li (Tw h) h.length i then Sum.inr (BO (ws ++ KU h i)) else Sum.inl ([],false)):=by
 refine BN h.length (fun N i=>∀ws:List Nat,ws.length≤i→CG (refs h) h N i (BO ws)=some (if Li (Tw h) h.length i then Sum.inr (BO (ws ++ KU h i)) else Sum.inl ([],false))) ?_ ?_ hi hN
 ·intro n ws _
  rw[CG,if_neg (by simp[AK]),O8,WE];simp
 ·intro n i hi ih ws hw
  obtain⟨c,hc,_⟩:=BS hi
  rw[CG,if_pos (by simp[AK];omega),Ai hc]
  simp only[Option.bind_some]
  rw[Ai (l:=refs h) (Bc hi),Au (by omega) (by omega),show ((i:Int) + 1)=((i+1:Nat):Int) from rfl,OC hi,U3 hi]
  simp only[Option.bind_some]
  have hok:Tw h i=!(decide (0 < c.count) && (decide (c.count < E0 h h i) || decide (999999 < c.count))):=by unfold Tw;rw[hc]
  rw[hok]
  by_cases hbad:0 < c.count∧(c.count < E0 h h i∨999999 < c.count)
  ·obtain⟨h1,h2⟩:=hbad
   by_cases h3:c.count < E0 h h i
   ·simp[h1,h3]
   ·have h4:999999 < c.count:=by rcases h2 with h | h;exact absurd h h3;exact h
    simp[h1,h3,h4]
  ·have hgood:(decide (0 < c.count) && (decide (c.count < E0 h h i) || decide (999999 < c.count)))=false:=by
    by_cases h1:0 < c.count
    ·have h2:¬ c.count < E0 h h i:=fun h=>hbad ⟨h1,.inl h⟩
     have h3:¬ 999999 < c.count:=fun h=>hbad ⟨h1,.inr h⟩
     simp[h2,h3]
    ·simp[h1]
   rw[hgood]
   have e1:(if decide (0 < c.count)=true then (if decide (c.count < (E0 h h i:Int))=true then some true else some (decide (999999 < c.count))) else some false)=some false:=by
    by_cases h1:0 < c.count
    ·have h2:¬ c.count < E0 h h i:=fun h=>hbad ⟨h1,.inl h⟩
     have h3:¬ 999999 < c.count:=fun h=>hbad ⟨h1,.inr h⟩
     simp[h1,h2,h3]
    ·simp[h1]
   rw[e1]
   simp only[Option.bind_some,Bool.false_eq_true,if_false,Bool.not_false,Bool.true_and]
   by_cases hz:E0 h h i=0
   ·have e2:decide ((E0 h h i:Int)=0)=true:=by simpa using hz
    rw[if_pos e2,Er _ _ _ (by simp[BO];omega) (by simp[BO];omega)]
    simp only[Option.bind_some,Sh.Jl]
    have:=ih (ws ++ [i]) (by simp;omega)
    simp only[BO,List.map_append,List.map_cons,List.map_nil] at this ⊢
    rw[this,if_pos hz]
    simp
   ·have e2:decide ((E0 h h i:Int)=0)=false:=by simp;omega
    rw[if_neg (by rw[e2];simp)]
    simp only[Sh.Jl]
    rw[ih ws (by omega),if_neg hz]
    simp
end RC


namespace RC
open Go
def WF (h:List Cell):Prop:=∀c∈h,∀w∈c.fields,Gs h w=true
def ch (h:List Cell) (i j:Nat):Prop:=∃c w,h[i]?=some c∧w∈c.fields∧Eh h w=true∧(w - 1000).toNat=j
def Qq (h:List Cell):Prop:=∃rk:Nat→Nat,∀i j,ch h i j→rk j < rk i
theorem Ni {h:List Cell} {i j:Nat} (hc:ch h i j):i < h.length∧j < h.length:=by
 obtain⟨c,w,h1,_,h3,h4⟩:=hc
 obtain⟨q,_,_,h5,h6,_⟩:=HE h3
 exact⟨(List.getElem?_eq_some_iff.1 h1).1,by omega⟩
theorem SE {h:List Cell} {i j:Nat} {c:Cell} (hc:h[i]?=some c):0 < Fq h c.fields j↔ch h i j:=by
 unfold Fq
 rw[List.countP_pos_iff]
 constructor
 ·rintro⟨w,h1,h2⟩
  obtain⟨h3,h4⟩:=WV h2
  exact⟨c,w,hc,h1,h3,h4⟩
 ·rintro⟨c',w,h1,h2,h3,h4⟩
  rw[hc] at h1;cases h1
  exact⟨w,h2,by simp[NQ,h3,h4]⟩
def KP (m:Nat→Bool) (n:Nat):Nat:=(List.range n).countP m
theorem Kz (m:Nat→Bool) (n:Nat):KP m n≤n:=by have:=List.countP_le_length (p:=m) (l:=List.range n);simpa [KP] using this
theorem HD (m:Nat→Bool) (n:Nat):KP m (n+1)=KP m n+if m n then 1 else 0:=by
 unfold KP;rw[List.range_succ,List.countP_append];simp[List.countP_cons]
theorem U7 {m m':Nat→Bool} {n:Nat} (h :∀j,j < n→m j=m' j):KP m n=KP m' n:=by
 induction n with
 | zero=>rfl
 | succ n ih=>rw[HD,HD,ih (fun j hj=>h j (by omega)),h n (by omega)]
theorem TL {m:Nat→Bool} {n i:Nat} (hi:i < n) (hm:m i=false):KP (fun k=>if k=i then true else m k) n=KP m n+1:=by
 induction n with
 | zero=>omega
 | succ n ih=>
  rw[HD,HD]
  by_cases e:i=n
  ·subst e
   rw[U7 (m':=m) (fun j hj=>by simp;omega)]
   simp[hm]
  ·rw[ih (by omega)]
   have:¬ n=i:=fun h=>e h.symm
   simp[this];omega
theorem J1 {m:Nat→Bool} {n:Nat}:KP m n=n↔∀j,j < n→m j=true:=by
 constructor
 ·intro h
  induction n with
  | zero=>intro j hj;omega
  | succ n ih=>
   rw[HD] at h
   have hle:=Kz m n
   have h1:m n=true:=by cases hm:m n <;> simp[hm] at h ⊢;omega
   simp[h1] at h
   intro j hj
   rcases Nat.lt_succ_iff_lt_or_eq.1 hj with h2 | rfl
   ·exact ih h j h2
   ·exact h1
 ·intro h
  induction n with
  | zero=>rfl
  | succ n ih=>rw[HD,ih (fun j hj=>h j (by omega)),h n (by omega)];rfl
def Tv (m:Nat→Bool) (w:Int):Bool:=!(decide (1000≤w)) || m (w - 1000).toNat
theorem O6 {n:Nat} {m:Nat→Bool} {l:List Int} (hn:n≤1048576) (hl:l.length≤1048576) (hw :∀w∈l,1000≤w→w - 1000 < n) {N i:Nat} (hi:i≤l.length) (hN:l.length - i < N) :
  Cl (rowOf n m) l N i=some (if (l.drop i).all (Tv m) then Sum.inr () else Sum.inl false):=by
 refine BN l.length (fun N i=>Cl (rowOf n m) l N i=some (if (l.drop i).all (Tv m) then Sum.inr () else Sum.inl false)) ?_ ?_ hi hN
 ·intro n'
  rw[Cl,if_neg (by simp[AK])];simp
 ·intro n' i hi ih
  obtain⟨x,hx,hxm⟩:=BS hi
  rw[Cl,if_pos (by simp[AK];omega),Ai hx]
  simp only[Option.bind_some]
  rw[Au (n:=(i:Int) + 1) (by omega) (by omega),show ((i:Int) + 1)=((i+1:Nat):Int) from rfl,ih,I2 hx]
  unfold Ct Tv
  simp only[Option.bind_some]
  by_cases h1:1000≤x
  ·have h2:=hw x hxm h1
   have e1:x - 1000=(((x - 1000).toNat:Nat):Int):=by omega
   rw[Au (n:=x - 1000) (by omega) (by omega)]
   have e2:Sh.get (rowOf n m) (x - 1000)=some (m (x - 1000).toNat):=by rw[PE (by omega),Bc (by omega)]
   rw[e2]
   cases m (x - 1000).toNat <;> simp[h1]
  ·simp[h1]
theorem SS {n:Nat} {m:Nat→Bool} {l:List Int} (hn:n≤1048576) (hl:l.length≤1048576) (hw :∀w∈l,1000≤w→w - 1000 < n) {N:Nat} (hN:2000000≤N):GP N (rowOf n m) l=some (l.all (Tv m)):=by
 unfold GP
 have:=O6 (m:=m) hn hl hw (Nat.zero_le _) (by omega:l.length - 0 < N)
 rw[show ((0:Nat):Int)=0 from rfl,List.drop_zero] at this
 rw[this]
 cases l.all (Tv m) <;> rfl
def J (h:List Cell) (m:Nat→Bool) (many:Nat):Prop:=
 (∃rk:Nat→Nat,(∀j,j < h.length→m j=true→rk j < many)∧∀i j,m i=true→ch h i j→m j=true∧rk j < rk i)∧KP m h.length=many
theorem J.mark {h:List Cell} {m:Nat→Bool} {many i:Nat} (hJ:J h m many) (hi:i < h.length) (hm:m i=false) (hall :∀j,ch h i j→m j=true):J h (fun k=>if k=i then true else m k) (many+1):=by
 obtain⟨⟨rk,h1,h2⟩,h3⟩:=hJ
 refine⟨⟨fun k=>if k=i then many else rk k,fun j hj hmj=>?_,fun a b hma hab=>?_⟩,by rw[TL hi hm,h3]⟩
 ·by_cases e:j=i
  ·simp[e]
  ·simp only[e,if_false] at hmj ⊢
   have:=h1 j hj hmj;omega
 ·have hb:=(Ni hab).2
  by_cases ea:a=i
  ·subst ea
   have hmb:=hall b hab
   have eb:¬ b=a:=fun e=>by rw[e,hm] at hmb;cases hmb
   simp only[eb,if_false,if_true]
   exact⟨hmb,h1 b hb hmb⟩
  ·simp only[ea,if_false] at hma
   obtain⟨h4,h5⟩:=h2 a b hma hab
   have eb:¬ b=i:=fun e=>by rw[e,hm] at h4;cases h4
   simp only[ea,eb,if_false]
   exact⟨h4,h5⟩
def Ue (h:List Cell) (m:Nat→Bool) (i:Nat):Prop:=∀j,ch h i j→m j=true
theorem S4 {h:List Cell} (hw:WF h) {m:Nat→Bool} {i:Nat} {c:Cell} (hc:h[i]?=some c):c.fields.all (Tv m)=true↔Ue h m i:=by
 rw[List.all_eq_true]
 constructor
 ·rintro h1 j ⟨c',w,h2,h3,h4,h5⟩
  rw[hc] at h2;cases h2
  have:=h1 w h3
  obtain⟨q,_,h6,_⟩:=HE h4
  have h7:1000≤w:=by omega
  simp only[Tv,h7,decide_true,Bool.not_true,Bool.false_or] at this
  rw[← h5];exact this
 ·intro h1 w h2
  unfold Tv
  by_cases h3:1000≤w
  ·have h4:=hw c (List.mem_of_getElem? hc) w h2
   have h5:FA w=false:=by unfold FA;simp;omega
   unfold Gs at h4
   rw[h5,Bool.or_false] at h4
   have:=h1 _ ⟨c,w,hc,h2,h4,rfl⟩
   simp[this]
  ·simp[h3]
theorem cL {h:List Cell} (hw:WF h) {c:Cell} (hc:c∈h) :∀w∈c.fields,1000≤w→w - 1000 < (h.length:Int):=fun w h2 h3=>by
 have h4:=hw c hc w h2
 have h5:FA w=false:=by unfold FA;simp;omega
 unfold Gs at h4
 rw[h5,Bool.or_false] at h4
 obtain⟨q,_,h6,_,h7,_⟩:=HE h4
 omega
theorem ZI {h:List Cell} (H:Hp h) (hw:WF h) {M:Nat} (hM:2000000≤M) {N i:Nat} (hi:i≤h.length) (hN:h.length - i < N) :∀(m:Nat→Bool) (many:Nat) (more:Bool),J h m many→
  ∃m' many' more',Ch M h N (many:Int) more i (rowOf h.length m)=some (((many':Nat):Int),more',rowOf h.length m')∧J h m' many'∧many≤many'∧
   (more'=false→more=false∧(∀j,j < h.length→m' j=m j)∧∀j,i≤j→j < h.length→m j=true∨¬ Ue h m j)∧(more'=true→more=true∨many < many'):=by
 have hl:=H.len
 refine BN h.length (fun N i=>∀(m:Nat→Bool) (many:Nat) (more:Bool),J h m many→
  ∃m' many' more',Ch M h N (many:Int) more i (rowOf h.length m)=some (((many':Nat):Int),more',rowOf h.length m')∧J h m' many'∧many≤many'∧
   (more'=false→more=false∧(∀j,j < h.length→m' j=m j)∧∀j,i≤j→j < h.length→m j=true∨¬ Ue h m j)∧(more'=true→more=true∨many < many')) ?_ ?_ hi hN
 ·intro n m many more hJ
  refine⟨m,many,more,?_,hJ,Nat.le_refl _,fun e=>⟨e,fun _ _=>rfl,fun j h1 h2=>by omega⟩,fun e=>.inl e⟩
  rw[Ch,if_neg (by simp[AK])]
 ·intro n i hi ih m many more hJ
  obtain⟨c,hc,hcm⟩:=BS hi
  have hmany:many≤h.length:=by rw[← hJ.2];exact Kz _ _
  rw[Ch,if_pos (by simp[AK];omega),Ai (Bc hi)]
  simp only[Option.bind_some]
  rw[Ai hc]
  simp only[Option.bind_some]
  rw[SS hl (H.NR hcm) (cL hw hcm) hM]
  simp only[Option.bind_some]
  rw[Au (n:=(i:Int) + 1) (by omega) (by omega),show ((i:Int) + 1)=((i+1:Nat):Int) from rfl]
  cases hmi:m i with
  | true=>
   obtain⟨m',many',more',e1,e2,e3,e4,e5⟩:=ih m many more hJ
   refine⟨m',many',more',by simpa using e1,e2,e3,fun e=>?_,e5⟩
   obtain⟨f1,f2,f3⟩:=e4 e
   refine⟨f1,f2,fun j h1 h2=>?_⟩
   rcases Nat.eq_or_lt_of_le h1 with rfl | h3
   ·exact .inl hmi
   ·exact f3 j h3 h2
  | false=>
   cases ha:c.fields.all (Tv m) with
   | false=>
    obtain⟨m',many',more',e1,e2,e3,e4,e5⟩:=ih m many more hJ
    refine⟨m',many',more',by simpa using e1,e2,e3,fun e=>?_,e5⟩
    obtain⟨f1,f2,f3⟩:=e4 e
    refine⟨f1,f2,fun j h1 h2=>?_⟩
    rcases Nat.eq_or_lt_of_le h1 with rfl | h3
    ·refine .inr fun h4=>?_
     rw[(S4 hw hc).2 h4] at ha;cases ha
    ·exact f3 j h3 h2
   | true=>
    have hJ':=hJ.mark hi hmi ((S4 hw hc).1 ha)
    obtain⟨m',many',more',e1,e2,e3,e4,e5⟩:=ih _ (many+1) true hJ'
    refine⟨m',many',more',?_,e2,by omega,fun e=>?_,fun e=>.inr (by omega)⟩
    ·have ew:Sh.w ((many:Int) + 1)=((many+1:Nat):Int):=by rw[Au (by omega) (by omega)];rfl
     simp only[Bool.not_false,if_true,Option.bind_some,ew,ET,E4]
     exact e1
    ·have:=(e4 e).1;cases this
theorem ZL {h:List Cell} (H:Hp h) (hw:WF h) {M:Nat} (hM:2000000≤M) :∀(d N:Nat) (m:Nat→Bool) (many:Nat),J h m many→h.length - many=d→d+1 < N→
  ∃m' many',Cg M h N (many:Int) true (rowOf h.length m)=some ((many':Nat):Int)∧J h m' many'∧∀j,j < h.length→m' j=true∨¬ Ue h m' j:=by
 have hl:=H.len
 intro d
 induction d using Nat.strongRecOn with
 | _ d ih=>
  intro N m many hJ hd hN
  obtain⟨n,rfl⟩ :∃n,N=n+1:=⟨N - 1,by omega⟩
  have hmany:many≤h.length:=by rw[← hJ.2];exact Kz _ _
  obtain⟨m',many',more',e1,e2,e3,e4,e5⟩:=ZI H hw hM (Nat.zero_le _) (by omega:h.length - 0 < M) m many false hJ
  rw[show ((0:Nat):Int)=0 from rfl] at e1
  have hmany':many'≤h.length:=by rw[← e2.2];exact Kz _ _
  rw[Cg,if_pos rfl,e1]
  simp only[Option.bind_some]
  cases more' with
  | true=>
   have h1:many < many':=by rcases e5 rfl with h | h;cases h;exact h
   exact ih (h.length - many') (by omega) n m' many' e2 rfl (by omega)
  | false=>
   obtain⟨_,f2,f3⟩:=e4 rfl
   obtain⟨n',rfl⟩ :∃n',n=n' + 1:=⟨n - 1,by omega⟩
   refine⟨m',many',?_,e2,fun j hj=>?_⟩
   ·rw[Cg,if_neg (by simp)]
   ·rcases f3 j (Nat.zero_le _) hj with h1 | h1
    ·left;rw[f2 j hj];exact h1
    ·right
     intro h2
     exact h1 fun q hq=>by rw[← f2 q (Ni hq).2];exact h2 q hq
theorem P7 {h:List Cell} {m:Nat→Bool} {many:Nat} (hJ:J h m many) (hc :∀j,j < h.length→m j=true∨¬ Ue h m j):many=h.length↔Qq h:=by
 obtain⟨⟨rk,h1,h2⟩,h3⟩:=hJ
 constructor
 ·intro e
  have hall:=J1.1 (h3.trans e)
  exact⟨rk,fun i j hij=>(h2 i j (hall i (Ni hij).1) hij).2⟩
 ·rintro⟨ZY,hr⟩
  rw[← h3]
  refine J1.2 fun j hj=>?_
  have key :∀d j,j < h.length→ZY j < d→m j=true:=by
   intro d
   induction d with
   | zero=>intro j _ h4;omega
   | succ d ih=>
    intro j hj hlt
    rcases hc j hj with h4 | h4
    ·exact h4
    ·exact absurd (fun q hq=>ih q (Ni hq).2 (by have:=hr j q hq;omega)) h4
  exact key (ZY j+1) j hj (by omega)
theorem Sl {h:List Cell} (H:Hp h) (hw:WF h) {N:Nat} (hN:2000000≤N) :∃b,GQ N h=some b∧(b=true↔Qq h):=by
 have hl:=H.len
 unfold GQ
 rw[AK,Gu _ h.length 1 (by omega) (by omega),Ea]
 simp only[Option.bind_some]
 have hJ0:J h (fun _=>false) 0:=⟨⟨fun _=>0,fun _ _ h=>(by cases h),fun _ _ h=>(by cases h)⟩,by
  have :∀n,KP (fun _=>false) n=0:=fun n=>by induction n with
   | zero=>rfl
   | succ n ih=>rw[HD,ih];rfl
  exact this _⟩
 obtain⟨m',many',e1,e2,e3⟩:=ZL H hw hN _ N _ 0 hJ0 rfl (by omega)
 rw[show ((0:Nat):Int)=0 from rfl] at e1
 rw[e1]
 simp only[Option.bind_some]
 refine⟨_,rfl,?_⟩
 rw[decide_eq_true_eq,← P7 e2 e3]
 omega
end RC


namespace RC
open Go
def fl (h:List Cell) (i:Nat):List Int:=match h[i]? with | some c=>c.fields | none=>[]
theorem Py {h:List Cell} {i:Nat} {c:Cell} (hc:h[i]?=some c):fl h i=c.fields:=by simp[fl,hc]
def JP (h:List Cell) (p:Nat→Bool) (j:Nat):Nat→Nat
 | 0=>0
 | n+1=>JP h p j n+if p n then 0 else Fq h (fl h n) j
def un (h:List Cell) (p:Nat→Bool) (j:Nat):Nat:=JP h p j h.length
theorem Q1 {h:List Cell} {p:Nat→Bool} {j n:Nat}:JP h p j n=0↔∀i,i < n→p i=false→Fq h (fl h i) j=0:=by
 induction n with
 | zero=>simp[JP]
 | succ n ih=>
  unfold JP
  constructor
  ·intro e i hi hp
   rcases Nat.lt_succ_iff_lt_or_eq.1 hi with h1 | rfl
   ·exact ih.1 (by omega) i h1 hp
   ·simp[hp] at e;omega
  ·intro e
   rw[ih.2 fun i hi=>e i (by omega)]
   cases hp:p n with
   | true=>simp
   | false=>simp[e n (by omega) hp]
theorem Ud {h:List Cell} {p p':Nat→Bool} {j n:Nat} (e :∀i,i < n→p i=p' i):JP h p j n=JP h p' j n:=by
 induction n with
 | zero=>rfl
 | succ n ih=>unfold JP;rw[ih fun i hi=>e i (by omega),e n (by omega)]
theorem TI {h:List Cell} {p:Nat→Bool} {j n x:Nat} (hx:x < n) (hp:p x=false):JP h p j n=JP h (fun k=>if k=x then true else p k) j n+Fq h (fl h x) j:=by
 induction n with
 | zero=>omega
 | succ n ih=>
  unfold JP
  by_cases e:x=n
  ·subst e
   rw[Ud (p':=fun k=>if k=x then true else p k) (n:=x) (fun i hi=>by
    have:¬ i=x:=by omega
    simp[this])]
   simp[hp]
  ·have e':¬ n=x:=fun h=>e h.symm
   rw[ih (by omega)]
   simp only[e',if_false]
   omega
theorem WH (h:List Cell) (j:Nat) :∀n,n≤h.length→JP h (fun _=>false) j n=E0 h (h.take n) j:=by
 intro n
 induction n with
 | zero=>intro _;simp[JP,E0]
 | succ n ih=>
  intro hn
  obtain⟨c,hc,_⟩:=BS (l:=h) (i:=n) (by omega)
  unfold JP
  rw[ih (by omega),Eo hc,Py hc]
  simp[E0]
theorem RH (h:List Cell) (j:Nat):un h (fun _=>false) j=E0 h h j:=by
 unfold un;rw[WH h j _ (Nat.le_refl _),List.take_length]
theorem Yy (h:List Cell) (p:Nat→Bool) (j:Nat) :∀n,n≤h.length→JP h p j n≤Fy (h.take n):=by
 intro n
 induction n with
 | zero=>intro _;simp[JP]
 | succ n ih=>
  intro hn
  obtain⟨c,hc,_⟩:=BS (l:=h) (i:=n) (by omega)
  have h1:=ih (by omega)
  have h2:=TX h c.fields j
  unfold JP
  rw[Eo hc,LK,Py hc]
  have:Fy [c]=c.fields.length:=by simp[Fy]
  split <;> omega
theorem bU (h:List Cell) (p:Nat→Bool) (j:Nat):un h p j≤Fy h:=by
 have:=Yy h p j h.length (Nat.le_refl _)
 rwa [List.take_length] at this
theorem Wl {h:List Cell} {c:Cell} (hl:h.length≤1048576) (hf:c.fields.length≤1048576) (hF :∀x∈c.fields,Ez x) {N k:Nat} (hk:k≤c.fields.length) (hN:c.fields.length - k < N) :
  ∀(g:Nat→Nat) (ws:List Nat),(∀j,g j≤1048576)→ws.length≤2097152+k→∃ps:List Nat,CC c h N k (rowOf h.length fun j=>((g j+Fq h (c.fields.drop k) j:Nat):Int)) (BO ws)=some (rowOf h.length fun j=>((g j:Nat):Int),BO (ws ++ ps))∧
   ps.Nodup∧ps.length≤c.fields.length - k∧∀j,j∈ps↔g j=0∧0 < Fq h (c.fields.drop k) j:=by
 refine BN c.fields.length (fun N k=>∀(g:Nat→Nat) (ws:List Nat),(∀j,g j≤1048576)→ws.length≤2097152+k→∃ps:List Nat,CC c h N k (rowOf h.length fun j=>((g j+Fq h (c.fields.drop k) j:Nat):Int)) (BO ws)=some (rowOf h.length fun j=>((g j:Nat):Int),BO (ws ++ ps))∧
   ps.Nodup∧ps.length≤c.fields.length - k∧∀j,j∈ps↔g j=0∧0 < Fq h (c.fields.drop k) j) ?_ ?_ hk hN
 ·intro n g ws _ _
  refine⟨[],?_,List.nodup_nil,by simp,fun j=>by simp[O2]⟩
  rw[CC,if_neg (by simp[AK])]
  simp[O2]
 ·intro n k hk ih g ws hg hws
  obtain⟨x,hx,hxm⟩:=BS hk
  rw[CC,if_pos (by simp[AK];omega),Ai hx]
  simp only[Option.bind_some]
  rw[Jv hl (hF x hxm)]
  simp only[Option.bind_some]
  rw[Au (n:=(k:Int) + 1) (by omega) (by omega),show ((k:Int) + 1)=((k+1:Nat):Int) from rfl]
  cases hlv:Eh h x
  ·simp only[Bool.false_eq_true,if_false,Option.bind_some]
   have e:(rowOf h.length fun j=>((g j+Fq h (c.fields.drop k) j:Nat):Int))=rowOf h.length fun j=>((g j+Fq h (c.fields.drop (k+1)) j:Nat):Int):=Bj fun j _=>by
    rw[H6 hx,Mk hlv];simp
   rw[e]
   obtain⟨ps,h1,h2,h3,h4⟩:=ih g ws hg (by omega)
   refine⟨ps,h1,h2,by omega,fun j=>?_⟩
   rw[h4 j,H6 hx,Mk hlv];simp
  ·obtain⟨q,c',h1,h2,h3,_⟩:=HE hlv
   have e1:x - 1000=(q:Int):=by omega
   have hq:Fq h (c.fields.drop k) q=1+Fq h (c.fields.drop (k+1)) q:=by rw[H6 hx,Oh hlv,h2];simp
   have hne :∀j,¬ j=q→Fq h (c.fields.drop k) j=Fq h (c.fields.drop (k+1)) j:=fun j e=>by
    have e':¬ q=j:=fun h=>e h.symm
    rw[H6 hx,Oh hlv,h2];simp[e']
   have hcb:=TX h (c.fields.drop (k+1)) q
   have hcl:(c.fields.drop (k+1)).length≤c.fields.length:=by simp
   have hgq:=hg q
   simp only[if_true]
   rw[Au (n:=x - 1000) (by omega) (by omega),e1,Ai (Bc h3)]
   simp only[Option.bind_some]
   rw[Au (n:=((g q+Fq h (c.fields.drop k) q:Nat):Int) - 1) (by omega) (by omega),ET,E4]
   have er:(rowOf h.length fun j=>if j=q then ((g q+Fq h (c.fields.drop k) q:Nat):Int) - 1 else ((g j+Fq h (c.fields.drop k) j:Nat):Int))=rowOf h.length fun j=>((g j+Fq h (c.fields.drop (k+1)) j:Nat):Int):=Bj fun j _=>by
    by_cases e:j=q
    ·subst e;simp only[if_true];omega
    ·simp only[e,if_false];rw[hne j e]
   rw[er,Ai (Bc h3)]
   simp only[Option.bind_some]
   by_cases hz:g q+Fq h (c.fields.drop (k+1)) q=0
   ·have ez:decide (((g q+Fq h (c.fields.drop (k+1)) q:Nat):Int)=0)=true:=by simp;omega
    rw[if_pos ez,Er _ _ _ (by simp[BO];omega) (by simp[BO];omega)]
    simp only[Option.bind_some]
    have en:BO ws ++ [(q:Int)]=BO (ws ++ [q]):=by simp[BO]
    rw[en]
    obtain⟨ps,f1,f2,f3,f4⟩:=ih g (ws ++ [q]) hg (by simp;omega)
    refine⟨q :: ps,by rw[f1];simp,List.nodup_cons.2 ⟨fun hm=>?_,f2⟩,by simp;omega,fun j=>?_⟩
    ·have:=(f4 q).1 hm;omega
    ·rw[List.mem_cons,f4 j]
     by_cases e:j=q
     ·subst e;rw[hq];constructor
      ·intro _;omega
      ·intro _;exact .inl rfl
     ·rw[hne j e];simp[e]
   ·have ez:decide (((g q+Fq h (c.fields.drop (k+1)) q:Nat):Int)=0)=false:=by simp;omega
    rw[if_neg (by rw[ez];simp)]
    simp only[Option.bind_some]
    obtain⟨ps,f1,f2,f3,f4⟩:=ih g ws hg (by omega)
    refine⟨ps,f1,f2,by omega,fun j=>?_⟩
    rw[f4 j]
    by_cases e:j=q
    ·subst e;rw[hq];constructor
     ·rintro⟨a,b⟩;exact⟨a,by omega⟩
     ·rintro⟨a,b⟩;exact⟨a,by omega⟩
    ·rw[hne j e]
structure KI (h:List Cell) (p:Nat→Bool) (ws:List Nat) (many:Nat):Prop where
 nd:ws.Nodup
 mem :∀x∈ws,x < h.length∧p x=false∧un h p x=0
 all :∀j,j < h.length→un h p j=0→p j=true∨j∈ws
 num:KP p h.length=many
 tm :∃tm:Nat→Nat,(∀j,j < h.length→p j=true→tm j < many)∧∀i j,ch h i j→p j=true→p i=true∧tm i < tm j
theorem Vo {ws:List Nat} {n:Nat} (hnd:ws.Nodup) (hm :∀x∈ws,x < n):ws.length≤n:=by
 induction n generalizing ws with
 | zero=>
  cases ws with
  | nil=>simp
  | cons x r=>have:=hm x (by simp);omega
 | succ n ih=>
  by_cases h:n∈ws
  ·have h1:=ih (hnd.erase n) fun x hx=>by
    obtain⟨h2,h3⟩:=hnd.mem_erase_iff.1 hx
    have:=hm x h3;omega
   rw[List.length_erase_of_mem h] at h1;omega
  ·have:=ih hnd fun x hx=>by
    have h1:=hm x hx
    have h2:¬ x=n:=fun e=>h (e ▸ hx)
    omega
   omega
theorem bK {h:List Cell} {p:Nat→Bool} {j i:Nat} (hu:un h p j=0) (hc:ch h i j):p i=true:=by
 obtain⟨c,w,h1,h2,h3,h4⟩:=hc
 cases hp:p i with
 | true=>rfl
 | false=>
  have:=Q1.1 hu i (List.getElem?_eq_some_iff.1 h1).1 hp
  rw[Py h1] at this
  have:=(SE (j:=j) h1).2 ⟨c,w,h1,h2,h3,h4⟩
  omega
theorem KI.step {h:List Cell} {p:Nat→Bool} {ws ps:List Nat} {many x:Nat} {c:Cell} (hK:KI h p (ws ++ [x]) many) (hc:h[x]?=some c) (hps:ps.Nodup)
  (hmem :∀j,j∈ps↔un h (fun k=>if k=x then true else p k) j=0∧0 < Fq h c.fields j):KI h (fun k=>if k=x then true else p k) (ws ++ ps) (many+1):=by
 obtain⟨hx1,hx2,hx3⟩:=hK.mem x (by simp)
 obtain⟨tm,t1,t2⟩:=hK.tm
 have hset :∀j,un h p j=un h (fun k=>if k=x then true else p k) j+Fq h c.fields j:=fun j=>by
  have:=TI (h:=h) (j:=j) hx1 hx2
  rwa [Py hc] at this
 have hnd:=hK.nd
 rw[List.nodup_append] at hnd
 obtain⟨hnd1,_,hnd3⟩:=hnd
 have hfresh :∀j∈ps,j < h.length∧¬ j=x∧p j=false∧0 < un h p j:=fun j hj=>by
  obtain⟨h1,h2⟩:=(hmem j).1 hj
  have hch:=(SE hc).1 h2
  have hpos:0 < un h p j:=by have:=hset j;omega
  have hjx:¬ j=x:=fun e=>by subst e;omega
  refine⟨(Ni hch).2,hjx,?_,hpos⟩
  cases hp:p j with
  | false=>rfl
  | true=>have:=(t2 x j hch hp).1;rw[hx2] at this;cases this
 refine⟨?_,fun y hy=>?_,fun j hj hu=>?_,by rw[TL hx1 hx2,hK.num],⟨fun k=>if k=x then many else tm k,fun j hj hp=>?_,fun i j hij hp=>?_⟩⟩
 ·rw[List.nodup_append]
  refine⟨hnd1,hps,fun a ha b hb e=>?_⟩
  subst e
  have h1:=(hK.mem a (by simp[ha])).2.2
  have h2:=(hfresh a hb).2.2.2
  omega
 ·rcases List.mem_append.1 hy with hy | hy
  ·obtain⟨h1,h2,h3⟩:=hK.mem y (by simp[hy])
   have hyx:¬ y=x:=fun e=>hnd3 y hy x (by simp) e
   have:=hset y
   exact⟨h1,by simp[hyx,h2],by omega⟩
  ·obtain⟨h1,h2,h3,_⟩:=hfresh y hy
   exact⟨h1,by simp[h2,h3],((hmem y).1 hy).1⟩
 ·by_cases hjx:j=x
  ·left;simp[hjx]
  ·have hs:=hset j
   rcases Nat.eq_zero_or_pos (Fq h c.fields j) with h0 | h0
   ·rcases hK.all j hj (by omega) with h1 | h1
    ·left;simp[hjx,h1]
    ·right
     rcases List.mem_append.1 h1 with h2 | h2
     ·exact List.mem_append.2 (.inl h2)
     ·simp at h2;exact absurd h2 hjx
   ·right;exact List.mem_append.2 (.inr ((hmem j).2 ⟨hu,h0⟩))
 ·by_cases hjx:j=x
  ·simp[hjx]
  ·simp only[hjx,if_false] at hp ⊢
   have:=t1 j hj hp;omega
 ·by_cases hjx:j=x
  ·subst hjx
   have hpi:=bK hx3 hij
   have hix:¬ i=j:=fun e=>by subst e;rw[hx2] at hpi;cases hpi
   simp only[hix,if_false,if_true]
   exact⟨hpi,t1 i (Ni hij).1 hpi⟩
  ·simp only[hjx,if_false] at hp
   obtain⟨h1,h2⟩:=t2 i j hij hp
   have hix:¬ i=x:=fun e=>by subst e;rw[hx2] at h1;cases h1
   simp only[hix,hjx,if_false]
   exact⟨h1,h2⟩
theorem WK {h:List Cell} (H:Hp h) {M:Nat} (hM:2000000≤M) :∀(d N:Nat) (p:Nat→Bool) (ws:List Nat) (many:Nat),KI h p ws many→h.length - many=d→d < N→
  ∃p' many',CD M h N (many:Int) (rowOf h.length fun j=>((un h p j:Nat):Int)) (BO ws)=some ((many':Nat):Int)∧KI h p' [] many':=by
 have hl:=H.len
 intro d
 induction d with
 | zero=>
  intro N p ws many hK hd hN
  obtain⟨n,rfl⟩ :∃n,N=n+1:=⟨N - 1,by omega⟩
  have hmany:many=h.length:=by have:=Kz p h.length;have:=hK.num;omega
  have hws:ws=[]:=by
   cases ws with
   | nil=>rfl
   | cons x r=>
    obtain⟨h1,h2,_⟩:=hK.mem x (by simp)
    have:=J1.1 (hK.num.trans hmany) x h1
    rw[h2] at this;cases this
  subst hws
  exact⟨p,many,by rw[CD,if_neg (by simp[AK,BO])],hK⟩
 | succ d ih=>
  intro N p ws many hK hd hN
  obtain⟨n,rfl⟩ :∃n,N=n+1:=⟨N - 1,by omega⟩
  have hmany:many≤h.length:=by have:=Kz p h.length;have:=hK.num;omega
  rcases List.eq_nil_or_concat ws with rfl | ⟨ws,x,rfl⟩
  ·exact⟨p,many,by rw[CD,if_neg (by simp[AK,BO])],hK⟩
  ·rw[List.concat_eq_append] at hK ⊢
   obtain⟨hx1,hx2,hx3⟩:=hK.mem x (by simp)
   obtain⟨c,hc,hcm⟩:=BS hx1
   have hwl:=Vo hK.nd (fun y hy=>(hK.mem y hy).1)
   rw[List.length_append,List.length_singleton] at hwl
   have elen:Sh.w (Sh.len (BO (ws ++ [x])) - 1)=(ws.length:Int):=by
    rw[AK]
    have:(BO (ws ++ [x])).length=ws.length+1:=by simp[BO]
    rw[this,Au (by omega) (by omega)];omega
   have eget:Sh.get (BO (ws ++ [x])) (ws.length:Int)=some (x:Int):=by
    rw[Oz];simp[BO]
   have ehi:Sh.hi (BO (ws ++ [x])) (ws.length:Int)=some (BO ws):=by
    rw[Yt (by simp[BO])]
    congr 1
    simp[BO]
   rw[CD,if_pos (by simp[AK,BO]),elen,eget]
   simp only[Option.bind_some]
   rw[Ai hc,ehi]
   simp only[Option.bind_some]
   have hun :∀j,un h p j=un h (fun k=>if k=x then true else p k) j+Fq h c.fields j:=fun j=>by
    have:=TI (h:=h) (j:=j) hx1 hx2
    rwa [Py hc] at this
   have hfs:=H.size
   obtain⟨ps,f1,f2,f3,f4⟩:=Wl hl (H.NR hcm) (H.cells c hcm).fields (Nat.zero_le _) (by have:=H.NR hcm;omega:c.fields.length - 0 < M) (fun j=>un h (fun k=>if k=x then true else p k) j) ws
    (fun j=>by have:=bU h (fun k=>if k=x then true else p k) j;unfold CM at hfs;omega) (by omega)
   rw[show ((0:Nat):Int)=0 from rfl,List.drop_zero] at f1
   have er:(rowOf h.length fun j=>((un h p j:Nat):Int))=rowOf h.length fun j=>((un h (fun k=>if k=x then true else p k) j+Fq h c.fields j:Nat):Int):=Bj fun j _=>by rw[hun j]
   rw[er,f1]
   simp only[Option.bind_some]
   have ew:Sh.w ((many:Int) + 1)=((many+1:Nat):Int):=by rw[Au (by omega) (by omega)];rfl
   rw[ew]
   have hK':=hK.step hc f2 (by rw[List.drop_zero] at f4;exact f4)
   exact ih n _ _ (many+1) hK' (by omega) (by omega)
theorem Xk (rk:Nat→Nat) (n:Nat) :∃B,∀j,j < n→rk j≤B:=by
 induction n with
 | zero=>exact⟨0,fun j hj=>by omega⟩
 | succ n ih=>
  obtain⟨B,hB⟩:=ih
  refine⟨max B (rk n),fun j hj=>?_⟩
  rcases Nat.lt_succ_iff_lt_or_eq.1 hj with h1 | rfl
  ·have:=hB j h1;omega
  ·omega
theorem Px {h:List Cell} {p:Nat→Bool} {many:Nat} (hK:KI h p [] many):many=h.length↔Qq h:=by
 obtain⟨tm,t1,t2⟩:=hK.tm
 constructor
 ·intro e
  have hall:=J1.1 (hK.num.trans e)
  refine⟨fun k=>h.length - tm k,fun i j hij=>?_⟩
  obtain⟨hi,hj⟩:=Ni hij
  obtain⟨_,h2⟩:=t2 i j hij (hall j hj)
  have:=t1 j hj (hall j hj)
  show h.length - tm j < h.length - tm i
  omega
 ·rintro⟨rk,hr⟩
  rw[← hK.num]
  obtain⟨B,hB⟩:=Xk rk h.length
  refine J1.2 fun j hj=>?_
  have key :∀d j,j < h.length→B - rk j < d→p j=true:=by
   intro d
   induction d with
   | zero=>intro j _ h4;omega
   | succ d ih=>
    intro j hj hlt
    cases hp:p j with
    | true=>rfl
    | false=>
     have hu:¬ un h p j=0:=fun e=>by
      rcases hK.all j hj e with h1 | h1
      ·rw[hp] at h1;cases h1
      ·simp at h1
     have :∃i,i < h.length∧p i=false∧¬ Fq h (fl h i) j=0:=by
      refine Classical.byContradiction fun hno=>hu (Q1.2 fun i hi hpi=>?_)
      refine Classical.byContradiction fun hne=>hno ⟨i,hi,hpi,hne⟩
     obtain⟨i,hi,hpi,hne⟩:=this
     obtain⟨c,hc,_⟩:=BS hi
     rw[Py hc] at hne
     have hch:=(SE (j:=j) hc).1 (by omega)
     have h5:=hr i j hch
     have h6:=hB i hi
     have:=ih i hi (by omega)
     rw[hpi] at this;cases this
  exact key (B - rk j+1) j hj (by omega)
end RC


namespace RC
open Go
def LF (h:List Cell):Bool:=match h[h.length - 1]? with | some c=>decide (c.count=0) | none=>false
structure VH (h:List Cell):Prop where
 last:LF h=false
 cells :∀c∈h,Kc h c=true
 counts :∀j,j < h.length→UO h j=true
 Wt:Qq h
theorem VW {h:List Cell} (hl:h.length≤1048576):(if (decide (0 < (Sh.len h)))=true then Option.bind (Sh.get h (Sh.w ((Sh.len h) - 1))) fun c=>some (decide (c.count=0)) else some false)=some (LF h):=by
 rw[AK]
 unfold LF
 by_cases h0:h.length=0
 ·have:h=[]:=List.eq_nil_of_length_eq_zero h0
  subst this;rfl
 ·obtain⟨c,hc,_⟩:=BS (l:=h) (i:=h.length - 1) (by omega)
  rw[if_pos (by simp;omega),Au (by omega) (by omega),show ((h.length:Int) - 1)=((h.length - 1:Nat):Int) by omega,Ai hc,hc]
  rfl
theorem au {h:List Cell} (hc :∀c∈h,Jo h c=true):WF h:=fun c hcm w hw=>by
 have:=hc c hcm
 unfold Jo at this
 simp only[Bool.and_eq_true] at this
 have h2:=List.all_eq_true.1 this.2 w hw
 simp only[Bool.and_eq_true] at h2
 exact h2.1
theorem Q3 {h:List Cell} {c:Cell} (hc:Kc h c=true):Jo h c=true∧c.count≤999999:=by
 rw[S6,Bool.and_eq_true,decide_eq_true_eq] at hc;exact hc
theorem Tx {h:List Cell} (H:Hp h) {M:Nat} (hM:2000000≤M) {N i:Nat} (hi:i≤h.length) (hN:h.length - i < N):Cp M h N i=some (if (h.drop i).all (Kc h) then Sum.inr () else Sum.inl false):=by
 have hl:=H.len
 refine BN h.length (fun N i=>Cp M h N i=some (if (h.drop i).all (Kc h) then Sum.inr () else Sum.inl false)) ?_ ?_ hi hN
 ·intro n
  rw[Cp,if_neg (by simp[AK])];simp
 ·intro n i hi ih
  obtain⟨c,hc,hcm⟩:=BS hi
  rw[Cp,if_pos (by simp[AK];omega),Ai hc]
  simp only[Option.bind_some]
  rw[SQ hl (H.NR hcm) (H.cells c hcm).fields hM,Au (by omega) (by omega),show ((i:Int) + 1)=((i+1:Nat):Int) from rfl,ih,I2 hc]
  cases Kc h c <;> simp
theorem Ub {h:List Cell} (H:Hp h) {N:Nat} (hN:2000000≤N) :∃b,Ec N h=some b∧(b=true↔VH h):=by
 have hl:=H.len
 unfold Ec
 rw[VW hl]
 simp only[Option.bind_some]
 cases h1:LF h with
 | true=>exact⟨false,by simp,(by simp;intro hv;rw[hv.last] at h1;cases h1)⟩
 | false=>
  have e1:=Tx H hN (Nat.zero_le _) (by omega:h.length - 0 < N)
  rw[show ((0:Nat):Int)=0 from rfl,List.drop_zero] at e1
  simp only[Bool.false_eq_true,if_false]
  rw[e1,Qt H hN]
  cases h2:h.all (Kc h) with
  | false=>
   refine⟨false,by simp,?_⟩
   simp only[Bool.false_eq_true,false_iff]
   intro hv
   have:=List.all_eq_true.2 hv.cells
   rw[h2] at this;cases this
  | true=>
   have hcells:=List.all_eq_true.1 h2
   simp only[if_true,Sh.Jl,Option.bind_some]
   have e2:=TT hl (Nat.zero_le _) (by omega:h.length - 0 < N)
   rw[show ((0:Nat):Int)=0 from rfl] at e2
   rw[e2]
   cases h3:Li (UO h) h.length 0 with
   | false=>
    refine⟨false,by simp,?_⟩
    simp only[Bool.false_eq_true,false_iff]
    intro hv
    have:=(Mi (p:=UO h) (Nat.zero_le _)).2 fun j _ hj=>hv.counts j hj
    rw[h3] at this;cases this
   | true=>
    have hcnt:=(Mi (p:=UO h) (Nat.zero_le _)).1 h3
    obtain⟨b,f1,f2⟩:=Sl H (au fun c hc=>(Q3 (hcells c hc)).1) hN
    simp only[if_true,Sh.Jl]
    rw[f1]
    exact⟨b,rfl,f2.trans ⟨fun hr=>⟨h1,hcells,fun j hj=>hcnt j (Nat.zero_le _) hj,hr⟩,fun hv=>hv.Wt⟩⟩
theorem UQ {h:List Cell} {j:Nat} {c:Cell} (hc:h[j]?=some c):Tw h j=true↔UO h j=true∧(0 < c.count→c.count≤999999):=by
 unfold Tw UO
 rw[hc]
 by_cases h1:0 < c.count <;> by_cases h2:c.count < E0 h h j <;> by_cases h3:999999 < c.count <;> simp[h1,h2,h3] <;> omega
theorem TQ (l:List Int) (hl:l.length≤1048576):Dy l=some l:=by
 unfold Dy
 rw[Er _ _ _ (by simp;omega) (by simp;omega)];rfl
theorem VC {h:List Cell} (H:Hp h) {N:Nat} (hN:2000000≤N) :∃r b,EY N h=some (r,b)∧(b=true↔VH h)∧(b=true→r=refs h):=by
 have hl:=H.len
 unfold EY
 rw[VW hl,AK,Gu _ h.length 8 (by omega) (by omega),Ea]
 simp only[Option.bind_some]
 have e1:=WT H hN (Nat.zero_le _) (by omega:h.length - 0 < N) (fun _=>0) (fun j=>⟨by omega,by
  have h1:=TW h (h.drop 0) j
  have h2:=NK h 0
  have h3:=H.size
  unfold CM at h3;omega⟩)
 rw[show ((0:Nat):Int)=0 from rfl,List.drop_zero] at e1
 rw[e1]
 have er:(rowOf h.length fun j=>(0:Int) + (E0 h h j:Int))=refs h:=Bj fun j _=>by omega
 rw[er]
 cases h2:h.all (Jo h) with
 | false=>
  refine⟨[],false,by simp,?_,by simp⟩
  simp only[Bool.false_eq_true,false_iff]
  intro hv
  have:=List.all_eq_true.2 fun c hc=>(Q3 (hv.cells c hc)).1
  rw[h2] at this;cases this
 | true=>
  have hcells:=List.all_eq_true.1 h2
  simp only[if_true,Sh.Jl]
  cases h1:LF h with
  | true=>exact⟨[],false,by simp,(by simp;intro hv;rw[hv.last] at h1;cases h1),by simp⟩
  | false=>
   have hrl:(refs h).length=h.length:=E5
   simp only[Bool.false_eq_true,if_false]
   rw[TQ _ (by omega)]
   have e2:=Vf hl (Nat.zero_le _) (by omega:h.length - 0 < N) [] (by simp)
   rw[show ((0:Nat):Int)=0 from rfl,List.nil_append,show BO []=[] from rfl] at e2
   rw[e2]
   simp only[Option.bind_some]
   cases h3:Li (Tw h) h.length 0 with
   | false=>
    refine⟨[],false,by simp,?_,by simp⟩
    simp only[Bool.false_eq_true,false_iff]
    intro hv
    have:=(Mi (p:=Tw h) (Nat.zero_le _)).2 fun j _ hj=>by
     obtain⟨c,hc,hcm⟩:=BS hj
     exact (UQ hc).2 ⟨hv.counts j hj,fun _=>(Q3 (hv.cells c hcm)).2⟩
    rw[h3] at this;cases this
   | true=>
    have hcnt:=(Mi (p:=Tw h) (Nat.zero_le _)).1 h3
    simp only[if_true,Sh.Jl]
    have hr0:refs h=rowOf h.length fun j=>((un h (fun _=>false) j:Nat):Int):=Bj fun j _=>by rw[RH]
    have hK0:KI h (fun _=>false) (KU h 0) 0:=by
     have hz :∀x,x∈KU h 0↔x < h.length∧E0 h h x=0:=fun x=>by
      unfold KU
      rw[List.mem_filter,List.mem_range']
      simp
     refine⟨?_,fun x hx=>?_,fun j hj hu=>?_,?_,⟨fun _=>0,fun _ _ h=>(by cases h),fun _ _ _ h=>(by cases h)⟩⟩
     ·exact List.Nodup.sublist List.filter_sublist List.nodup_range'
     ·obtain⟨h4,h5⟩:=(hz x).1 hx
      exact⟨h4,rfl,by rw[RH];exact h5⟩
     ·rw[RH] at hu
      exact .inr ((hz j).2 ⟨hj,hu⟩)
     ·have :∀n,KP (fun _=>false) n=0:=fun n=>by induction n with
       | zero=>rfl
       | succ n ih=>rw[HD,ih];rfl
      exact this _
    obtain⟨p',many',f1,f2⟩:=WK H hN h.length N _ _ 0 hK0 (by omega) (by omega)
    rw[show ((0:Nat):Int)=0 from rfl,← hr0] at f1
    rw[f1]
    refine⟨refs h,_,rfl,?_,fun _=>rfl⟩
    rw[decide_eq_true_eq]
    have hm:((many':Nat):Int)=(h.length:Int)↔many'=h.length:=by omega
    rw[hm,Px f2]
    constructor
    ·intro hr
     refine⟨h1,fun c hc=>?_,fun j hj=>?_,hr⟩
     ·rw[S6,hcells c hc,Bool.true_and,decide_eq_true_eq]
      obtain⟨j,hj⟩:=List.mem_iff_getElem?.1 hc
      by_cases h4:0 < c.count
      ·exact ((UQ hj).1 (hcnt j (Nat.zero_le _) (List.getElem?_eq_some_iff.1 hj).1)).2 h4
      ·omega
     ·obtain⟨c,hc,_⟩:=BS hj
      exact ((UQ hc).1 (hcnt j (Nat.zero_le _) hj)).1
    ·exact fun hv=>hv.Wt
theorem YI {b b':Bool} {p:Prop} (h1:b=true↔p) (h2:b'=true↔p):b=b':=by
 cases b <;> cases b' <;> simp at h1 h2 <;> first | rfl | exact absurd h2 h1 | exact absurd h1 h2
theorem J7 {h:List Cell} (H:Hp h) {N:Nat} (hN:2000000≤N) :∃b r,Ec N h=some b∧Lf N h=some b∧EY N h=some (r,b)∧Gk N h=some b∧(b=true↔VH h)∧(b=true→r=refs h):=by
 obtain⟨b,h1,h2⟩:=Ub H hN
 obtain⟨r,b',h3,h4,h5⟩:=VC H hN
 obtain rfl:=YI h2 h4
 exact⟨b,r,h1,by unfold Lf;rw[h1];rfl,h3,by unfold Gk;rw[h3];rfl,h2,h5⟩
theorem Hp.of {h:List Cell} (H:W8 h) (hs:CM h≤1048576):Hp h:=⟨hs,H.1⟩
end RC


namespace RC
open Go
def live (h:List Cell):Nat:=h.countP fun c=>decide (0 < c.count)
end RC



namespace RC
open Go
end RC



namespace RC
open Go
def cat (h:List Cell) (j:Nat):Cell:=(h[j]?).getD ⟨0,0,[]⟩
def ct (h:List Cell) (j:Nat):Int:=(cat h j).count
theorem Zt {h:List Cell} {j:Nat} {c:Cell} (hc:h[j]?=some c):cat h j=c:=by simp[cat,hc]
theorem TU {h:List Cell} {j:Nat} (hj:j < h.length):h[j]?=some (cat h j):=by
 obtain⟨c,hc,_⟩:=BS hj
 rw[Zt hc];exact hc
theorem XA {h:List Cell} {j:Nat} (hj:h.length≤j):cat h j=⟨0,0,[]⟩:=by simp[cat,List.getElem?_eq_none hj]
theorem Ui {h:List Cell} {j:Nat} (hj:j < h.length):cat h j∈h:=List.mem_of_getElem? (TU hj)
theorem bB {h:List Cell} {j:Nat} (hj:ct h j≠0):j < h.length:=by
 by_cases h0:j < h.length
 ·exact h0
 ·exact absurd (by unfold ct;rw[XA (by omega)]) hj
theorem Tz (h:List Cell) (j:Nat):fl h j=(cat h j).fields:=by
 unfold fl cat;cases h[j]? <;> rfl
theorem Xp {h:List Cell} {j:Nat}:Eh h (1000+(j:Int))=decide (0 < ct h j):=by
 unfold Eh ct cat
 rw[show (1000+(j:Int) - 1000).toNat=j by omega]
 have e:decide ((1000:Int)≤1000+(j:Int))=true:=by simp;omega
 rw[e,Bool.true_and]
 cases h[j]? <;> rfl
theorem Zw {w:Int} (hw:1000≤w):w=1000+(((w - 1000).toNat:Nat):Int):=by omega
theorem Od {l:List Int} (hl:l.length≤1048576):Fv l=some l:=by
 unfold Fv
 rw[Er [] l 8 (by simp;omega) (by simp;omega)];rfl
end RC



namespace RC
open Go
theorem Hp.Zm {h:List Cell} (H:Hp h) (j:Nat) :∀w∈fl h j,Ez w:=by
 rw[Tz]
 by_cases hj:j < h.length
 ·exact (H.cells _ (Ui hj)).fields
 ·rw[XA (by omega)];intro w hw;cases hw
def gg (h:List Cell) (fr:Nat→Bool) (cn:Nat→Int) (j:Nat):Cell:=if fr j then ⟨0,0,[]⟩ else ⟨cn j,(cat h j).tag,(cat h j).fields⟩
def Nj (h:List Cell) (fr:Nat→Bool):Nat→Nat
 | 0=>0
 | n+1=>Nj h fr n+if fr n then 0 else (fl h n).length
theorem Vs {h:List Cell} {p q:Nat→Bool} {n:Nat} (e :∀i,i < n→p i=q i):Nj h p n=Nj h q n:=by
 induction n with
 | zero=>rfl
 | succ n ih=>unfold Nj;rw[ih fun i hi=>e i (by omega),e n (by omega)]
theorem ZF {h:List Cell} {p:Nat→Bool} {n x:Nat} (hx:x < n) (hp:p x=false):Nj h p n=Nj h (fun k=>if k=x then true else p k) n+(fl h x).length:=by
 induction n with
 | zero=>omega
 | succ n ih=>
  unfold Nj
  by_cases e:x=n
  ·subst e
   rw[Vs (p:=fun k=>if k=x then true else p k) (q:=p) (n:=x) (fun i hi=>by
    have:¬ i=x:=by omega
    simp[this])]
   simp[hp]
  ·have e':¬ n=x:=fun h=>e h.symm
   rw[ih (by omega)]
   simp only[e',if_false]
   omega
theorem Z0 (h:List Cell) (p:Nat→Bool):Nj h p h.length≤Fy h:=by
 have key :∀n,n≤h.length→Nj h p n≤Fy (h.take n):=by
  intro n
  induction n with
  | zero=>intro _;simp[Nj]
  | succ n ih=>
   intro hn
   have h1:=ih (by omega)
   have hc:=TU (h:=h) (j:=n) (by omega)
   unfold Nj
   rw[Eo hc,LK,Tz]
   have:Fy [cat h n]=(cat h n).fields.length:=by simp[Fy]
   split <;> omega
 have:=key h.length (Nat.le_refl _)
 rwa [List.take_length] at this
theorem YB {t:List Int} {w:Int} (hl:t.length≤4000000):Sh.get (t ++ [w]) (Sh.w (Sh.len (t ++ [w]) - 1))=some w:=by
 rw[AK,List.length_append]
 have e:(((t.length + [w].length:Nat):Int) - 1)=(t.length:Int):=by simp
 rw[e,Au (by omega) (by omega),Oz];simp
theorem Zf {t:List Int} {w:Int} (hl:t.length≤4000000):Sh.hi (t ++ [w]) (Sh.w (Sh.len (t ++ [w]) - 1))=some t:=by
 rw[AK,List.length_append]
 have e:(((t.length + [w].length:Nat):Int) - 1)=(t.length:Int):=by simp
 rw[e,Au (by omega) (by omega),Yt (by simp)];simp
theorem VD {t:List Int} {w:Int}:decide (0 < Sh.len (t ++ [w]))=true:=by rw[AK,List.length_append];simp
end RC



namespace RC
open Go
section
variable {h g : List Cell} {W : List Int} {fr : Nat → Bool} {cn : Nat → Int}
end
theorem YK {h:List Cell} {w:Int} (hw:1000≤w) (hwi:Ez w) (hj:(w - 1000).toNat < h.length):Sh.get h (Sh.w (w - 1000))=some (cat h (w - 1000).toNat):=by
 obtain⟨w1,w2⟩:=hwi
 rw[Au (by omega) (by omega),PE (by omega),TU hj]
end RC



namespace RC
open Go
def fst (h:List Cell):Nat→Nat→Nat
 | 0,i=>i
 | k+1,i=>if ct h i=0 then i else fst h k (i+1)
end RC



namespace RC
open Go
theorem XK {α:Type} {n:Nat} {f:Nat→α} {w:Int} (hw:1000≤w) (hwi:Ez w) (hj:(w - 1000).toNat < n):Sh.get (rowOf n f) (Sh.w (w - 1000))=some (f (w - 1000).toNat):=by
 obtain⟨w1,w2⟩:=hwi
 rw[Au (by omega) (by omega),PE (by omega),Bc hj]
theorem Xn {α:Type} {n:Nat} {f:Nat→α} {w:Int} {c:α} (hw:1000≤w) (hwi:Ez w):Sh.put (rowOf n f) (Sh.w (w - 1000)) c=rowOf n (fun k=>if k=(w - 1000).toNat then c else f k):=by
 obtain⟨w1,w2⟩:=hwi
 rw[Au (by omega) (by omega)]
 unfold Sh.put;rw[E4]
structure RI (h:List Cell) (W t:List Int) (m:Nat→Bool):Prop where
 live :∀i,m i=true→0 < ct h i
 closed :∀i,m i=true→∀w∈fl h i,1000≤w→0 < ct h (w - 1000).toNat→m (w - 1000).toNat=true∨w∈t
 words :∀w∈W,1000≤w→0 < ct h (w - 1000).toNat→m (w - 1000).toNat=true∨w∈t
 ti :∀w∈t,Ez w
theorem RI.pop {h:List Cell} {W t:List Int} {w:Int} {m:Nat→Bool} (R:RI h W (t ++ [w]) m) (hw:1000≤w→0 < ct h (w - 1000).toNat→m (w - 1000).toNat=true):RI h W t m:=by
 have key :∀v,1000≤v→0 < ct h (v - 1000).toNat→(m (v - 1000).toNat=true∨v∈t ++ [w])→m (v - 1000).toNat=true∨v∈t:=fun v h1 h2 h3=>by
  rcases h3 with h3 | h3
  ·exact .inl h3
  ·rcases List.mem_append.1 h3 with h3 | h3
   ·exact .inr h3
   ·rw[List.mem_singleton] at h3;subst h3;exact .inl (hw h1 h2)
 exact⟨R.live,fun i hi v hv h1 h2=>key v h1 h2 (R.closed i hi v hv h1 h2),fun v hv h1 h2=>key v h1 h2 (R.words v hv h1 h2),fun v hv=>R.ti v (List.mem_append_left _ hv)⟩
theorem RI.mark {h:List Cell} {W t:List Int} {w:Int} {m:Nat→Bool} (H:Hp h) (R:RI h W (t ++ [w]) m) (hl:0 < ct h (w - 1000).toNat) :
  RI h W (t ++ fl h (w - 1000).toNat) (fun k=>if k=(w - 1000).toNat then true else m k):=by
 have key :∀v,(m (v - 1000).toNat=true∨v∈t ++ [w])→(if (v - 1000).toNat=(w - 1000).toNat then true else m (v - 1000).toNat)=true∨v∈t ++ fl h (w - 1000).toNat:=fun v h3=>by
  rcases h3 with h3 | h3
  ·rw[h3];simp
  ·rcases List.mem_append.1 h3 with h3 | h3
   ·exact .inr (List.mem_append_left _ h3)
   ·rw[List.mem_singleton] at h3;subst h3;simp
 refine⟨fun i hi=>?_,fun i hi v hv h1 h2=>?_,fun v hv h1 h2=>key v (R.words v hv h1 h2),fun v hv=>?_⟩
 ·by_cases e:i=(w - 1000).toNat
  ·rw[e];exact hl
  ·simp only[e,if_false] at hi;exact R.live i hi
 ·by_cases e:i=(w - 1000).toNat
  ·subst e;exact .inr (List.mem_append_right _ hv)
  ·simp only[e,if_false] at hi
   exact key v (R.closed i hi v hv h1 h2)
 ·rcases List.mem_append.1 hv with hv | hv
  ·exact R.ti v (List.mem_append_left _ hv)
  ·exact H.Zm _ v hv
theorem QJ {h:List Cell} {w:Int} (hw:1000≤w):Eh h w=decide (0 < ct h (w - 1000).toNat):=by
 have:=Xp (h:=h) (j:=(w - 1000).toNat)
 rwa [← Zw hw] at this
theorem Xa {h:List Cell} {W:List Int} (H:Hp h) :∀(d N:Nat) (t:List Int) (m:Nat→Bool),RI h W t m→t.length+Nj h m h.length≤d→d≤3000000→d < N→
  ∃m',RI h W [] m'∧Cz h N (rowOf h.length m) t=some (rowOf h.length m')∧C0 h N (rowOf h.length m) t=some (rowOf h.length m'):=by
 have hlen:=H.len
 intro d
 induction d with
 | zero=>
  intro N t m R hd _ hN
  obtain⟨N',rfl⟩ :∃N',N=N' + 1:=⟨N - 1,by omega⟩
  have:t=[]:=List.eq_nil_of_length_eq_zero (by omega)
  subst this
  exact⟨m,R,by rw[Cz,if_neg (by simp[AK])],by rw[C0,if_neg (by simp[AK])]⟩
 | succ d ih=>
  intro N t m R hd hd2 hN
  obtain⟨N',rfl⟩ :∃N',N=N' + 1:=⟨N - 1,by omega⟩
  rcases List.eq_nil_or_concat t with rfl | ⟨t',w,rfl⟩
  ·exact⟨m,R,by rw[Cz,if_neg (by simp[AK])],by rw[C0,if_neg (by simp[AK])]⟩
  ·rw[List.concat_eq_append] at R hd ⊢
   have hl:t'.length≤4000000:=by rw[List.length_append] at hd;omega
   have hwi:=R.ti w (by simp)
   have hd':t'.length+1+Nj h m h.length≤d+1:=by rw[List.length_append] at hd;simpa using hd
   rw[Cz,C0,if_pos VD,if_pos VD,YB hl,Zf hl]
   simp only[Option.bind_some]
   rw[LL hlen hwi,Jv hlen hwi]
   simp only[Option.bind_some]
   cases hlv:Eh h w with
   | false=>
    simp only[Bool.false_eq_true,if_false,Option.bind_some]
    refine ih N' _ _ (R.pop fun h1 h2=>?_) (by omega) (by omega) (by omega)
    rw[QJ h1] at hlv
    simp at hlv;omega
   | true=>
    have hw:1000≤w:=by
     by_cases h1:1000≤w
     ·exact h1
     ·rw[LZ h1] at hlv;cases hlv
    have hct:0 < ct h (w - 1000).toNat:=by rw[QJ hw] at hlv;simpa using hlv
    have hj:(w - 1000).toNat < h.length:=bB (by omega)
    simp only[if_true]
    rw[XK hw hwi hj,YK hw hwi hj]
    simp only[Option.bind_some]
    cases hm:m (w - 1000).toNat with
    | true=>
     simp only[Bool.not_true,Bool.false_eq_true,if_false]
     exact ih N' _ _ (R.pop fun _ _=>hm) (by omega) (by omega) (by omega)
    | false=>
     have hfl:=H.NR (Ui hj)
     simp only[Bool.not_false,if_true]
     rw[Er _ _ 8 (by omega) (by omega)]
     simp only[Option.bind_some]
     rw[Xn hw hwi,← Tz]
     refine ih N' _ _ (R.mark H hct) ?_ (by omega) (by omega)
     have:=ZF hj hm (h:=h)
     rw[List.length_append];omega
def mk (m:Nat→Bool) (n i:Nat):List Nat:=(List.range' i (n - i)).filter m
theorem W2 (m:Nat→Bool) (n:Nat):mk m n n=[]:=by simp[mk]
theorem LD {m:Nat→Bool} {n i:Nat} (hi:i < n):mk m n i=(if m i then [i] else []) ++ mk m n (i+1):=by
 unfold mk
 obtain⟨k,hk⟩ :∃k,n - i=k+1:=⟨n - i - 1,by omega⟩
 rw[hk,List.range'_succ,List.filter_cons,show n - (i+1)=k by omega]
 cases m i <;> simp
theorem Th {m:Nat→Bool} {n j:Nat}:j∈mk m n 0↔j < n∧m j=true:=by simp[mk]
theorem Tk (m:Nat→Bool) (n i:Nat):(mk m n i).length≤n - i:=by
 have:=List.length_filter_le m (List.range' i (n - i))
 simpa [mk] using this
theorem Ov (a b:List Nat):BO (a ++ b)=BO a ++ BO b:=by simp[BO]
theorem Iy (a:List Nat):(BO a).length=a.length:=by simp[BO]
theorem R9 {h:List Cell} {m:Nat→Bool} (hl:h.length≤1048576) {N i:Nat} (hi:i≤h.length) (hN:h.length - i < N) :∀acc:List Nat,acc.length≤i→DW (rowOf h.length m) h N i (BO acc)=some (BO (acc ++ mk m h.length i)):=by
 refine BN h.length (fun N i=>∀acc:List Nat,acc.length≤i→DW (rowOf h.length m) h N i (BO acc)=some (BO (acc ++ mk m h.length i))) ?_ ?_ hi hN
 ·intro n acc _
  rw[DW,if_neg (by simp[AK]),W2,List.append_nil]
 ·intro n i hi ih acc ha
  rw[DW,if_pos (by simp[AK];omega),Ai (Bc hi)]
  simp only[Option.bind_some]
  rw[Au (by omega) (by omega),show ((i:Int) + 1)=((i+1:Nat):Int) by omega,LD hi]
  cases m i with
  | false=>simp only[Bool.false_eq_true,if_false,Option.bind_some,List.nil_append];exact ih acc (by omega)
  | true=>
   simp only[if_true]
   rw[Er _ _ 8 (by rw[Iy];simp;omega) (by rw[Iy];simp;omega)]
   simp only[Option.bind_some]
   have:=ih (acc ++ [i]) (by simp;omega)
   rw[Ov,List.append_assoc] at this
   exact this
theorem Kt {m:Nat→Bool} {n0:Nat} (hl:n0≤1048576) {N i:Nat} (hi:i≤n0) (hN:n0 - i < N) :∀acc:List Nat,acc.length≤i→Cm (rowOf n0 m) N i (BO acc)=some (BO (acc ++ mk m n0 i)):=by
 refine BN n0 (fun N i=>∀acc:List Nat,acc.length≤i→Cm (rowOf n0 m) N i (BO acc)=some (BO (acc ++ mk m n0 i))) ?_ ?_ hi hN
 ·intro n acc _
  rw[Cm,if_neg (by simp[AK,E5]),W2,List.append_nil]
 ·intro n i hi ih acc ha
  rw[Cm,if_pos (by simp[AK,E5];omega),Ai (Bc hi)]
  simp only[Option.bind_some]
  rw[Au (by omega) (by omega),show ((i:Int) + 1)=((i+1:Nat):Int) by omega,LD hi]
  cases m i with
  | false=>simp only[Bool.false_eq_true,if_false,Option.bind_some,List.nil_append];exact ih acc (by omega)
  | true=>
   simp only[if_true]
   rw[Er _ _ 8 (by rw[Iy];simp;omega) (by rw[Iy];simp;omega)]
   simp only[Option.bind_some]
   have:=ih (acc ++ [i]) (by simp;omega)
   rw[Ov,List.append_assoc] at this
   exact this
theorem Ry {h:List Cell} {W:List Int} (H:Hp h) (hW :∀w∈W,Ez w) (hWl2:W.length≤1048576) {N:Nat} (hN:2000000≤N) (hd:W.length+Fy h≤3000000) (hdN:W.length+Fy h < N) :
  ∃out,KX N h W=some out∧Gm N h W=some out∧(¬ VH h→out=[])∧(VH h→∃m,RI h W [] m∧out=BO (mk m h.length 0)):=by
 have hl:=H.len
 obtain⟨b,r,h1,_,_,h2,h3,_⟩:=J7 H hN
 unfold KX Gm
 rw[h1,h2]
 simp only[Option.bind_some]
 cases b with
 | false=>exact⟨[],by simp,by simp,fun _=>rfl,fun hv=>absurd (h3.2 hv) (by simp)⟩
 | true=>
  have V:=h3.1 rfl
  simp only[Bool.not_true,Bool.false_eq_true,if_false]
  have R:RI h W W (fun _=>false):=⟨fun _ h=>absurd h (by simp),fun _ h=>absurd h (by simp),fun w hw _ _=>.inr hw,hW⟩
  have hf:=Z0 h (fun _=>false)
  have hs:=H.size
  unfold CM at hs
  obtain⟨m,R',e1,e2⟩:=Xa H (W.length+Nj h (fun _=>false) h.length) N W _ R (Nat.le_refl _) (by omega) (by omega)
  have k1:=R9 (m:=m) hl (Nat.zero_le _) (by omega:h.length - 0 < N) [] (by simp)
  have k2:=Kt (m:=m) hl (Nat.zero_le _) (by omega:h.length - 0 < N) [] (by simp)
  rw[show ((0:Nat):Int)=0 from rfl,show BO []=[] from rfl,List.nil_append] at k1 k2
  refine⟨BO (mk m h.length 0),?_,?_,fun hn=>absurd V hn,fun _=>⟨m,R',rfl⟩⟩
  ·unfold FG
   rw[AK,Gu _ _ _ (by omega) (by omega),Od hWl2,Ea]
   simp only[Option.bind_some]
   rw[e1]
   simp only[Option.bind_some]
   rw[k1];rfl
  ·rw[AK,Gu _ _ _ (by omega) (by omega),TQ _ hWl2,Ea]
   simp only[Option.bind_some]
   rw[e2]
   simp only[Option.bind_some]
   unfold E7
   rw[k2];rfl
end RC



namespace RC
open Go
def J9:Nat→Nat→List Int
 | _,0=>[]
 | k,n+1=>(k:Int) :: J9 (k+1) n
theorem TH :∀(n k:Nat),(J9 k n).length=n
 | 0,_=>rfl
 | n+1,k=>by simp[J9,TH n]
theorem Fc {α:Type} (A B:List α) (x:α):Sh.get (A ++ x :: B) (A.length:Int)=some x:=Ai (by simp)
theorem FO {α:Type} (A B:List α) (x y:α):Sh.put (A ++ x :: B) (A.length:Int) y=A ++ y :: B:=by rw[ET];simp
theorem Lc :∀(B A:List Int) (k n:Nat),B.length < n→A.length+B.length≤2000000→k+B.length≤100000000→
  Dn n (k:Int) (A.length:Int) (A ++ B)=some (((k+B.length:Nat):Int),A ++ J9 k B.length)
 | [],A,k,n,hn,_,_=>by
  obtain⟨n,rfl⟩ :∃m,n=m+1:=⟨n - 1,by simp at hn;omega⟩
  rw[Dn,if_neg (by simp[AK])];simp[J9]
 | b :: B,A,k,n,hn,h1,h2=>by
  simp only[List.length_cons] at hn h1 h2 ⊢
  obtain⟨n,rfl⟩ :∃m,n=m+1:=⟨n - 1,by omega⟩
  have ih:=Lc B (A ++ [(k:Int)]) (k+1) n (by omega) (by simp;omega) (by omega)
  rw[Dn,if_pos (by simp[AK];omega),Fc,FO,Au (by omega) (by omega),Au (by omega) (by omega)]
  simp only[Option.bind_some]
  rw[List.length_append,List.append_assoc,List.append_assoc] at ih
  simp only[List.length_cons,List.length_nil,List.cons_append,List.nil_append] at ih
  have e1:((A.length:Int) + 1)=((A.length+(0+1):Nat):Int):=by omega
  have e2:((k:Int) + 1)=((k+1:Nat):Int):=by omega
  rw[e1,e2,ih]
  simp only[J9,show k+1+B.length=k+(B.length+1) by omega]
theorem EW {l:List Int} (hl:l.length≤1048576) {k:Nat} (hk:k≤50000000) {N:Nat} (hN:2000000≤N):Bx N l (k:Int)=some (((k+l.length:Nat):Int),J9 k l.length):=by
 unfold Bx
 have:=Lc l [] k N (by omega) (by simp;omega) (by omega)
 rw[List.length_nil,List.nil_append,List.nil_append] at this
 rw[show (0:Int)=((0:Nat):Int) from rfl,this];rfl
theorem Lh :∀(m:Nat) (A:List Int) (k n:Nat),m < n→A.length+m≤2000000→k+m≤100000000→
  Dk (A ++ J9 k m) n (k:Int) (A.length:Int)=some (Sum.inr (((k+m:Nat):Int)))
 | 0,A,k,n,hn,_,_=>by
  obtain⟨n,rfl⟩ :∃m,n=m+1:=⟨n - 1,by omega⟩
  rw[Dk,if_neg (by simp[AK,J9])];simp
 | m+1,A,k,n,hn,h1,h2=>by
  obtain⟨n,rfl⟩ :∃m,n=m+1:=⟨n - 1,by omega⟩
  have ih:=Lh m (A ++ [(k:Int)]) (k+1) n (by omega) (by simp;omega) (by omega)
  rw[Dk,if_pos (by simp[AK,TH];omega)]
  simp only[J9]
  rw[Fc,Au (by omega) (by omega),Au (by omega) (by omega)]
  simp only[Option.bind_some,decide_true,Bool.not_true,Bool.false_eq_true,if_false]
  rw[List.length_append,List.append_assoc] at ih
  simp only[List.length_cons,List.length_nil,List.cons_append,List.nil_append] at ih
  have e1:((A.length:Int) + 1)=((A.length+(0+1):Nat):Int):=by omega
  have e2:((k:Int) + 1)=((k+1:Nat):Int):=by omega
  rw[e1,e2,ih]
  simp only[show k+1+m=k+(m+1) by omega]
theorem US {m:Nat} (hl:m≤1048576) {k:Nat} (hk:k≤50000000) {N:Nat} (hN:2000000≤N):F5 N (J9 k m) (k:Int)=some (((k+m:Nat):Int)):=by
 unfold F5
 have:=Lh m [] k N (by omega) (by simp;omega) (by omega)
 rw[List.length_nil,List.nil_append] at this
 rw[show (0:Int)=((0:Nat):Int) from rfl,this];rfl
def Qb (h:List Cell):Nat:=2 * h.length+Fy h
def P2:Nat→List Cell→List Cell
 | _,[]=>[]
 | k,c :: r=>⟨(k:Int),((k+1:Nat):Int),J9 (k+2) c.fields.length⟩ :: P2 (k+2+c.fields.length) r
theorem Xs (c:Cell) (r:List Cell):Qb (c :: r)=2+c.fields.length+Qb r:=by simp[Qb,Fy];omega
theorem Kj {N:Nat} (hN:2000000≤N) :∀(B A:List Cell) (k n:Nat),B.length < n→A.length+B.length≤2000000→(∀c∈B,c.fields.length≤1048576)→k+Qb B≤40000000→
  DK N n (k:Int) (A.length:Int) (A ++ B)=some (((k+Qb B:Nat):Int),A ++ P2 k B)
 | [],A,k,n,hn,_,_,_=>by
  obtain⟨n,rfl⟩ :∃m,n=m+1:=⟨n - 1,by simp at hn;omega⟩
  rw[DK,if_neg (by simp[AK])];simp[P2,Qb,Fy]
 | c :: B,A,k,n,hn,h1,hf,h2=>by
  have hfc:=hf c (by simp)
  rw[Xs] at h2 ⊢
  simp only[List.length_cons] at hn h1
  obtain⟨n,rfl⟩ :∃m,n=m+1:=⟨n - 1,by omega⟩
  have ih:=Kj hN B (A ++ [⟨(k:Int),((k+1:Nat):Int),J9 (k+2) c.fields.length⟩]) (k+2+c.fields.length) n (by omega) (by simp;omega) (fun c hc=>hf c (by simp[hc])) (by omega)
  have e2:((k:Int) + 1)=((k+1:Nat):Int):=by omega
  have e3:(((k+1:Nat):Int) + 1)=((k+2:Nat):Int):=by omega
  rw[DK,if_pos (by simp[AK];omega),Fc]
  simp only[Option.bind_some,FO,Fc]
  rw[Au (n:=(k:Int) + 1) (by omega) (by omega),e2,Au (n:=((k+1:Nat):Int) + 1) (by omega) (by omega),e3,EW hfc (by omega) hN]
  simp only[Option.bind_some]
  rw[Au (by omega) (by omega)]
  rw[List.length_append,List.append_assoc,List.append_assoc] at ih
  simp only[List.length_cons,List.length_nil,List.cons_append,List.nil_append] at ih
  have e1:((A.length:Int) + 1)=((A.length+(0+1):Nat):Int):=by omega
  rw[e1,ih]
  simp only[P2,show k+2+c.fields.length+Qb B=k+(2+c.fields.length+Qb B) by omega]
theorem Wy {h:List Cell} (H:Hp h):Qb h≤2097152:=by have:=H.size;unfold CM at this;unfold Qb;omega
theorem Sg {h:List Cell} (H:Hp h) {k:Nat} (hk:k≤30000000) {N:Nat} (hN:2000000≤N):Gd N h (k:Int)=some (((k+Qb h:Nat):Int),P2 k h):=by
 unfold Gd
 have hl:=H.len
 have:=Kj hN h [] k N (by omega) (by simp;omega) (fun c hc=>H.NR hc) (by have:=Wy H;omega)
 rw[List.length_nil,List.nil_append,List.nil_append] at this
 rw[show (0:Int)=((0:Nat):Int) from rfl,this];rfl
end RC



namespace RC
open Go
def Bk {α:Type} (f:Nat→α→Bool):Nat→List α→Bool
 | _,[]=>true
 | k,x :: r=>f k x && Bk f (k+1) r
theorem OO {α:Type} {f g:Nat→α→Bool} :∀(l:List α) (k:Nat),(∀(i:Nat) x,l[i]?=some x→f (k+i) x=g (k+i) x)→Bk f k l=Bk g k l
 | [],_,_=>rfl
 | x :: r,k,h=>by
  have h0:=h 0 x rfl
  rw[Nat.add_zero] at h0
  have h1:=OO r (k+1) fun i y hy=>(show k+(i+1)=k+1+i by omega) ▸ h (i+1) y hy
  rw[Bk,Bk,h0,h1]
theorem CW {α:Type} {p:α→Bool} :∀(l:List α) (k:Nat),Bk (fun _ x=>p x) k l=l.all p
 | [],_=>rfl
 | x :: r,k=>by rw[Bk,CW r (k+1),List.all_cons]
theorem Bn {α:Type} {l:List α} (L:Nat→Int→Option (Bool ⊕ Unit)) (f:Nat→α→Bool) (h0 :∀n,L (n+1) (l.length:Int)=some (.inr ()))
  (hs :∀n (i:Nat) x,l[i]?=some x→L (n+1) (i:Int)=if f i x=true then L n ((i+1:Nat):Int) else some (.inl false)) {N:Nat} (hN:l.length < N) :
  L N 0=some (if Bk f 0 l=true then .inr () else .inl false):=by
 have key :∀{N i:Nat},i≤l.length→l.length - i < N→L N (i:Int)=some (if Bk f i (l.drop i)=true then .inr () else .inl false):=by
  intro N i hi hN
  refine BN l.length (fun N i=>L N (i:Int)=some (if Bk f i (l.drop i)=true then .inr () else .inl false)) ?_ ?_ hi hN
  ·intro n;rw[h0 n];simp[Bk]
  ·intro n i hi ih
   obtain⟨x,hx,_⟩:=BS hi
   rw[hs n i x hx,ih,drop_cons hx,Bk]
   cases h:f i x <;> simp
 have:=key (Nat.zero_le _) (by omega:l.length - 0 < N)
 simpa using this
theorem Bz {β:Type} {b:Bool} {g:Bool→β} {K:Unit→Option β}:Sh.cont (some (if b=true then Sum.inr () else Sum.inl false)) g K=if b=true then K () else some (g false):=by
 cases b <;> rfl
theorem VE {α:Type} {l:List α} {j:Nat} (h:j≤l.length) (h2:l.length≤9223372036854775807):Sh.sl l 0 (j:Int)=some (l.take j):=by
 unfold Sh.sl
 rw[if_pos ⟨by omega,by omega,by omega⟩];simp
end RC



namespace RC
open Go
def HK (D:List Am) (t:Int):Bool:=decide (0≤t) && decide (t≤(D.length:Int))
theorem KG {D:List Am} {x:Int}:As x 0 (Sh.len D)=some (HK D x):=by rw[A6];rfl
theorem KH {D:List Am} {l:List Int} (hl:l.length≤1048576) {N:Nat} (hN:l.length < N):Ft N D l=some (l.all (HK D)):=by
 unfold Ft
 rw[Bn (l:=l) (Dw D l) (fun _ x=>HK D x) (fun n=>by rw[Dw,if_neg (by simp[AK])]) (fun n i x hx=>?_) hN,Bz,CW]
 ·cases l.all (HK D) <;> rfl
 ·have hi:=(List.getElem?_eq_some_iff.1 hx).1
  rw[Dw,if_pos (by simp[AK];omega),Ai hx]
  simp only[Option.bind_some]
  rw[KG,Au (by omega) (by omega),show ((i:Int) + 1)=((i+1:Nat):Int) by omega]
  simp only[Option.bind_some]
  cases HK D x <;> rfl
theorem Hv {D:List Am} {t:Int}:Fi D t=some (HK D t):=by
 unfold Fi HK
 by_cases h:0≤t <;> by_cases h2:t≤(D.length:Int) <;> simp[h,h2,AK]
theorem J5 {D:List Am} {l:List Int} (hl:l.length≤1048576) {N:Nat} (hN:l.length < N):F8 N D l=some (l.all (HK D)):=by
 unfold F8
 rw[Bn (l:=l) (Dq D l) (fun _ x=>HK D x) (fun n=>by rw[Dq,if_neg (by simp[AK])]) (fun n i x hx=>?_) hN,Bz,CW]
 ·cases l.all (HK D) <;> rfl
 ·have hi:=(List.getElem?_eq_some_iff.1 hx).1
  rw[Dq,if_pos (by simp[AK];omega),Ai hx]
  simp only[Option.bind_some]
  rw[Hv,Au (by omega) (by omega),show ((i:Int) + 1)=((i+1:Nat):Int) by omega]
  simp only[Option.bind_some]
  cases HK D x <;> rfl
def OM (D:List Am) (c:Bw):Bool:=decide (c.fields.length≤3) && c.fields.all (HK D)
def Fm (a b:Am):Bool:=decide (a.cons.length=0) && (decide (a.from_=b.from_) && decide (a.to=b.to))
def Mb (D:List Am) (i:Nat) (d:Am):Bool:=
 if 0 < d.cons.length then (decide (d.cons.length≤3) && (decide (d.from_=0) && decide (d.to=0))) && d.cons.all (OM D)
 else (D.take i).all (fun e=>!Fm e d) && (HK D d.from_ && HK D d.to)
def Pt (D:List Am) (i:Nat) (d:Am):Bool:=
 ((HK D d.from_ && (HK D d.to && (decide (d.cons.length≤3) && (!(decide (0 < d.cons.length) && (!decide (d.from_=0) || !decide (d.to=0))))))) && d.cons.all (OM D)) && (D.take i).all (fun e=>!(decide (d.cons.length=0) && Fm e d))
theorem WO (D:List Am) (i:Nat) (d:Am):Pt D i d=Mb D i d:=by
 unfold Pt Mb
 by_cases h:0 < d.cons.length
 ·have h0:¬ d.cons.length=0:=by omega
  have ha:(D.take i).all (fun e=>!(decide (d.cons.length=0) && Fm e d))=true:=by simp[h0]
  rw[if_pos h,ha]
  by_cases h1:d.from_=0 <;> by_cases h2:d.to=0 <;> simp[h,h1,h2,HK]
 ·have h0:d.cons.length=0:=by omega
  have hc:d.cons=[]:=List.eq_nil_of_length_eq_zero h0
  rw[if_neg h]
  simp only[hc,h0,List.length_nil,List.all_nil,decide_true,Bool.true_and,Bool.and_true]
  cases HK D d.from_ <;> cases HK D d.to <;> simp
structure Mn (D:List Am):Prop where
 len:D.length≤1048576
 cons :∀d∈D,d.cons.length≤1048576
 Og :∀d∈D,∀c∈d.cons,c.fields.length≤1048576
theorem Nu {D:List Am} (hD:Mn D) {i:Nat} {d:Am} (hd:D[i]?=some d) {N:Nat} (hN:2000000≤N):Gc N D i=some (Mb D i d):=by
 have hm:=List.mem_of_getElem? hd
 have hi:=(List.getElem?_eq_some_iff.1 hd).1
 have hlen:=hD.len
 have hc:=hD.cons d hm
 unfold Gc Mb
 rw[Ai hd]
 simp only[Option.bind_some]
 by_cases h:0 < d.cons.length
 ·rw[if_pos (by simp[AK];omega),if_pos h]
  rw[Bn (l:=d.cons) (DN N d D) (fun _ c=>OM D c) (fun n=>by rw[DN,if_neg (by simp[AK])]) (fun n j c hj=>?_) (by omega),Bz,CW]
  ·simp only[AK]
   by_cases h3:d.cons.length≤3
   ·have e3:¬ (3:Int) < (d.cons.length:Int):=by omega
    generalize d.cons.all (OM D)=z
    cases z <;> by_cases h1:d.from_=0 <;> by_cases h2:d.to=0 <;> simp[h1,h2,h3,e3]
   ·have e3:(3:Int) < (d.cons.length:Int):=by omega
    simp[h3,e3]
  ·have hj':=(List.getElem?_eq_some_iff.1 hj).1
   have hf:=hD.Og d hm c (List.mem_of_getElem? hj)
   rw[DN,if_pos (by simp[AK];omega),Ai hj]
   simp only[Option.bind_some]
   rw[KH hf (by omega),Au (by omega) (by omega),show ((j:Int) + 1)=((j+1:Nat):Int) by omega]
   unfold OM
   by_cases h3:c.fields.length≤3
   ·have e3:¬ (3:Int) < (c.fields.length:Int):=by omega
    simp only[AK]
    cases c.fields.all (HK D) <;> simp[h3,e3]
   ·have e3:(3:Int) < (c.fields.length:Int):=by omega
    simp[h3,e3,AK]
 ·have h0:d.cons.length=0:=by omega
  have e0:¬ decide ((0:Int) < Sh.len d.cons)=true:=by rw[AK,h0];simp
  rw[if_neg e0,if_neg h]
  have hlt:(D.take i).length=i:=by simp;omega
  rw[Bn (l:=D.take i) (DO d D i) (fun _ e=>!Fm e d) (fun n=>by rw[DO,if_neg (by simp;omega)]) (fun n j e hj=>?_) (by omega),Bz,CW]
  ·rw[KG,KG]
   simp only[Option.bind_some]
   cases (D.take i).all (fun e=>!Fm e d) <;> cases HK D d.from_ <;> simp
  ·have hj':=(List.getElem?_eq_some_iff.1 hj).1
   have hje:D[j]?=some e:=by rw[List.getElem?_take] at hj;split at hj <;> first | exact hj | cases hj
   rw[DO,if_pos (by simp;omega),Ai hje]
   simp only[Option.bind_some]
   rw[Au (by omega) (by omega),show ((j:Int) + 1)=((j+1:Nat):Int) by omega]
   unfold Fm
   simp only[AK]
   by_cases a0:e.cons.length=0 <;> by_cases a1:e.from_=d.from_ <;> by_cases a2:e.to=d.to <;> simp[a0,a1,a2]
def LY (D:List Am):Bool:=decide (D.length≤4) && Bk (Mb D) 0 D
theorem NF {D:List Am} (hD:Mn D) {N:Nat} (hN:2000000≤N):Fz N D=some (LY D):=by
 have hlen:=hD.len
 unfold Fz LY
 rw[Bn (l:=D) (C1 N D) (Mb D) (fun n=>by rw[C1,if_neg (by simp[AK])]) (fun n i d hd=>?_) (by omega),Bz]
 ·simp only[AK]
  by_cases h:D.length≤4
  ·have e4:¬ (4:Int) < (D.length:Int):=by omega
   cases Bk (Mb D) 0 D <;> simp[h,e4]
  ·have e4:(4:Int) < (D.length:Int):=by omega
   simp[h,e4]
 ·have hi:=(List.getElem?_eq_some_iff.1 hd).1
  rw[C1,if_pos (by simp[AK];omega),Nu hD hd hN]
  simp only[Option.bind_some]
  rw[Au (by omega) (by omega),show ((i:Int) + 1)=((i+1:Nat):Int) by omega]
  cases Mb D i d <;> rfl
theorem NC {D:List Am} (hD:Mn D) {N:Nat} (hN:2000000≤N):F6 N D=some (LY D):=by
 have hlen:=hD.len
 unfold F6 LY
 rw[← OO (f:=Pt D) D 0 (fun i d _=>WO D _ d)]
 rw[Bn (l:=D) (C6 N D) (Pt D) (fun n=>by rw[C6,if_neg (by simp[AK])]) (fun n i d hd=>?_) (by omega),Bz]
 ·simp only[AK]
  by_cases h:D.length≤4
  ·have e4:¬ (4:Int) < (D.length:Int):=by omega
   cases Bk (Pt D) 0 D <;> simp[h,e4]
  ·have e4:(4:Int) < (D.length:Int):=by omega
   simp[h,e4]
 ·have hi:=(List.getElem?_eq_some_iff.1 hd).1
  have hm:=List.mem_of_getElem? hd
  have hc:=hD.cons d hm
  have l2:CR N d D N 0=some (if d.cons.all (OM D)=true then .inr () else .inl false):=by
   rw[Bn (l:=d.cons) (CR N d D) (fun _ c=>OM D c) (fun n=>by rw[CR,if_neg (by simp[AK])]) (fun n j c hj=>?_) (by omega),CW]
   have hj':=(List.getElem?_eq_some_iff.1 hj).1
   have hf:=hD.Og d hm c (List.mem_of_getElem? hj)
   rw[CR,if_pos (by simp[AK];omega),Ai hj]
   simp only[Option.bind_some]
   rw[J5 hf (by omega),Au (by omega) (by omega),show ((j:Int) + 1)=((j+1:Nat):Int) by omega]
   unfold OM
   by_cases h3:c.fields.length≤3
   ·have e3:¬ (3:Int) < (c.fields.length:Int):=by omega
    simp only[AK]
    cases c.fields.all (HK D) <;> simp[h3,e3]
   ·have e3:(3:Int) < (c.fields.length:Int):=by omega
    simp[h3,e3,AK]
  have hlt:(D.take i).length=i:=by simp;omega
  have l3:CO d (D.take i) N 0=some (if (D.take i).all (fun e=>!(decide (d.cons.length=0) && Fm e d))=true then .inr () else .inl false):=by
   rw[Bn (l:=D.take i) (CO d (D.take i)) (fun _ e=>!(decide (d.cons.length=0) && Fm e d)) (fun n=>by rw[CO,if_neg (by simp[AK])]) (fun n j e hj=>?_) (by omega),CW]
   have hj':=(List.getElem?_eq_some_iff.1 hj).1
   rw[CO,if_pos (by simp only[AK];simp;omega),Ai hj]
   simp only[Option.bind_some]
   rw[Au (by omega) (by omega),show ((j:Int) + 1)=((j+1:Nat):Int) by omega]
   unfold Fm
   simp only[AK]
   by_cases b0:d.cons.length=0 <;> by_cases a0:e.cons.length=0 <;> by_cases a1:e.from_=d.from_ <;> by_cases a2:e.to=d.to <;> simp[a0,a1,a2,b0]
  rw[C6,if_pos (by simp[AK];omega),Ai hd]
  simp only[Option.bind_some]
  rw[Hv,Hv,l2,VE (by omega) (by omega),Au (by omega) (by omega),show ((i:Int) + 1)=((i+1:Nat):Int) by omega]
  simp only[Option.bind_some]
  rw[l3,Bz,Bz]
  unfold Pt
  simp only[AK]
  generalize d.cons.all (OM D)=z1
  generalize (D.take i).all (fun e=>!(decide (d.cons.length=0) && Fm e d))=z2
  by_cases h3:d.cons.length≤3
  ·have e3:¬ (3:Int) < (d.cons.length:Int):=by omega
   by_cases h0:0 < d.cons.length
   ·have e0:(0:Int) < (d.cons.length:Int):=by omega
    cases HK D d.from_ <;> cases HK D d.to <;> cases z1 <;> cases z2 <;> by_cases h1:d.from_=0 <;> by_cases h2:d.to=0 <;> simp[h1,h2,h3,e3,h0]
   ·have e0:¬ (0:Int) < (d.cons.length:Int):=by omega
    cases HK D d.from_ <;> cases HK D d.to <;> cases z1 <;> cases z2 <;> simp[h3,e3,h0]
  ·have e3:(3:Int) < (d.cons.length:Int):=by omega
   cases HK D d.from_ <;> cases HK D d.to <;> simp[h3,e3]
end RC



namespace RC
open Go
def Gt (ps ls:List Int) (i:Nat) (v:Int):Bool:=
 (decide (0≤v) && decide (v < (ps.length:Int))) && (!decide (ps[v.toNat]?=some 0) && !(decide (0 < i) && decide (v≤(ls[i - 1]?).getD 0)))
theorem TS {ls:List Int} {i:Nat} (h0:0 < i) (hi:i < ls.length) :∃x,ls[i - 1]?=some x∧Sh.get ls (((i:Nat):Int) - 1)=some x:=by
 obtain⟨x,hx,_⟩:=BS (l:=ls) (i:=i - 1) (by omega)
 exact⟨x,hx,by rw[show ((i:Int) - 1)=((i - 1:Nat):Int) by omega,Ai hx]⟩
theorem Nk {ps ls:List Int} (hp:ps.length≤1048576) (hl:ls.length≤1048576) {N:Nat} (hN:2000000≤N):Gl N ps ls=some (Bk (Gt ps ls) 0 ls):=by
 unfold Gl
 rw[Bn (l:=ls) (DQ ps ls) (Gt ps ls) (fun n=>by rw[DQ,if_neg (by simp[AK])]) (fun n i v hv=>?_) (by omega),Bz]
 ·cases Bk (Gt ps ls) 0 ls <;> rfl
 ·have hi:=(List.getElem?_eq_some_iff.1 hv).1
  rw[DQ,if_pos (by simp[AK];omega),Ai hv]
  simp only[Option.bind_some]
  rw[A6,AK,Au (n:=(ps.length:Int) - 1) (by omega) (by omega),Au (n:=(i:Int) + 1) (by omega) (by omega),Au (n:=(i:Int) - 1) (by omega) (by omega),show ((i:Int) + 1)=((i+1:Nat):Int) by omega]
  simp only[Option.bind_some]
  unfold Gt
  by_cases h0:0≤v
  ·by_cases h1:v < (ps.length:Int)
   ·have h1':v≤(ps.length:Int) - 1:=by omega
    obtain⟨c,e1,e2⟩:=L5 h0 h1
    rw[e1,e2]
    by_cases hi0:0 < i
    ·obtain⟨x,g1,g2⟩:=TS hi0 hi
     rw[g1,g2]
     by_cases hc:c=0 <;> by_cases hx:v≤x <;> simp[h0,h1,h1',hc,hi0,hx]
    ·by_cases hc:c=0 <;> simp[h0,h1,h1',hc,hi0]
   ·have h1':¬ v≤(ps.length:Int) - 1:=by omega
    simp[h0,h1,h1']
  ·simp[h0]
theorem Sm {c:Bt} (hp:c.params.length≤1048576) (hl:c.BH.length≤1048576) {N:Nat} (hN:2000000≤N):Cq c N 0=some (if Bk (Gt c.params c.BH) 0 c.BH=true then .inr () else .inl false):=by
 refine Bn (l:=c.BH) (Cq c) (Gt c.params c.BH) (fun n=>by rw[Cq,if_neg (by simp[AK])]) (fun n i v hv=>?_) (by omega)
 have hi:=(List.getElem?_eq_some_iff.1 hv).1
 rw[Cq,if_pos (by simp[AK];omega),Ai hv]
 simp only[Option.bind_some]
 rw[AK,Au (n:=(i:Int) + 1) (by omega) (by omega),Au (n:=(i:Int) - 1) (by omega) (by omega),show ((i:Int) + 1)=((i+1:Nat):Int) by omega]
 unfold Gt
 by_cases h0:0≤v
 ·have h0':¬ v < 0:=by omega
  by_cases h1:v < (c.params.length:Int)
  ·have h1':¬ (c.params.length:Int)≤v:=by omega
   obtain⟨d,e1,e2⟩:=L5 h0 h1
   rw[e1,e2]
   by_cases hi0:0 < i
   ·obtain⟨x,g1,g2⟩:=TS hi0 hi
    rw[g1,g2]
    by_cases hc:d=0 <;> by_cases hx:v≤x <;> simp[h0,h0',h1,h1',hc,hi0,hx]
   ·by_cases hc:d=0 <;> simp[h0,h0',h1,h1',hc,hi0]
  ·have h1':(c.params.length:Int)≤v:=by omega
   simp[h0,h0',h1,h1']
 ·have h0':v < 0:=by omega
  simp[h0,h0']
def Lg (D:List Am) (ps:List Int) (r:Int):Bool:=decide (ps.length≤3) && (ps.all (HK D) && HK D r)
theorem Pp {p:H4} (hf:p.funcs.length≤1048576) (hp :∀f∈p.funcs,f.params.length≤1048576) {N:Nat} (hN:2000000≤N):Cj N p N 0=some (if (p.funcs.all fun f=>Lg p.decls f.params f.result)=true then .inr () else .inl false):=by
 rw[← CW _ 0]
 refine Bn (l:=p.funcs) (Cj N p) (fun _ f=>Lg p.decls f.params f.result) (fun n=>by rw[Cj,if_neg (by simp[AK])]) (fun n i f hi=>?_) (by omega)
 have hi':=(List.getElem?_eq_some_iff.1 hi).1
 have hpf:=hp f (List.mem_of_getElem? hi)
 rw[Cj,if_pos (by simp[AK];omega),Ai hi]
 simp only[Option.bind_some]
 rw[KH hpf (by omega),KG,Au (by omega) (by omega),show ((i:Int) + 1)=((i+1:Nat):Int) by omega]
 unfold Lg
 simp only[AK]
 by_cases h3:f.params.length≤3
 ·have e3:¬ (3:Int) < (f.params.length:Int):=by omega
  generalize f.params.all (HK p.decls)=z
  cases z <;> cases HK p.decls f.result <;> simp[h3,e3]
 ·have e3:(3:Int) < (f.params.length:Int):=by omega
  simp[h3,e3]
theorem Pk {D:List Am} {l:List Bt} (hf:l.length≤1048576) (hp :∀f∈l,f.params.length≤1048576∧f.BH.length≤1048576) {N:Nat} (hN:2000000≤N):Ci N D l N 0=some (if (l.all fun f=>Lg D f.params f.result && Bk (Gt f.params f.BH) 0 f.BH)=true then .inr () else .inl false):=by
 rw[← CW _ 0]
 refine Bn (l:=l) (Ci N D l) (fun _ f=>Lg D f.params f.result && Bk (Gt f.params f.BH) 0 f.BH) (fun n=>by rw[Ci,if_neg (by simp[AK])]) (fun n i f hi=>?_) (by omega)
 have hi':=(List.getElem?_eq_some_iff.1 hi).1
 have hpf:=hp f (List.mem_of_getElem? hi)
 rw[Ci,if_pos (by simp[AK];omega),Ai hi]
 simp only[Option.bind_some]
 rw[J5 hpf.1 (by omega),Hv,Sm hpf.1 hpf.2 hN,Bz,Au (by omega) (by omega),show ((i:Int) + 1)=((i+1:Nat):Int) by omega]
 unfold Lg
 simp only[AK]
 generalize Bk (Gt f.params f.BH) 0 f.BH=y
 by_cases h3:f.params.length≤3
 ·have e3:¬ (3:Int) < (f.params.length:Int):=by omega
  generalize f.params.all (HK D)=z
  cases z <;> cases HK D f.result <;> cases y <;> simp[h3,e3]
 ·have e3:(3:Int) < (f.params.length:Int):=by omega
  simp[h3,e3]
end RC
namespace RC
open Go
def UF (D:List (List Int×Int)):Bool:=match D with | []=>false | (ps,r) :: _=>decide (ps.length=0) && decide (r=0)
def LP (D:List Am) (l:List (List Int×Int)):Bool:=LY D && ((decide (1≤l.length) && decide (l.length≤4)) && (l.all (fun s=>Lg D s.1 s.2) && UF l))
def Ty (p:A0):Ig:=⟨p.params,p.result,.mk 0 0 []⟩
def KT (p:A0):Bt:=⟨p.params,p.BH,p.result⟩
theorem Jy {p:H4} (hD:Mn p.decls) (hf:p.funcs.length≤1048576) (hp :∀f∈p.funcs,f.params.length≤1048576) {N:Nat} (hN:2000000≤N):Gb N p=some (LP p.decls (p.funcs.map fun f=>(f.params,f.result))):=by
 unfold Gb LP
 rw[NF hD hN,Pp hf hp hN,Bz,A6]
 simp only[Option.bind_some,List.length_map,List.all_map,Function.comp_def]
 cases LY p.decls with
 | false=>simp
 | true=>
  cases hl:p.funcs with
  | nil=>simp[AK]
  | cons f r=>
   have e0:Sh.get (f :: r) 0=some f:=rfl
   rw[e0]
   generalize (f :: r).all (fun f=>Lg p.decls f.params f.result)=z
   simp only[List.map_cons,UF]
   have q1:decide ((1:Int)≤Sh.len (f :: r))=true:=decide_eq_true (by rw[AK,List.length_cons];omega)
   have q2:decide (1≤(f :: r).length)=true:=by simp
   have q3:decide (Sh.len (f :: r)≤4)=decide ((f :: r).length≤4):=decide_eq_decide.2 (by rw[AK];omega)
   have q4:decide (Sh.len f.params=0)=decide (f.params.length=0):=decide_eq_decide.2 (by rw[AK];omega)
   simp only[q1,q2,q3,q4,Option.bind_some]
   cases decide ((f :: r).length≤4) <;> cases z <;> by_cases a1:f.params.length=0 <;> by_cases a2:f.result=0 <;> simp[a1,a2]
theorem OE {D:List Am} {l:List Bt} (hD:Mn D) (hf:l.length≤1048576) (hp :∀f∈l,f.params.length≤1048576∧f.BH.length≤1048576) {N:Nat} (hN:2000000≤N) :
  GN N D l=some (LP D (l.map fun f=>(f.params,f.result)) && l.all (fun f=>Bk (Gt f.params f.BH) 0 f.BH)):=by
 unfold GN LP
 rw[NC hD hN,Pk hf hp hN,Bz]
 have hsplit:(l.all fun f=>Lg D f.params f.result && Bk (Gt f.params f.BH) 0 f.BH)=((l.all fun f=>Lg D f.params f.result) && (l.all fun f=>Bk (Gt f.params f.BH) 0 f.BH)):=by
  clear hf hp
  induction l with
  | nil=>rfl
  | cons f r ih=>
   simp only[List.all_cons,ih]
   cases Lg D f.params f.result <;> cases Bk (Gt f.params f.BH) 0 f.BH <;> simp
 rw[hsplit]
 simp only[Option.bind_some,List.length_map,List.all_map,Function.comp_def]
 cases LY D with
 | false=>simp
 | true=>
  cases hl:l with
  | nil=>simp[AK]
  | cons f r=>
   have e0:Sh.get (f :: r) 0=some f:=rfl
   rw[e0]
   generalize (f :: r).all (fun f=>Lg D f.params f.result)=z
   generalize (f :: r).all (fun f=>Bk (Gt f.params f.BH) 0 f.BH)=y
   simp only[List.map_cons,UF]
   have q1:decide (Sh.len (f :: r) < 1)=false:=decide_eq_false (by rw[AK,List.length_cons];omega)
   have q2:decide (1≤(f :: r).length)=true:=by simp
   have q3:decide ((4:Int) < Sh.len (f :: r))=!decide ((f :: r).length≤4):=by rw[← decide_not];exact decide_eq_decide.2 (by rw[AK];omega)
   have q4:decide ((0:Int) < Sh.len f.params)=!decide (f.params.length=0):=by rw[← decide_not];exact decide_eq_decide.2 (by rw[AK];omega)
   simp only[q1,q2,q3,q4,Option.bind_some]
   cases decide ((f :: r).length≤4) <;> cases z <;> cases y <;> by_cases a1:f.params.length=0 <;> by_cases a2:f.result=0 <;> simp[a1,a2]
theorem JN {im:At} (hl:im.procs.length≤1048576) {N:Nat} (hN:2000000≤N):Fh N im=some ⟨im.decls,im.procs.map Ty⟩:=by
 unfold Fh
 have key :∀{N i:Nat},i≤im.procs.length→im.procs.length - i < N→CF im N i ((im.procs.take i).map Ty)=some (im.procs.map Ty):=by
  intro N i hi hN
  refine BN im.procs.length (fun N i=>CF im N i ((im.procs.take i).map Ty)=some (im.procs.map Ty)) ?_ ?_ hi hN
  ·intro n;rw[CF,if_neg (by simp[AK]),List.take_length]
  ·intro n i hi ih
   obtain⟨p,hp,_⟩:=BS hi
   rw[CF,if_pos (by simp[AK];omega),Ai hp]
   simp only[Option.bind_some]
   rw[Er _ _ _ (by simp;omega) (by simp;omega),Au (by omega) (by omega),show ((i:Int) + 1)=((i+1:Nat):Int) by omega]
   simp only[Option.bind_some]
   rw[← ih,Eo hp,List.map_append];rfl
 have:=key (Nat.zero_le _) (by omega:im.procs.length - 0 < N)
 rw[show (((0:Nat):Int))=0 from rfl,List.take_zero,List.map_nil] at this
 rw[this];rfl
theorem QZ {im:At} (hl:im.procs.length≤1048576) {N:Nat} (hN:2000000≤N):CI im N 0 []=some (im.procs.map KT):=by
 have key :∀{N i:Nat},i≤im.procs.length→im.procs.length - i < N→CI im N i ((im.procs.take i).map KT)=some (im.procs.map KT):=by
  intro N i hi hN
  refine BN im.procs.length (fun N i=>CI im N i ((im.procs.take i).map KT)=some (im.procs.map KT)) ?_ ?_ hi hN
  ·intro n;rw[CI,if_neg (by simp[AK]),List.take_length]
  ·intro n i hi ih
   obtain⟨p,hp,_⟩:=BS hi
   rw[CI,if_pos (by simp[AK];omega),Ai hp]
   simp only[Option.bind_some]
   rw[Er _ _ _ (by simp;omega) (by simp;omega),Au (by omega) (by omega),show ((i:Int) + 1)=((i+1:Nat):Int) by omega]
   simp only[Option.bind_some]
   rw[← ih,Eo hp,List.map_append];rfl
 have:=key (Nat.zero_le _) (by omega:im.procs.length - 0 < N)
 rw[show (((0:Nat):Int))=0 from rfl,List.take_zero,List.map_nil] at this
 exact this
end RC



namespace RC
open Go
def nc (D:List Am):Nat:=(D.map (·.cons.length)).sum
theorem Jr {D:List Am} {i:Nat} {d:Am} (h:D[i]?=some d):nc (D.take (i+1))=nc (D.take i) + d.cons.length:=by
 rw[Eo h];simp[nc]
theorem Ul {D:List Am} {i:Nat} {d:Am} (h:D[i]?=some d):nc (D.drop i)=d.cons.length+nc (D.drop (i+1)):=by
 rw[drop_cons h];simp[nc]
theorem HG (D:List Am) (i:Nat):nc D=nc (D.take i) + nc (D.drop i):=by
 unfold nc
 rw[← List.sum_append_nat,← List.map_append,List.take_append_drop]
theorem Gw {D:List Am} (hD:D.length≤1048576) (hn:nc D≤1048576) {i:Nat} (hi:i≤D.length) {N:Nat} (hN:2000000≤N):FN N D i=some (nc (D.take i):Int):=by
 unfold FN
 have key :∀{N j:Nat},j≤i→i - j < N→DB D i N (nc (D.take j)) j=some (nc (D.take i):Int):=by
  intro N j hj hN
  refine BN i (fun N j=>DB D i N (nc (D.take j)) j=some (nc (D.take i):Int)) ?_ ?_ hj hN
  ·intro n;rw[DB,if_neg (by simp)]
  ·intro n j hj ih
   obtain⟨d,hd,_⟩:=BS (l:=D) (i:=j) (by omega)
   have hs:=HG D (j+1)
   have ht:=Jr hd
   rw[DB,if_pos (by simp;omega),Ai hd]
   simp only[Option.bind_some]
   rw[AK,Au (n:=(j:Int) + 1) (by omega) (by omega),Au (by omega) (by omega),show ((nc (D.take j):Int) + (d.cons.length:Int))=((nc (D.take (j+1)):Nat):Int) by omega,show ((j:Int) + 1)=((j+1:Nat):Int) by omega]
   exact ih
 have:=key (Nat.zero_le _) (by omega:i - 0 < N)
 rw[show (((nc (D.take 0):Nat):Int))=0 from rfl,show (((0:Nat):Int))=0 from rfl] at this
 rw[this];rfl
theorem KQ {D:List Am} (hD:D.length≤1048576) (hn:nc D≤1048576) {N:Nat} (hN:2000000≤N):Fu N D=some (nc D:Int):=by
 unfold Fu
 have key :∀{N j:Nat},j≤D.length→D.length - j < N→DF D N (nc (D.take j)) j=some (nc D:Int):=by
  intro N j hj hN
  refine BN D.length (fun N j=>DF D N (nc (D.take j)) j=some (nc D:Int)) ?_ ?_ hj hN
  ·intro n;rw[DF,if_neg (by simp[AK]),List.take_length]
  ·intro n j hj ih
   obtain⟨d,hd,_⟩:=BS hj
   have hs:=HG D (j+1)
   have ht:=Jr hd
   rw[DF,if_pos (by simp[AK];omega),Ai hd]
   simp only[Option.bind_some]
   rw[AK,Au (n:=(j:Int) + 1) (by omega) (by omega),Au (by omega) (by omega),show ((nc (D.take j):Int) + (d.cons.length:Int))=((nc (D.take (j+1)):Nat):Int) by omega,show ((j:Int) + 1)=((j+1:Nat):Int) by omega]
   exact ih
 have:=key (Nat.zero_le _) (by omega:D.length - 0 < N)
 rw[show (((nc (D.take 0):Nat):Int))=0 from rfl,show (((0:Nat):Int))=0 from rfl] at this
 rw[this];rfl
def KA:List Am→Nat→Nat→Option (Nat×Bw)
 | [],_,_=>none
 | d :: r,k,c=>match d.cons[c]? with
  | some x=>some (k+1,x)
  | none=>KA r (k+1) (c - d.cons.length)
theorem Rs :∀(D:List Am) (k c:Nat),c < nc D→∃t x,KA D k c=some (t,x)∧k < t∧t≤k+D.length
 | [],k,c,h=>by simp[nc] at h
 | d :: r,k,c,h=>by
  unfold KA
  cases hx:d.cons[c]? with
  | some x=>exact⟨k+1,x,rfl,by omega,by simp⟩
  | none=>
   have hc:d.cons.length≤c:=by simpa using hx
   obtain⟨t,x,h1,h2,h3⟩:=Rs r (k+1) (c - d.cons.length) (by simp[nc] at h ⊢;omega)
   exact⟨t,x,h1,by omega,by simp;omega⟩
theorem Rn {D:List Am} (hD:D.length≤1048576) (hn:nc D≤1048576) {c:Nat} (hc:c < nc D) {N:Nat} (hN:2000000≤N) :∃t x,KA D 0 c=some (t,x)∧JR N D c=some ((t:Int),x):=by
 have key :∀(m j N c:Nat),D.length - j=m→j≤D.length→m < N→c < nc (D.drop j)→∃t x,KA (D.drop j) j c=some (t,x)∧FM D N c j=some (.inl ((t:Int),x)):=by
  intro m
  induction m with
  | zero=>
   intro j N c h1 h2 _ h3
   rw[List.drop_eq_nil_of_le (by omega)] at h3;simp[nc] at h3
  | succ m ih=>
   intro j N c h1 h2 h3 h4
   obtain⟨N,rfl⟩ :∃n,N=n+1:=⟨N - 1,by omega⟩
   obtain⟨d,hd,_⟩:=BS (l:=D) (i:=j) (by omega)
   have hs:=HG D j
   rw[Ul hd] at h4 hs
   rw[drop_cons hd]
   unfold KA
   rw[FM,if_pos (by simp[AK];omega),Ai hd]
   simp only[Option.bind_some]
   rw[if_pos (by simp),AK,Au (n:=(j:Int) + 1) (by omega) (by omega),Au (by omega) (by omega)]
   cases hx:d.cons[c]? with
   | some x=>
    have hlt:=(List.getElem?_eq_some_iff.1 hx).1
    refine⟨j+1,x,rfl,?_⟩
    have e:((c:Int) < (d.cons.length:Int)):=by omega
    simp[e,Ai hx]
   | none=>
    have hle:d.cons.length≤c:=by simpa using hx
    obtain⟨t,x,g1,g2⟩:=ih (j+1) N (c - d.cons.length) (by omega) (by omega) (by omega) (by omega)
    refine⟨t,x,g1,?_⟩
    have e:¬ ((c:Int) < (d.cons.length:Int)):=by omega
    rw[← g2,show ((c:Int) - (d.cons.length:Int))=((c - d.cons.length:Nat):Int) by omega,show ((j:Int) + 1)=((j+1:Nat):Int) by omega]
    simp[e]
 obtain⟨t,x,g1,g2⟩:=key D.length 0 N c (by omega) (by omega) (by omega) (by simpa using hc)
 refine⟨t,x,by simpa using g1,?_⟩
 unfold JR
 rw[show (((0:Nat):Int))=0 from rfl] at g2
 rw[g2];rfl
end RC
namespace RC
open Go
theorem Kp {D:List Am} (hD:D.length≤1048576) (hn:nc D≤1048576) {c:Nat} (hc:c < nc D) {N:Nat} (hN:2000000≤N) :∃t x,KA D 0 c=some (t,x)∧Es N D c=some (t:Int):=by
 have key :∀(m j M c:Nat),D.length - j=m→j≤D.length→m < M→c < nc (D.drop j)→∃t x,KA (D.drop j) j c=some (t,x)∧CV N D ((nc (D.take j) + c:Nat):Int) M j=some (.inl (t:Int)):=by
  intro m
  induction m with
  | zero=>
   intro j M c h1 h2 _ h3
   rw[List.drop_eq_nil_of_le (by omega)] at h3;simp[nc] at h3
  | succ m ih=>
   intro j M c h1 h2 h3 h4
   obtain⟨M,rfl⟩ :∃n,M=n+1:=⟨M - 1,by omega⟩
   obtain⟨d,hd,_⟩:=BS (l:=D) (i:=j) (by omega)
   have hs:=HG D j
   rw[Ul hd] at h4 hs
   have ht:=Jr hd
   rw[drop_cons hd]
   unfold KA
   rw[CV,if_pos (by simp[AK];omega),Gw hD hn (by omega) hN,Ai hd]
   simp only[Option.bind_some]
   rw[AK,Au (n:=(j:Int) + 1) (by omega) (by omega),Au (n:=(nc (D.take j):Int) + (d.cons.length:Int)) (by omega) (by omega),Au (by omega) (by omega),A6]
   simp only[Option.bind_some]
   cases hx:d.cons[c]? with
   | some x=>
    have hlt:=(List.getElem?_eq_some_iff.1 hx).1
    refine⟨j+1,x,rfl,?_⟩
    rw[if_pos (by simp;omega)]
    rfl
   | none=>
    have hle:d.cons.length≤c:=by simpa using hx
    obtain⟨t,x,g1,g2⟩:=ih (j+1) M (c - d.cons.length) (by omega) (by omega) (by omega) (by omega)
    refine⟨t,x,g1,?_⟩
    rw[if_neg (by simp;omega),← g2,show nc (D.take j) + c=nc (D.take (j+1)) + (c - d.cons.length) by omega]
    rfl
 obtain⟨t,x,g1,g2⟩:=key D.length 0 N c (by omega) (by omega) (by omega) (by simpa using hc)
 refine⟨t,x,by simpa using g1,?_⟩
 unfold Es
 rw[show nc (D.take 0) + c=c by simp[nc],show (((0:Nat):Int))=0 from rfl] at g2
 rw[g2];rfl
theorem KB {D:List Am} (hD:D.length≤1048576) (hn:nc D≤1048576) {c:Int} (hc:c < 0∨(nc D:Int)≤c) {N:Nat} (hN:2000000≤N):Es N D c=some (-1):=by
 unfold Es
 have key :∀{M j:Nat},j≤D.length→D.length - j < M→CV N D c M j=some (.inr ()):=by
  intro M j hj hM
  refine BN D.length (fun M j=>CV N D c M j=some (.inr ())) ?_ ?_ hj hM
  ·intro n;rw[CV,if_neg (by simp[AK])]
  ·intro n j hj ih
   obtain⟨d,hd,_⟩:=BS hj
   have hs:=HG D (j+1)
   have ht:=Jr hd
   rw[CV,if_pos (by simp[AK];omega),Gw hD hn (by omega) hN,Ai hd]
   simp only[Option.bind_some]
   rw[AK,Au (n:=(j:Int) + 1) (by omega) (by omega),Au (n:=(nc (D.take j):Int) + (d.cons.length:Int)) (by omega) (by omega),Au (by omega) (by omega),A6]
   simp only[Option.bind_some]
   rw[if_neg (by simp;omega)]
   exact ih
 have:=key (Nat.zero_le _) (by omega:D.length - 0 < N)
 rw[show (((0:Nat):Int))=0 from rfl] at this
 rw[this];rfl
end RC
namespace RC
open Go
theorem WM {D:List Am} :∀(m j c t:Nat) (x:Bw),D.length - j=m→j≤D.length→KA (D.drop j) j c=some (t,x)→∃d,1≤t∧D[t - 1]?=some d∧nc (D.take (t - 1))≤nc (D.take j) + c∧d.cons[nc (D.take j) + c - nc (D.take (t - 1))]?=some x:=by
 intro m
 induction m with
 | zero=>
  intro j c t x h1 h2 h
  rw[List.drop_eq_nil_of_le (by omega)] at h;simp[KA] at h
 | succ m ih=>
  intro j c t x h1 h2 h
  obtain⟨d,hd,_⟩:=BS (l:=D) (i:=j) (by omega)
  have ht:=Jr hd
  rw[drop_cons hd] at h
  unfold KA at h
  cases hx:d.cons[c]? with
  | some y=>
   rw[hx] at h
   simp only[Option.some.injEq,Prod.mk.injEq] at h
   obtain⟨rfl,rfl⟩:=h
   exact⟨d,by omega,by simpa using hd,by simp,by simpa using hx⟩
  | none=>
   rw[hx] at h
   have hle:d.cons.length≤c:=by simpa using hx
   obtain⟨e,g1,g2,g3,g4⟩:=ih (j+1) (c - d.cons.length) t x (by omega) (by omega) h
   rw[show nc (D.take (j+1)) + (c - d.cons.length)=nc (D.take j) + c by omega] at g3 g4
   exact⟨e,g1,g2,g3,g4⟩
theorem OF {D:List Am} (hD:D.length≤1048576) (hn:nc D≤1048576) {c:Nat} (hc:c < nc D) {N:Nat} (hN:2000000≤N) :∃t x,KA D 0 c=some (t,x)∧FV N D c=some x.fields:=by
 obtain⟨t,x,e1,e2⟩:=Kp hD hn hc hN
 obtain⟨d,g1,g2,g3,g4⟩:=WM (D:=D) D.length 0 c t x (by omega) (by omega) (by simpa using e1)
 have hlt:=(List.getElem?_eq_some_iff.1 g2).1
 have hs:=HG D (t - 1)
 rw[show nc (D.take 0) + c=c by simp[nc]] at g3 g4
 refine⟨t,x,e1,?_⟩
 unfold FV
 rw[e2]
 simp only[Option.bind_some]
 rw[if_neg (by simp;omega),Au (n:=(t:Int) - 1) (by omega) (by omega),show ((t:Int) - 1)=((t - 1:Nat):Int) by omega,Ai g2,Gw hD hn (by omega) hN]
 simp only[Option.bind_some]
 rw[Au (by omega) (by omega),show ((c:Int) - (nc (D.take (t - 1)):Int))=((c - nc (D.take (t - 1)):Nat):Int) by omega,Ai g4]
 rfl
theorem OT {D:List Am} (hD:D.length≤1048576) (hn:nc D≤1048576) {c:Nat} (hc:c < nc D) {N:Nat} (hN:2000000≤N) :∃t x,KA D 0 c=some (t,x)∧Gz N D c=some x.fields:=by
 obtain⟨t,x,e1,e2⟩:=Rn hD hn hc hN
 exact⟨t,x,e1,by unfold Gz;rw[e2];rfl⟩
end RC
namespace RC
open Go
def Rr (D:List Am) (t:Int):List Int:=
 if 1≤t∧t≤(D.length:Int) then (List.range ((D[(t - 1).toNat]?).elim 0 (·.cons.length))).map fun (i:Nat)=>(nc (D.take (t - 1).toNat):Int) + (i:Int) else []
theorem QO {f:Nat→Int} {i:Nat}:(List.range (i+1)).map f=(List.range i).map f ++ [f i]:=by rw[List.range_succ,List.map_append];rfl
theorem Qd {D:List Am} (hD:D.length≤1048576) (hn:nc D≤1048576) {t:Int} {N:Nat} (hN:2000000≤N):HO N D t=some (Rr D t):=by
 unfold HO Rr
 rw[A6,AK]
 simp only[Option.bind_some]
 by_cases h:1≤t∧t≤(D.length:Int)
 ·obtain⟨a,ha⟩ :∃a:Nat,t=(a:Int) + 1:=⟨(t - 1).toNat,by omega⟩
  subst ha
  obtain⟨d,hd,_⟩:=BS (l:=D) (i:=a) (by omega)
  have hs:=HG D (a+1)
  have ht:=Jr hd
  rw[if_neg (by simp;omega),if_pos h,show (((a:Int) + 1) - 1).toNat=a by omega,hd]
  simp only[Option.elim_some]
  have key :∀{M i:Nat},i≤d.cons.length→d.cons.length - i < M→D2 N D ((a:Int) + 1) M i ((List.range i).map fun (i:Nat)=>(nc (D.take a):Int) + (i:Int))=some ((List.range d.cons.length).map fun (i:Nat)=>(nc (D.take a):Int) + (i:Int)):=by
   intro M i hi hM
   refine BN d.cons.length (fun M i=>D2 N D ((a:Int) + 1) M i ((List.range i).map fun (i:Nat)=>(nc (D.take a):Int) + (i:Int))=some ((List.range d.cons.length).map fun (i:Nat)=>(nc (D.take a):Int) + (i:Int))) ?_ ?_ hi hM
   ·intro n
    rw[D2,Au (by omega) (by omega),show ((a:Int) + 1 - 1)=((a:Nat):Int) by omega,Ai hd]
    simp only[Option.bind_some]
    rw[if_neg (by simp[AK])]
   ·intro n i hi ih
    rw[D2,Au (n:=(a:Int) + 1 - 1) (by omega) (by omega),show ((a:Int) + 1 - 1)=((a:Nat):Int) by omega,Ai hd]
    simp only[Option.bind_some]
    rw[if_pos (by simp[AK];omega),Gw hD hn (by omega) hN]
    simp only[Option.bind_some]
    rw[Er _ _ _ (by simp;omega) (by simp;omega),Au (n:=(i:Int) + 1) (by omega) (by omega),Au (by omega) (by omega),show ((i:Int) + 1)=((i+1:Nat):Int) by omega]
    simp only[Option.bind_some]
    rw[← ih,QO]
  have:=key (Nat.zero_le _) (by omega:d.cons.length - 0 < N)
  rw[show (((0:Nat):Int))=0 from rfl,List.range_zero,List.map_nil] at this
  rw[this];rfl
 ·rw[if_pos (by simp;omega),if_neg h]
theorem Qo {D:List Am} (hD:D.length≤1048576) (hn:nc D≤1048576) {t:Int} {N:Nat} (hN:2000000≤N):II N D t=some (Rr D t):=by
 unfold II Rr
 rw[AK]
 by_cases h:1≤t∧t≤(D.length:Int)
 ·obtain⟨a,ha⟩ :∃a:Nat,t=(a:Int) + 1:=⟨(t - 1).toNat,by omega⟩
  subst ha
  obtain⟨d,hd,_⟩:=BS (l:=D) (i:=a) (by omega)
  have hs:=HG D (a+1)
  have hs0:=HG D a
  have ht:=Jr hd
  have e1:¬ ((a:Int) + 1 < 1):=by omega
  have e2:¬ ((D.length:Int) < (a:Int) + 1):=by omega
  rw[if_pos h,show (((a:Int) + 1) - 1).toNat=a by omega,hd,Au (by omega) (by omega),show ((a:Int) + 1 - 1)=((a:Nat):Int) by omega,VE (by omega) (by omega),Ai hd]
  simp only[Option.elim_some,e1,e2,decide_false,Bool.false_eq_true,if_false,Option.bind_some]
  rw[KQ (by simp;omega) (by omega) hN]
  simp only[Option.bind_some]
  have key :∀{M i:Nat},i≤d.cons.length→d.cons.length - i < M→D9 d (nc (D.take a):Int) M i ((List.range i).map fun (i:Nat)=>(nc (D.take a):Int) + (i:Int))=some ((List.range d.cons.length).map fun (i:Nat)=>(nc (D.take a):Int) + (i:Int)):=by
   intro M i hi hM
   refine BN d.cons.length (fun M i=>D9 d (nc (D.take a):Int) M i ((List.range i).map fun (i:Nat)=>(nc (D.take a):Int) + (i:Int))=some ((List.range d.cons.length).map fun (i:Nat)=>(nc (D.take a):Int) + (i:Int))) ?_ ?_ hi hM
   ·intro n;rw[D9,if_neg (by simp[AK])]
   ·intro n i hi ih
    rw[D9,if_pos (by simp[AK];omega)]
    rw[Er _ _ _ (by simp;omega) (by simp;omega),Au (n:=(i:Int) + 1) (by omega) (by omega),Au (by omega) (by omega),show ((i:Int) + 1)=((i+1:Nat):Int) by omega]
    simp only[Option.bind_some]
    rw[← ih,QO]
  have:=key (Nat.zero_le _) (by omega:d.cons.length - 0 < N)
  rw[show (((0:Nat):Int))=0 from rfl,List.range_zero,List.map_nil] at this
  rw[this];rfl
 ·rw[if_neg h]
  by_cases e1:t < 1
  ·simp[e1]
  ·have e2:(D.length:Int) < t:=by omega
   simp[e1,e2]
end RC



namespace RC
open Go
theorem Km {α:Type} {l:List α} (f:α→Nat) (L:Nat→Int→Int→Option (Int ⊕ Int)) (h0 :∀n left,L (n+1) left (l.length:Int)=some (.inr left))
  (hs :∀n (i:Nat) x left,l[i]?=some x→0≤left→left≤1048576→L (n+1) left (i:Int)=if left - (f x:Int) < 0 then some (.inl (-1)) else L n (left - (f x:Int)) ((i+1:Nat):Int))
  {N:Nat} (hN:l.length < N) {left:Int} (hl0:0≤left) (hl1:left≤1048576):L N left 0=some (if left - ((l.map f).sum:Nat) < 0 then .inl (-1) else .inr (left - ((l.map f).sum:Nat))):=by
 have key :∀{N i:Nat},i≤l.length→l.length - i < N→∀left:Int,0≤left→left≤1048576→L N left (i:Int)=some (if left - (((l.drop i).map f).sum:Nat) < 0 then .inl (-1) else .inr (left - (((l.drop i).map f).sum:Nat))):=by
  intro N i hi hN
  refine BN l.length (fun N i=>∀left:Int,0≤left→left≤1048576→L N left (i:Int)=some (if left - (((l.drop i).map f).sum:Nat) < 0 then .inl (-1) else .inr (left - (((l.drop i).map f).sum:Nat)))) ?_ ?_ hi hN
  ·intro n left a b
   rw[h0,List.drop_length]
   simp
   omega
  ·intro n i hi ih left a b
   obtain⟨x,hx,_⟩:=BS hi
   rw[hs n i x left hx a b,drop_cons hx,List.map_cons,List.sum_cons]
   by_cases h:left - (f x:Int) < 0
   ·rw[if_pos h,if_pos (by omega)]
   ·rw[if_neg h,ih (left - (f x:Int)) (by omega) (by omega)]
    rw[show left - ((f x+(List.map f (l.drop (i+1))).sum:Nat):Int)=left - (f x:Int) - ((List.map f (l.drop (i+1))).sum:Nat) by omega]
 have:=key (Nat.zero_le _) (by omega:l.length - 0 < N) left hl0 hl1
 simpa using this
theorem MB {α:Type} {l:List α} (L:Nat→Int→List α→Option (List α)) (h0 :∀n m,L (n+1) (l.length:Int) m=some m)
  (hs :∀n (i:Nat) x m,l[i]?=some x→m.length=l.length→L (n+1) (i:Int) m=L n ((i+1:Nat):Int) (m.set i x)) {N:Nat} (hN:l.length < N) {m:List α} (hm:m.length=l.length):L N 0 m=some l:=by
 have key :∀{N i:Nat},i≤l.length→l.length - i < N→∀m:List α,m.length=l.length→m.take i=l.take i→L N (i:Int) m=some l:=by
  intro N i hi hN
  refine BN l.length (fun N i=>∀m:List α,m.length=l.length→m.take i=l.take i→L N (i:Int) m=some l) ?_ ?_ hi hN
  ·intro n m a b
   rw[h0]
   rw[List.take_length,← a,List.take_length] at b
   rw[b]
  ·intro n i hi ih m a b
   obtain⟨x,hx,_⟩:=BS hi
   rw[hs n i x m hx a]
   refine ih (m.set i x) (by simp[a]) ?_
   have hi':(m.set i x)[i]?=some x:=by rw[List.getElem?_set_self (by omega)]
   rw[Eo hi',Eo hx,← b,List.take_set_of_le (Nat.le_refl _)]
 exact key (Nat.zero_le _) (by omega:l.length - 0 < N) m hm rfl
end RC



namespace RC
open Go
def ND (left:Int) (s:Nat):Int:=if left - s < 0 then -1 else left - s
theorem Bi {left:Int} {s:Nat} (h:left - s < 0):ND left s=-1:=if_pos h
theorem Cu {left:Int} {s:Nat} (h:¬ left - s < 0):ND left s=left - s:=if_neg h
def cz (c:Bw):Nat:=c.fields.length
def dz (d:Am):Nat:=d.cons.length+(d.cons.map cz).sum
def iz (i:Ag):Nat:=i.args.length+i.jumps.length
def pz (p:A0):Nat:=p.params.length+p.BH.length+(p.code.length+(p.code.map iz).sum)
def Lo (x:At):Nat:=(x.decls.length+(x.decls.map dz).sum) + (x.procs.length+(x.procs.map pz).sum)
theorem Xj {c:Bw} (hc:O0 c) {left:Int} (h0:0≤left) (h1:left≤1048576):JK c left=some (ND left (cz c)):=by
 unfold JK
 rw[Fo h0 h1 hc.fields.2]
 unfold ND cz
 by_cases h:left - (c.fields.length:Int) < 0
 ·rw[if_pos h];rfl
 ·rw[if_neg h];simp[h]
theorem Wq {l:List Bw} (hl:Cb O0 l) {left:Int} (h0:0≤left) (h1:left≤1048576) {N:Nat} (hN:2000000≤N):IJ N l left=some (ND left (l.length+(l.map cz).sum)):=by
 unfold IJ
 have hlen:=hl.2
 rw[AK,Au (by omega) (by omega)]
 by_cases h:left - (l.length:Int) < 0
 ·rw[if_pos (by simpa using h),Bi (by omega)]
 ·rw[if_neg (by simpa using h),Km (l:=l) cz (Ef l) (fun n left=>by rw[Ef,if_neg (by simp[AK])]) (fun n i x left hx a b=>?_) (by omega) (by omega) (by omega)]
  ·by_cases g:left - (l.length:Int) - ((l.map cz).sum:Nat) < 0
   ·rw[if_pos g,Bi (by omega)];rfl
   ·rw[if_neg g,Cu (by omega)]
    show some _=some _
    congr 1;omega
  ·have hi:=(List.getElem?_eq_some_iff.1 hx).1
   rw[Ef,if_pos (by simp[AK];omega),Ai hx]
   simp only[Option.bind_some]
   rw[Xj (hl.1 x (List.mem_of_getElem? hx)) a b,Au (by omega) (by omega),show ((i:Int) + 1)=((i+1:Nat):Int) by omega]
   simp only[Option.bind_some]
   by_cases g:left - (cz x:Int) < 0
   ·rw[if_pos g,Bi g];rfl
   ·rw[if_neg g,Cu g,if_neg (by simpa using g)]
end RC
namespace RC
open Go
theorem Wf {d:Am} (hd:Ly d) {left:Int} (h0:0≤left) (h1:left≤1048576) {N:Nat} (hN:2000000≤N):IV N d left=some (ND left (dz d)):=by
 unfold IV
 rw[Wq hd.cons h0 h1 hN]
 simp only[Option.bind_some]
 by_cases a:left - ((d.cons.length+(d.cons.map cz).sum:Nat):Int) < 0
 ·rw[Bi a,Bi (by unfold dz;omega)];rfl
 ·rw[Cu a,if_neg (by simpa using a),Cu (by unfold dz;omega)];rfl
theorem Ux {l:List Am} (hl:Cb Ly l) {left:Int} (h0:0≤left) (h1:left≤1048576) {N:Nat} (hN:2000000≤N):Ht N l left=some (ND left (l.length+(l.map dz).sum)):=by
 unfold Ht
 have hlen:=hl.2
 rw[AK,Au (by omega) (by omega)]
 by_cases h:left - (l.length:Int) < 0
 ·rw[if_pos (by simpa using h),Bi (by omega)]
 ·rw[if_neg (by simpa using h),Km (l:=l) dz (EK N l) (fun n left=>by rw[EK,if_neg (by simp[AK])]) (fun n i x left hx a b=>?_) (by omega) (by omega) (by omega)]
  ·by_cases g:left - (l.length:Int) - ((l.map dz).sum:Nat) < 0
   ·rw[if_pos g,Bi (by omega)];rfl
   ·rw[if_neg g,Cu (by omega)]
    show some _=some _
    congr 1;omega
  ·have hi:=(List.getElem?_eq_some_iff.1 hx).1
   rw[EK,if_pos (by simp[AK];omega),Ai hx]
   simp only[Option.bind_some]
   rw[Wf (hl.1 x (List.mem_of_getElem? hx)) a b hN,Au (by omega) (by omega),show ((i:Int) + 1)=((i+1:Nat):Int) by omega]
   simp only[Option.bind_some]
   by_cases g:left - (dz x:Int) < 0
   ·rw[if_pos g,Bi g];rfl
   ·rw[if_neg g,Cu g,if_neg (by simpa using g)]
theorem UY {i:Ag} (hi:LA i) {left:Int} (h0:0≤left) (h1:left≤1048576):Hj i left=some (ND left (iz i)):=by
 unfold Hj
 rw[Fo h0 h1 hi.args.2]
 simp only[Option.bind_some]
 by_cases a:left - (i.args.length:Int) < 0
 ·rw[if_pos a,Bi (by unfold iz;omega)];rfl
 ·rw[if_neg a,if_neg (by simpa using a),Fo (by omega) (by omega) hi.jumps.2]
  simp only[Option.bind_some]
  by_cases b:left - (i.args.length:Int) - (i.jumps.length:Int) < 0
  ·rw[if_pos b,Bi (by unfold iz;omega)];rfl
  ·rw[if_neg b,if_neg (by simpa using b),Cu (by unfold iz;omega)]
   congr 1;unfold iz;omega
theorem UM {l:List Ag} (hl:Cb LA l) {left:Int} (h0:0≤left) (h1:left≤1048576) {N:Nat} (hN:2000000≤N):HA N l left=some (ND left (l.length+(l.map iz).sum)):=by
 unfold HA
 have hlen:=hl.2
 rw[AK,Au (by omega) (by omega)]
 by_cases h:left - (l.length:Int) < 0
 ·rw[if_pos (by simpa using h),Bi (by omega)]
 ·rw[if_neg (by simpa using h),Km (l:=l) iz (Dr l) (fun n left=>by rw[Dr,if_neg (by simp[AK])]) (fun n i x left hx a b=>?_) (by omega) (by omega) (by omega)]
  ·by_cases g:left - (l.length:Int) - ((l.map iz).sum:Nat) < 0
   ·rw[if_pos g,Bi (by omega)];rfl
   ·rw[if_neg g,Cu (by omega)]
    show some _=some _
    congr 1;omega
  ·have hi:=(List.getElem?_eq_some_iff.1 hx).1
   rw[Dr,if_pos (by simp[AK];omega),Ai hx]
   simp only[Option.bind_some]
   rw[UY (hl.1 x (List.mem_of_getElem? hx)) a b,Au (by omega) (by omega),show ((i:Int) + 1)=((i+1:Nat):Int) by omega]
   simp only[Option.bind_some]
   by_cases g:left - (iz x:Int) < 0
   ·rw[if_pos g,Bi g];rfl
   ·rw[if_neg g,Cu g,if_neg (by simpa using g)]
theorem WA {p:A0} (hp:MQ p) {left:Int} (h0:0≤left) (h1:left≤1048576) {N:Nat} (hN:2000000≤N):IP N p left=some (ND left (pz p)):=by
 unfold IP
 rw[Fo h0 h1 hp.params.2]
 simp only[Option.bind_some]
 by_cases a:left - (p.params.length:Int) < 0
 ·rw[if_pos a,Bi (by unfold pz;omega)];rfl
 ·rw[if_neg a,if_neg (by simpa using a),Fo (by omega) (by omega) hp.BH.2]
  simp only[Option.bind_some]
  by_cases b:left - (p.params.length:Int) - (p.BH.length:Int) < 0
  ·rw[if_pos b,Bi (by unfold pz;omega)];rfl
  ·rw[if_neg b,if_neg (by simpa using b),UM hp.code (by omega) (by omega) hN]
   simp only[Option.bind_some]
   by_cases c:left - (p.params.length:Int) - (p.BH.length:Int) - ((p.code.length+(p.code.map iz).sum:Nat):Int) < 0
   ·rw[Bi c,Bi (by unfold pz;omega)];rfl
   ·rw[Cu c,if_neg (by simpa using c),Cu (by unfold pz;omega)]
    congr 1;unfold pz;omega
theorem UU {l:List A0} (hl:Cb MQ l) {left:Int} (h0:0≤left) (h1:left≤1048576) {N:Nat} (hN:2000000≤N):Hd N l left=some (ND left (l.length+(l.map pz).sum)):=by
 unfold Hd
 have hlen:=hl.2
 rw[AK,Au (by omega) (by omega)]
 by_cases h:left - (l.length:Int) < 0
 ·rw[if_pos (by simpa using h),Bi (by omega)]
 ·rw[if_neg (by simpa using h),Km (l:=l) pz (EC N l) (fun n left=>by rw[EC,if_neg (by simp[AK])]) (fun n i x left hx a b=>?_) (by omega) (by omega) (by omega)]
  ·by_cases g:left - (l.length:Int) - ((l.map pz).sum:Nat) < 0
   ·rw[if_pos g,Bi (by omega)];rfl
   ·rw[if_neg g,Cu (by omega)]
    show some _=some _
    congr 1;omega
  ·have hi:=(List.getElem?_eq_some_iff.1 hx).1
   rw[EC,if_pos (by simp[AK];omega),Ai hx]
   simp only[Option.bind_some]
   rw[WA (hl.1 x (List.mem_of_getElem? hx)) a b hN,Au (by omega) (by omega),show ((i:Int) + 1)=((i+1:Nat):Int) by omega]
   simp only[Option.bind_some]
   by_cases g:left - (pz x:Int) < 0
   ·rw[if_pos g,Bi g];rfl
   ·rw[if_neg g,Cu g,if_neg (by simpa using g)]
theorem Ut {x:At} (hx:Pv x) {left:Int} (h0:0≤left) (h1:left≤1048576) {N:Nat} (hN:2000000≤N):Hc N x left=some (ND left (Lo x)):=by
 unfold Hc
 rw[Ux hx.decls h0 h1 hN]
 simp only[Option.bind_some]
 by_cases a:left - ((x.decls.length+(x.decls.map dz).sum:Nat):Int) < 0
 ·rw[Bi a,Bi (by unfold Lo;omega)];rfl
 ·rw[Cu a,if_neg (by simpa using a),UU hx.procs (by omega) (by omega) hN]
  simp only[Option.bind_some]
  by_cases b:left - ((x.decls.length+(x.decls.map dz).sum:Nat):Int) - ((x.procs.length+(x.procs.map pz).sum:Nat):Int) < 0
  ·rw[Bi b,Bi (by unfold Lo;omega)];rfl
  ·rw[Cu b,if_neg (by simpa using b),Cu (by unfold Lo;omega)]
   congr 1;unfold Lo;omega
end RC



namespace RC
open Go
def IT (r:Int) (a:Int):Bool:=decide (0≤a) && decide (a < r)
def GM (at_ L:Int) (j:Int):Bool:=decide (at_ < j) && decide (j < L)
theorem SN {i:Ag} {p:A0} (r1:1≤p.Ab) (r2:p.Ab≤2000) (hl:i.args.length≤1048576) {N:Nat} (hN:2000000≤N):CS i p N 0=some (if i.args.all (IT p.Ab)=true then .inr () else .inl false):=by
 rw[Bn (l:=i.args) (CS i p) (fun _ a=>IT p.Ab a) (fun n=>by rw[CS,if_neg (by simp[AK])]) (fun n k x hx=>?_) (by omega),CW]
 have hk:=(List.getElem?_eq_some_iff.1 hx).1
 rw[CS,if_pos (by simp[AK];omega),Ai hx]
 simp only[Option.bind_some]
 rw[A6,Au (by omega) (by omega),Au (by omega) (by omega)]
 have e:decide (x≤p.Ab - 1)=decide (x < p.Ab):=decide_eq_decide.2 (by omega)
 rw[e]
 simp only[Option.bind_some]
 unfold IT
 cases h:(decide (0≤x) && decide (x < p.Ab)) <;> simp
theorem SO {i:Ag} {p:A0} (hl:i.args.length≤1048576) {N:Nat} (hN:2000000≤N):BU p i N 0=some (if i.args.all (IT p.Ab)=true then .inr () else .inl false):=by
 rw[Bn (l:=i.args) (BU p i) (fun _ a=>IT p.Ab a) (fun n=>by rw[BU,if_neg (by simp[AK])]) (fun n k x hx=>?_) (by omega),CW]
 have hk:=(List.getElem?_eq_some_iff.1 hx).1
 rw[BU,if_pos (by simp[AK];omega),Ai hx,Au (by omega) (by omega)]
 simp only[Option.bind_some]
 unfold IT
 by_cases h1:x < 0
 ·have:¬ 0≤x:=by omega
  simp[h1,this]
 ·have h2:0≤x:=by omega
  by_cases h3:p.Ab≤x
  ·have:¬ x < p.Ab:=by omega
   simp[h1,h2,h3,this]
  ·have:x < p.Ab:=by omega
   simp[h1,h2,h3,this]
theorem Qv {l:List Int} {n a L:Int} (hl:l.length≤1048576) (ha:0≤a) (ha2:a≤2000) (hL:0≤L) (hL2:L≤2000) {N:Nat} (hN:2000000≤N):FJ N l n a L=some (decide ((l.length:Int)=n) && l.all (GM a L)):=by
 unfold FJ
 rw[AK]
 by_cases h:(l.length:Int)=n
 ·subst h
  rw[Bn (l:=l) (C8 l l.length a L) (fun _ j=>GM a L j) (fun n=>by rw[C8,if_neg (by simp)]) (fun n k x hx=>?_) (by omega),CW,Bz]
  ·cases h:l.all (GM a L) <;> simp
  ·have hk:=(List.getElem?_eq_some_iff.1 hx).1
   rw[C8,if_pos (by simp;omega),Ai hx]
   simp only[Option.bind_some]
   rw[A6,Au (by omega) (by omega),Au (by omega) (by omega),Au (by omega) (by omega)]
   have e1:decide (a+1≤x)=decide (a < x):=decide_eq_decide.2 (by omega)
   have e2:decide (x≤L - 1)=decide (x < L):=decide_eq_decide.2 (by omega)
   rw[e1,e2]
   simp only[Option.bind_some]
   unfold GM
   cases h:(decide (a < x) && decide (x < L)) <;> simp
 ·simp[h]
theorem G1 {a:Int} {p:A0} (x:Int):By a p.params p.BH p.result p.Ab p.code x=some (GM a p.code.length x):=by
 unfold By GM
 rw[AK]
 by_cases h:a < x <;> simp[h]
theorem T5 {a:Int} {p:A0} {l:List Int} (hl:l.length≤1048576) {N i:Nat} (hi:i≤l.length) (hN:l.length - i < N) :
  ∃r,BY a p.params p.BH p.result p.Ab p.code l N (i:Int)=some r∧((l.drop i).all (GM a p.code.length)=true→r=.inr ())∧((l.drop i).all (GM a p.code.length)=false→∃k:Nat,r=.inl (k:Int)):=by
 refine BN l.length (fun N i=>∃r,BY a p.params p.BH p.result p.Ab p.code l N (i:Int)=some r∧((l.drop i).all (GM a p.code.length)=true→r=.inr ())∧((l.drop i).all (GM a p.code.length)=false→∃k:Nat,r=.inl (k:Int))) ?_ ?_ hi hN
 ·intro n
  exact⟨.inr (),by rw[BY,if_neg (by simp[AK])],fun _=>rfl,fun h=>by simp at h⟩
 ·intro n i hi ⟨r,h1,h2,h3⟩
  obtain⟨x,hx,_⟩:=BS hi
  rw[BY,if_pos (by simp[AK];omega),Ai hx]
  simp only[Option.bind_some]
  unfold Di
  rw[G1,I2 hx]
  simp only[Option.bind_some]
  cases hj:GM a p.code.length x with
  | false=>exact⟨.inl (i:Int),by simp,fun h=>by simp at h,fun _=>⟨i,rfl⟩⟩
  | true=>
   refine⟨r,?_,fun h=>h2 (by simpa using h),fun h=>h3 (by simpa using h)⟩
   rw[Au (by omega) (by omega),show ((i:Int) + 1)=((i+1:Nat):Int) by omega,h1]
   simp
theorem contains_eq {a:Int} {p:A0} {l:List Int} (hl:l.length≤1048576) {N:Nat} (hN:2000000≤N):B1 N a p.params p.BH p.result p.Ab p.code l=some (!l.all (GM a p.code.length)):=by
 unfold B1 Ei
 obtain⟨r,h1,h2,h3⟩:=T5 (a:=a) (p:=p) hl (Nat.zero_le _) (by omega:l.length - 0 < N)
 rw[show ((0:Nat):Int)=0 from rfl] at h1
 rw[List.drop_zero] at h2 h3
 rw[h1]
 cases h:l.all (GM a p.code.length) with
 | true=>rw[h2 h];rfl
 | false=>
  obtain⟨k,hk⟩:=h3 h
  rw[hk]
  simp
end RC


namespace RC
open Go
structure It (im:At) (p:A0) (at_:Nat) (i:Ag):Prop where
 code:p.code[at_]?=some i
 r1:1≤p.Ab
 r2:p.Ab≤2000
 cl:p.code.length≤2000
 al:i.args.length≤1048576
 jl:i.jumps.length≤1048576
 dl:im.decls.length≤1048576
 nn:nc im.decls≤1048576
 pl:im.procs.length≤1048576
 pp :∀q∈im.procs,q.params.length≤1048576
theorem It.at {im:At} {p:A0} {at_:Nat} {i:Ag} (H:It im p at_ i):at_ < p.code.length:=(List.getElem?_eq_some_iff.1 H.code).1
def GI (op:Int):Bool:=(decide (0≤op) && decide (op≤11) && !decide (op=7) && !decide (op=8)) || decide (op=18) || decide (op=19)
theorem NS (op:Int):I5 op=some (GI op):=by
 unfold I5 JD GI
 rw[A6]
 simp only[Option.bind_some]
 by_cases h1:0≤op <;> by_cases h2:op≤11 <;> by_cases h3:op=7 <;> by_cases h4:op=8 <;> by_cases h5:op=18 <;> simp[h1,h2,h3,h4,h5] <;> omega
theorem NO {op:Int} (h7:op≠7) (h8:op≠8):En op=some (GI op):=by
 unfold En GI
 by_cases h1:0≤op <;> by_cases h2:op≤11 <;> by_cases h5:op=18 <;> simp[h1,h2,h7,h8,h5] <;> omega
def Bp (N:Nat) (p0:At) (p1:A0) (p2:Int) (c3:Ag):Option Bool:=
 if (decide (c3.op=0))=true then
  Option.bind (
   if (decide ((Sh.len c3.args)=0))=true then
    Option.bind (As c3.num (-999) 999) fun q23=>
    some q23
   else
    some false
  ) fun t20=>
  some t20
 else
  Option.bind (
   if (decide (c3.op=1))=true then
    some true
   else
   if (decide (c3.op=2))=true then
    some true
   else
   if (decide (c3.op=3))=true then
    some true
   else
   if (decide (c3.op=4))=true then
    some true
   else
    some (decide (c3.op=11))
  ) fun t25=>
  if t25=true then
   Option.bind (
    if (decide ((Sh.len c3.args)=2))=true then
     some (decide (c3.num=0))
    else
     some false
   ) fun t29=>
   some t29
  else
   Option.bind (
    if (decide (c3.op=5))=true then
     some true
    else
    if (decide (c3.op=14))=true then
     some true
    else
    if (decide (c3.op=15))=true then
     some true
    else
    if (decide (c3.op=18))=true then
     some true
    else
     some (decide (c3.op=23))
   ) fun t33=>
   if t33=true then
    Option.bind (
     if (decide ((Sh.len c3.args)=1))=true then
      some (decide (c3.num=0))
     else
      some false
    ) fun t37=>
    some t37
   else
   if (decide (c3.op=6))=true then
    Option.bind (
     Option.bind (Es N p0.decls c3.num) fun q45=>
     if (decide (0 < q45))=true then
      Option.bind (FV N p0.decls c3.num) fun q47=>
      if (decide ((Sh.len c3.args)=(Sh.len q47)))=true then
       Option.bind (As c3.BX 0 p1.Ab) fun q49=>
       some q49
      else
       some false
     else
      some false
    ) fun t43=>
    some t43
   else
    Option.bind (
     if (decide (c3.op=9))=true then
      some true
     else
      some (decide (c3.op=24))
    ) fun t51=>
    if t51=true then
     Option.bind (EV p0 c3.num (Sh.len c3.args) 0) fun q55=>
     some q55
    else
    if (decide (c3.op=10))=true then
     Option.bind (
      Option.bind (EV p0 c3.num (Sh.len c3.args) 1) fun q61=>
      if q61=true then
       Option.bind (Sh.get p0.procs c3.num) fun c63=>
       some (decide ((Sh.len c63.BH)=0))
      else
       some false
     ) fun t59=>
     some t59
    else
     Option.bind (
      if (decide (c3.op=16))=true then
       some true
      else
       some (decide (c3.op=17))
     ) fun t65=>
     if t65=true then
      Option.bind (
       Option.bind (As (Sh.len c3.args) 1 4) fun q71=>
       if q71=true then
        some (decide (c3.num=0))
       else
        some false
      ) fun t69=>
      some t69
     else
     if (decide (c3.op=19))=true then
      Option.bind (
       if (decide ((Sh.len c3.args)=1))=true then
        Option.bind (As c3.num 0 2) fun q79=>
        some q79
       else
        some false
      ) fun t76=>
      some t76
     else
     if (decide (c3.op=20))=true then
      Option.bind (
       if (decide ((Sh.len c3.args)=1))=true then
        Option.bind (As c3.num (Sh.w (p2+1)) (Sh.w ((Sh.len p1.code) - 1))) fun q86=>
        some q86
       else
        some false
      ) fun t83=>
      some t83
     else
     if (decide (c3.op=22))=true then
      Option.bind (
       if (decide ((Sh.len c3.args)=0))=true then
        Option.bind (As c3.num (Sh.w (p2+1)) (Sh.w ((Sh.len p1.code) - 1))) fun q93=>
        some q93
       else
        some false
      ) fun t90=>
      some t90
     else
     if (decide (c3.op=21))=true then
      Option.bind (HO N p0.decls c3.num) fun q97=>
      Option.bind (
       if (decide ((Sh.len c3.args)=1))=true then
        if (decide (0 < (Sh.len q97)))=true then
         Option.bind (FJ N c3.jumps (Sh.len q97) p2 (Sh.len p1.code)) fun q103=>
         some q103
        else
         some false
       else
        some false
      ) fun t99=>
      some t99
     else
      some false
def B2 (N:Nat) (p0:CQ) (p1:A0) (p2:Int) (p3:Ag):Option Bool:=
 Option.bind (Aq N p2 p1.params p1.BH p1.result p1.Ab p1.code p0 p3) fun q27=>
 if (!q27)=true then
  some false
 else
  Option.bind (Ax N p0 p3) fun q33=>
  Option.bind (
   if (decide (q33.1≤(Sh.len p3.args)))=true then
    some (decide ((Sh.len p3.args)≤q33.2))
   else
    some false
  ) fun t35=>
  some t35
def preB (p:A0) (i:Ag):Bool:=
 (decide (0≤i.dst) && decide (i.dst < p.Ab)) && (decide (i.dst=0) || GI i.op) && (decide (i.BX=0) || decide (i.op=6)) && (decide (i.op=21) || decide (i.jumps.length=0))
theorem PO {im:At} {p:A0} {at_:Nat} {i:Ag} (H:It im p at_ i) {N:Nat} (hN:2000000≤N) :
  Em N im p at_=if (i.args.all (IT p.Ab) && preB p i)=true then Bp N im p at_ i else some false:=by
 have r1:=H.r1
 have r2:=H.r2
 have e0:Sh.w (p.Ab - 1)=p.Ab - 1:=Au (by omega) (by omega)
 have e1:decide (i.dst≤p.Ab - 1)=decide (i.dst < p.Ab):=decide_eq_decide.2 (by omega)
 unfold Em
 rw[Ai H.code]
 simp only[Option.bind_some]
 rw[SN H.r1 H.r2 H.al hN,Bz]
 cases hb:i.args.all (IT p.Ab) with
 | false=>simp
 | true=>
  rw[if_pos rfl,A6,e0,e1,NS]
  simp only[Option.bind_some]
  show Option.bind _ (fun t11=>if t11=true then some false else Bp N im p at_ i)=_
  have hj:(decide (0 < Sh.len i.jumps))=!decide (i.jumps.length=0):=by
   rw[AK]
   by_cases h:i.jumps.length=0
   ·simp[h]
   ·have:(0:Int) < i.jumps.length:=by omega
    simp only[this,h,decide_true,decide_false,Bool.not_false]
  rw[hj]
  unfold preB
  cases decide (0≤i.dst) <;> cases decide (i.dst < p.Ab) <;> cases decide (i.dst=0) <;> cases GI i.op <;> cases decide (i.BX=0) <;> cases decide (i.op=6) <;> cases decide (i.op=21) <;> cases decide (i.jumps.length=0) <;> rfl
def Le (p:A0) (i:Ag):Bool:=
 (decide (0≤i.dst) && decide (i.dst < p.Ab)) && (decide (i.dst=0) || GI i.op) && (decide (0≤i.BX) && decide (i.BX≤p.Ab)) && (decide (i.BX=0) || decide (i.op=6))
def My (op:Int):Bool:=decide (0≤op) && decide (op≤24) && !decide (op=7) && !decide (op=8) && !decide (op=12) && !decide (op=13)
def Lj (p:A0) (at_:Int) (i:Ag):Bool:=(decide (i.op=21) || decide (i.jumps.length=0)) && i.jumps.all (GM at_ p.code.length)
theorem Su {im:At} {p:A0} {at_:Nat} {i:Ag} (H:It im p at_ i) {sg:CQ} {N:Nat} (hN:2000000≤N) :
  CL N sg p at_ i=if (My i.op && Le p i && i.args.all (IT p.Ab) && Lj p at_ i)=true then B2 N sg p at_ i else some false:=by
 unfold CL
 rw[SO H.al hN,Bz,contains_eq H.jl hN]
 simp only[Option.bind_some]
 have n1:decide (i.op < 0)=!decide (0≤i.op):=by by_cases h:0≤i.op <;> simp[h] <;> omega
 have n2:decide (24 < i.op)=!decide (i.op≤24):=by by_cases h:i.op≤24 <;> simp[h] <;> omega
 have n3:decide (i.dst < 0)=!decide (0≤i.dst):=by by_cases h:0≤i.dst <;> simp[h] <;> omega
 have n4:decide (p.Ab≤i.dst)=!decide (i.dst < p.Ab):=by by_cases h:i.dst < p.Ab <;> simp[h] <;> omega
 have n5:decide (i.BX < 0)=!decide (0≤i.BX):=by by_cases h:0≤i.BX <;> simp[h] <;> omega
 have n6:decide (p.Ab < i.BX)=!decide (i.BX≤p.Ab):=by by_cases h:i.BX≤p.Ab <;> simp[h] <;> omega
 have n7:(decide (0 < Sh.len i.jumps))=!decide (i.jumps.length=0):=by
  rw[AK]
  by_cases h:i.jumps.length=0
  ·simp[h]
  ·have:(0:Int) < i.jumps.length:=by omega
   simp only[this,h,decide_true,decide_false,Bool.not_false]
 rw[n1,n2,n3,n4,n5,n6,n7]
 by_cases hbad:My i.op=true
 ·have h7:i.op≠7:=by intro e;simp[My,e] at hbad
  have h8:i.op≠8:=by intro e;simp[My,e] at hbad
  rw[NO h7 h8,hbad]
  unfold My at hbad
  simp only[Bool.and_eq_true] at hbad
  obtain⟨⟨⟨⟨⟨b1,b2⟩,b3⟩,b4⟩,b5⟩,b6⟩:=hbad
  simp only[Bool.not_eq_true'] at b3 b4 b5 b6
  rw[b1,b2,b3,b4,b5,b6]
  simp only[Option.bind_some]
  show (if (false:Bool)=true then some false else Option.bind _ (fun t10=>if t10=true then some false else if i.args.all (IT p.Ab)=true then Option.bind _ (fun t21=>if t21=true then some false else B2 N sg p at_ i) else some (id false)))=_
  unfold Le Lj
  cases decide (0≤i.dst) <;> cases decide (i.dst < p.Ab) <;> cases decide (i.dst=0) <;> cases GI i.op <;> cases decide (0≤i.BX) <;> cases decide (i.BX≤p.Ab) <;> cases decide (i.BX=0) <;> cases decide (i.op=6) <;> first | rfl | (cases i.args.all (IT p.Ab) <;> first | rfl | (cases decide (i.op=21) <;> cases decide (i.jumps.length=0) <;> cases i.jumps.all (GM at_ p.code.length) <;> rfl))
 ·simp only[Bool.not_eq_true] at hbad
  rw[hbad]
  unfold My at hbad
  simp only[Bool.false_and,Bool.false_eq_true,if_false]
  revert hbad
  cases decide (0≤i.op) <;> cases decide (i.op≤24) <;> cases decide (i.op=7) <;> cases decide (i.op=8) <;> cases decide (i.op=12) <;> cases decide (i.op=13) <;> intro hbad <;> first | rfl | cases hbad
end RC



namespace RC
open Go
def Ou (im:At):CQ:=⟨im.decls,im.procs.map KT⟩
def CK (N:Nat) (im:At) (p:A0) (at_:Nat) (i:Ag) (ex:Bool):Prop:=∃m,B2 N (Ou im) p at_ i=some m∧Bp N im p at_ i=some (m && ex)
section
variable {im : At} {p : A0} {at_ : Nat} {i : Ag} {N : Nat}
theorem Zj (H:It im p at_ i) (hN:2000000≤N) (hop:i.op=0):CK N im p at_ i true:=by
 have hal:=H.al
 have hat:=H.at
 have hcl:=H.cl
 unfold CK Bp B2 Aq Ax
 simp only[hop,A6,AK,Option.bind_some]
 by_cases h1:i.args.length=0 <;> by_cases h2:-999≤i.num <;> by_cases h3:i.num≤999 <;> simp[h1,h2,h3] <;> omega
theorem Zp (H:It im p at_ i) (hN:2000000≤N) (hop:i.op=1):CK N im p at_ i true:=by
 have hal:=H.al
 have hat:=H.at
 have hcl:=H.cl
 unfold CK Bp B2 Aq Ax
 simp only[hop,A6,AK,Option.bind_some]
 by_cases h1:i.num=0
 ·by_cases h2:(i.args.length:Int)=2
  ·simp[h1,h2]
  ·have h3:¬ (2≤(i.args.length:Int)∧(i.args.length:Int)≤2):=by omega
   by_cases h4:2≤(i.args.length:Int)
   ·have h5:¬ (i.args.length:Int)≤2:=by omega
    simp[h1,h2,h4,h5]
   ·simp[h1,h2,h4]
 ·by_cases h2:(i.args.length:Int)=2 <;> simp[h1,h2]
theorem Zz (H:It im p at_ i) (hN:2000000≤N) (hop:i.op=2):CK N im p at_ i true:=by
 have hal:=H.al
 have hat:=H.at
 have hcl:=H.cl
 unfold CK Bp B2 Aq Ax
 simp only[hop,A6,AK,Option.bind_some]
 by_cases h1:i.num=0
 ·by_cases h2:(i.args.length:Int)=2
  ·simp[h1,h2]
  ·have h3:¬ (2≤(i.args.length:Int)∧(i.args.length:Int)≤2):=by omega
   by_cases h4:2≤(i.args.length:Int)
   ·have h5:¬ (i.args.length:Int)≤2:=by omega
    simp[h1,h2,h4,h5]
   ·simp[h1,h2,h4]
 ·by_cases h2:(i.args.length:Int)=2 <;> simp[h1,h2]
theorem ZZ (H:It im p at_ i) (hN:2000000≤N) (hop:i.op=3):CK N im p at_ i true:=by
 have hal:=H.al
 have hat:=H.at
 have hcl:=H.cl
 unfold CK Bp B2 Aq Ax
 simp only[hop,A6,AK,Option.bind_some]
 by_cases h1:i.num=0
 ·by_cases h2:(i.args.length:Int)=2
  ·simp[h1,h2]
  ·have h3:¬ (2≤(i.args.length:Int)∧(i.args.length:Int)≤2):=by omega
   by_cases h4:2≤(i.args.length:Int)
   ·have h5:¬ (i.args.length:Int)≤2:=by omega
    simp[h1,h2,h4,h5]
   ·simp[h1,h2,h4]
 ·by_cases h2:(i.args.length:Int)=2 <;> simp[h1,h2]
theorem Z7 (H:It im p at_ i) (hN:2000000≤N) (hop:i.op=4):CK N im p at_ i true:=by
 have hal:=H.al
 have hat:=H.at
 have hcl:=H.cl
 unfold CK Bp B2 Aq Ax
 simp only[hop,A6,AK,Option.bind_some]
 by_cases h1:i.num=0
 ·by_cases h2:(i.args.length:Int)=2
  ·simp[h1,h2]
  ·have h3:¬ (2≤(i.args.length:Int)∧(i.args.length:Int)≤2):=by omega
   by_cases h4:2≤(i.args.length:Int)
   ·have h5:¬ (i.args.length:Int)≤2:=by omega
    simp[h1,h2,h4,h5]
   ·simp[h1,h2,h4]
 ·by_cases h2:(i.args.length:Int)=2 <;> simp[h1,h2]
theorem YQ (H:It im p at_ i) (hN:2000000≤N) (hop:i.op=11):CK N im p at_ i true:=by
 have hal:=H.al
 have hat:=H.at
 have hcl:=H.cl
 unfold CK Bp B2 Aq Ax
 simp only[hop,A6,AK,Option.bind_some]
 by_cases h1:i.num=0
 ·by_cases h2:(i.args.length:Int)=2
  ·simp[h1,h2]
  ·have h3:¬ (2≤(i.args.length:Int)∧(i.args.length:Int)≤2):=by omega
   by_cases h4:2≤(i.args.length:Int)
   ·have h5:¬ (i.args.length:Int)≤2:=by omega
    simp[h1,h2,h4,h5]
   ·simp[h1,h2,h4]
 ·by_cases h2:(i.args.length:Int)=2 <;> simp[h1,h2]
theorem Z5 (H:It im p at_ i) (hN:2000000≤N) (hop:i.op=5):CK N im p at_ i true:=by
 have hal:=H.al
 have hat:=H.at
 have hcl:=H.cl
 unfold CK Bp B2 Aq Ax
 simp only[hop,A6,AK,Option.bind_some]
 by_cases h1:i.num=0
 ·by_cases h2:(i.args.length:Int)=1
  ·simp[h1,h2]
  ·by_cases h4:1≤(i.args.length:Int)
   ·have h5:¬ (i.args.length:Int)≤1:=by omega
    simp[h1,h2,h4,h5]
   ·simp[h1,h2,h4]
 ·by_cases h2:(i.args.length:Int)=1 <;> simp[h1,h2]
theorem YP (H:It im p at_ i) (hN:2000000≤N) (hop:i.op=14):CK N im p at_ i true:=by
 have hal:=H.al
 have hat:=H.at
 have hcl:=H.cl
 unfold CK Bp B2 Aq Ax
 simp only[hop,A6,AK,Option.bind_some]
 by_cases h1:i.num=0
 ·by_cases h2:(i.args.length:Int)=1
  ·simp[h1,h2]
  ·by_cases h4:1≤(i.args.length:Int)
   ·have h5:¬ (i.args.length:Int)≤1:=by omega
    simp[h1,h2,h4,h5]
   ·simp[h1,h2,h4]
 ·by_cases h2:(i.args.length:Int)=1 <;> simp[h1,h2]
theorem YU (H:It im p at_ i) (hN:2000000≤N) (hop:i.op=15):CK N im p at_ i true:=by
 have hal:=H.al
 have hat:=H.at
 have hcl:=H.cl
 unfold CK Bp B2 Aq Ax
 simp only[hop,A6,AK,Option.bind_some]
 by_cases h1:i.num=0
 ·by_cases h2:(i.args.length:Int)=1
  ·simp[h1,h2]
  ·by_cases h4:1≤(i.args.length:Int)
   ·have h5:¬ (i.args.length:Int)≤1:=by omega
    simp[h1,h2,h4,h5]
   ·simp[h1,h2,h4]
 ·by_cases h2:(i.args.length:Int)=1 <;> simp[h1,h2]
theorem YF (H:It im p at_ i) (hN:2000000≤N) (hop:i.op=18):CK N im p at_ i true:=by
 have hal:=H.al
 have hat:=H.at
 have hcl:=H.cl
 unfold CK Bp B2 Aq Ax
 simp only[hop,A6,AK,Option.bind_some]
 by_cases h1:i.num=0
 ·by_cases h2:(i.args.length:Int)=1
  ·simp[h1,h2]
  ·by_cases h4:1≤(i.args.length:Int)
   ·have h5:¬ (i.args.length:Int)≤1:=by omega
    simp[h1,h2,h4,h5]
   ·simp[h1,h2,h4]
 ·by_cases h2:(i.args.length:Int)=1 <;> simp[h1,h2]
theorem ZA (H:It im p at_ i) (hN:2000000≤N) (hop:i.op=23):CK N im p at_ i true:=by
 have hal:=H.al
 have hat:=H.at
 have hcl:=H.cl
 unfold CK Bp B2 Aq Ax
 simp only[hop,A6,AK,Option.bind_some]
 by_cases h1:i.num=0
 ·by_cases h2:(i.args.length:Int)=1
  ·simp[h1,h2]
  ·by_cases h4:1≤(i.args.length:Int)
   ·have h5:¬ (i.args.length:Int)≤1:=by omega
    simp[h1,h2,h4,h5]
   ·simp[h1,h2,h4]
 ·by_cases h2:(i.args.length:Int)=1 <;> simp[h1,h2]
theorem Yw (H:It im p at_ i) (hN:2000000≤N) (hop:i.op=16):CK N im p at_ i true:=by
 have hal:=H.al
 have hat:=H.at
 have hcl:=H.cl
 unfold CK Bp B2 Aq Ax
 simp only[hop,A6,AK,Option.bind_some]
 by_cases h1:i.num=0 <;> by_cases h2:1≤(i.args.length:Int) <;> by_cases h3:(i.args.length:Int)≤4 <;> simp[h1,h2,h3]
theorem X0 (H:It im p at_ i) (hN:2000000≤N) (hop:i.op=17):CK N im p at_ i true:=by
 have hal:=H.al
 have hat:=H.at
 have hcl:=H.cl
 unfold CK Bp B2 Aq Ax
 simp only[hop,A6,AK,Option.bind_some]
 by_cases h1:i.num=0 <;> by_cases h2:1≤(i.args.length:Int) <;> by_cases h3:(i.args.length:Int)≤4 <;> simp[h1,h2,h3]
theorem Yv (H:It im p at_ i) (hN:2000000≤N) (hop:i.op=19):CK N im p at_ i true:=by
 have hal:=H.al
 have hat:=H.at
 have hcl:=H.cl
 unfold CK Bp B2 Aq Ax
 simp only[hop,A6,AK,Option.bind_some]
 have e:decide (i.num≤2)=decide (i.num < 3):=decide_eq_decide.2 (by omega)
 rw[e]
 by_cases h1:0≤i.num <;> by_cases h3:i.num < 3 <;> by_cases h2:(i.args.length:Int)=1 <;> by_cases h4:1≤(i.args.length:Int) <;> by_cases h5:(i.args.length:Int)≤1 <;> first | (exfalso;omega) | simp[h1,h2,h3,h4,h5]
theorem YG (H:It im p at_ i) (hN:2000000≤N) (hop:i.op=20):CK N im p at_ i true:=by
 have hal:=H.al
 have hat:=H.at
 have hcl:=H.cl
 unfold CK Bp B2 Aq Ax
 simp only[hop,A6,AK,Option.bind_some]
 have e2:Sh.w ((at_:Int) + 1)=(at_:Int) + 1:=Au (by omega) (by omega)
 have e3:Sh.w ((p.code.length:Int) - 1)=(p.code.length:Int) - 1:=Au (by omega) (by omega)
 have e4:decide ((at_:Int) + 1≤i.num)=decide ((at_:Int) < i.num):=decide_eq_decide.2 (by omega)
 have e5:decide (i.num≤(p.code.length:Int) - 1)=decide (i.num < (p.code.length:Int)):=decide_eq_decide.2 (by omega)
 simp only[e2,e3,e4,e5,G1,GM,Option.bind_some]
 by_cases h1:(at_:Int) < i.num <;> by_cases h3:i.num < (p.code.length:Int) <;> by_cases h2:(i.args.length:Int)=1 <;> by_cases h4:1≤(i.args.length:Int) <;> by_cases h5:(i.args.length:Int)≤1 <;> first | (exfalso;omega) | simp[h1,h2,h3,h4,h5]
theorem Yk (H:It im p at_ i) (hN:2000000≤N) (hop:i.op=22):CK N im p at_ i true:=by
 have hal:=H.al
 have hat:=H.at
 have hcl:=H.cl
 unfold CK Bp B2 Aq Ax
 simp only[hop,A6,AK,Option.bind_some]
 have e2:Sh.w ((at_:Int) + 1)=(at_:Int) + 1:=Au (by omega) (by omega)
 have e3:Sh.w ((p.code.length:Int) - 1)=(p.code.length:Int) - 1:=Au (by omega) (by omega)
 have e4:decide ((at_:Int) + 1≤i.num)=decide ((at_:Int) < i.num):=decide_eq_decide.2 (by omega)
 have e5:decide (i.num≤(p.code.length:Int) - 1)=decide (i.num < (p.code.length:Int)):=decide_eq_decide.2 (by omega)
 simp only[e2,e3,e4,e5,G1,GM,Option.bind_some]
 have q0:((i.args.length:Int)=0)↔i.args=[]:=by rw[← List.length_eq_zero_iff];omega
 by_cases h0:i.args=[]
 ·have h0':(i.args.length:Int)=0:=q0.2 h0
  by_cases h1:(at_:Int) < i.num <;> by_cases h3:i.num < (p.code.length:Int) <;> simp[h1,h3,h0]
 have h0':¬ (i.args.length:Int)=0:=fun h=>h0 (q0.1 h)
 by_cases h1:(at_:Int) < i.num <;> by_cases h3:i.num < (p.code.length:Int) <;> by_cases h2:(i.args.length:Int)=0 <;> by_cases h4:0≤(i.args.length:Int) <;> by_cases h5:(i.args.length:Int)≤0 <;> first | (exfalso;omega) | simp[h0,h1,h2,h3,h4,h5]
theorem Zy (H:It im p at_ i) (hN:2000000≤N) (hop:i.op=9):CK N im p at_ i true:=by
 have hal:=H.al
 have hat:=H.at
 have hcl:=H.cl
 unfold CK Bp B2 Aq Ax
 simp only[hop,A6,AK,Option.bind_some]
 have hpl:=H.pl
 have e1:Sh.w ((im.procs.length:Int) - 1)=(im.procs.length:Int) - 1:=Au (by omega) (by omega)
 have e2:Sh.w ((i.args.length:Int) + 0)=(i.args.length:Int):=by rw[Au (by omega) (by omega)];omega
 have e3:decide (i.num≤(im.procs.length:Int) - 1)=decide (i.num < (im.procs.length:Int)):=decide_eq_decide.2 (by omega)
 unfold EV Ou
 simp only[A6,AK,e1,e2,e3,List.length_map,Option.bind_some]
 by_cases h1:0≤i.num
 ·by_cases h2:i.num < (im.procs.length:Int)
  ·obtain⟨q,hq⟩:=Int.eq_ofNat_of_zero_le h1
   obtain⟨c,hc,_⟩:=BS (l:=im.procs) (i:=q) (by omega)
   have g1:Sh.get im.procs i.num=some c:=by rw[hq];exact Ai hc
   have g2:Sh.get (im.procs.map KT) i.num=some (KT c):=by rw[hq];exact Ai (by rw[List.getElem?_map,hc];rfl)
   rw[g1,g2]
   have t:(KT c).params=c.params:=rfl
   by_cases h3:(c.params.length:Int)=(i.args.length:Int)
   ·simp[h1,h2,h3,t]
   ·by_cases h4:(c.params.length:Int)≤(i.args.length:Int)
    ·have h5:¬ (i.args.length:Int)≤(c.params.length:Int):=by omega
     simp[h1,h2,h3,h4,h5,t]
    ·simp[h1,h2,h3,h4,t]
  ·simp[h1,h2]
 ·simp[h1]
theorem YD (H:It im p at_ i) (hN:2000000≤N) (hop:i.op=24):CK N im p at_ i true:=by
 have hal:=H.al
 have hat:=H.at
 have hcl:=H.cl
 unfold CK Bp B2 Aq Ax
 simp only[hop,A6,AK,Option.bind_some]
 have hpl:=H.pl
 have e1:Sh.w ((im.procs.length:Int) - 1)=(im.procs.length:Int) - 1:=Au (by omega) (by omega)
 have e2:Sh.w ((i.args.length:Int) + 0)=(i.args.length:Int):=by rw[Au (by omega) (by omega)];omega
 have e3:decide (i.num≤(im.procs.length:Int) - 1)=decide (i.num < (im.procs.length:Int)):=decide_eq_decide.2 (by omega)
 unfold EV Ou
 simp only[A6,AK,e1,e2,e3,List.length_map,Option.bind_some]
 by_cases h1:0≤i.num
 ·by_cases h2:i.num < (im.procs.length:Int)
  ·obtain⟨q,hq⟩:=Int.eq_ofNat_of_zero_le h1
   obtain⟨c,hc,_⟩:=BS (l:=im.procs) (i:=q) (by omega)
   have g1:Sh.get im.procs i.num=some c:=by rw[hq];exact Ai hc
   have g2:Sh.get (im.procs.map KT) i.num=some (KT c):=by rw[hq];exact Ai (by rw[List.getElem?_map,hc];rfl)
   rw[g1,g2]
   have t:(KT c).params=c.params:=rfl
   by_cases h3:(c.params.length:Int)=(i.args.length:Int)
   ·simp[h1,h2,h3,t]
   ·by_cases h4:(c.params.length:Int)≤(i.args.length:Int)
    ·have h5:¬ (i.args.length:Int)≤(c.params.length:Int):=by omega
     simp[h1,h2,h3,h4,h5,t]
    ·simp[h1,h2,h3,h4,t]
  ·simp[h1,h2]
 ·simp[h1]
theorem YE (H:It im p at_ i) (hN:2000000≤N) (hop:i.op=10):CK N im p at_ i true:=by
 have hal:=H.al
 have hat:=H.at
 have hcl:=H.cl
 unfold CK Bp B2 Aq Ax
 simp only[hop,A6,AK,Option.bind_some]
 have hpl:=H.pl
 have e1:Sh.w ((im.procs.length:Int) - 1)=(im.procs.length:Int) - 1:=Au (by omega) (by omega)
 have e2:Sh.w ((i.args.length:Int) + 1)=(i.args.length:Int) + 1:=Au (by omega) (by omega)
 have e3:decide (i.num≤(im.procs.length:Int) - 1)=decide (i.num < (im.procs.length:Int)):=decide_eq_decide.2 (by omega)
 unfold EV Ou
 simp only[A6,AK,e1,e2,e3,List.length_map,Option.bind_some]
 by_cases h1:0≤i.num
 ·by_cases h2:i.num < (im.procs.length:Int)
  ·obtain⟨q,hq⟩:=Int.eq_ofNat_of_zero_le h1
   obtain⟨c,hc,hcm⟩:=BS (l:=im.procs) (i:=q) (by omega)
   have hpp:=H.pp c hcm
   have g1:Sh.get im.procs i.num=some c:=by rw[hq];exact Ai hc
   have g2:Sh.get (im.procs.map KT) i.num=some (KT c):=by rw[hq];exact Ai (by rw[List.getElem?_map,hc];rfl)
   rw[g1,g2]
   have t:(KT c).params=c.params:=rfl
   have t2:(KT c).BH=c.BH:=rfl
   have e4:Sh.w ((c.params.length:Int) - 1)=(c.params.length:Int) - 1:=Au (by omega) (by omega)
   simp only[t,t2,Option.bind_some,e4]
   by_cases h6:(c.BH.length:Int)=0
   ·by_cases h3:(c.params.length:Int)=(i.args.length:Int) + 1
    ·simp[h1,h2,h3,h6]
    ·by_cases h4:(c.params.length:Int) - 1≤(i.args.length:Int)
     ·have h5:¬ (i.args.length:Int)≤(c.params.length:Int) - 1:=by omega
      simp[h1,h2,h3,h4,h5,h6]
     ·simp[h1,h2,h3,h4,h6]
   ·have h7:¬ c.BH=[]:=by
     intro h
     rw[h] at h6
     exact h6 rfl
    by_cases h3:(c.params.length:Int)=(i.args.length:Int) + 1 <;> simp[h1,h2,h3,h6,h7]
  ·simp[h1,h2]
 ·simp[h1]
theorem Z1 (H:It im p at_ i) (hN:2000000≤N) (hop:i.op=6):CK N im p at_ i (decide (0≤i.BX) && decide (i.BX≤p.Ab)):=by
 have hal:=H.al
 have hat:=H.at
 have hcl:=H.cl
 unfold CK Bp B2 Aq Ax
 simp only[hop,A6,AK,Option.bind_some]
 unfold Ou
 simp only[]
 rw[KQ H.dl H.nn hN]
 simp only[Option.bind_some]
 by_cases h1:0≤i.num
 ·by_cases h2:i.num < (nc im.decls:Int)
  ·obtain⟨q,hq⟩:=Int.eq_ofNat_of_zero_le h1
   obtain⟨t,x,f1,f2⟩:=Kp H.dl H.nn (c:=q) (by omega) hN
   obtain⟨t',x',f3,f4⟩:=OF H.dl H.nn (c:=q) (by omega) hN
   obtain⟨t2,x2,f5,f6⟩:=OT H.dl H.nn (c:=q) (by omega) hN
   obtain⟨t3,x3,f7,f8,_⟩:=Rs im.decls 0 q (by omega)
   rw[f1] at f3 f5 f7
   cases f3;cases f5;cases f7
   rw[hq,f2,f4,f6]
   have ht:(0:Int) < t:=by omega
   have ht0:¬ t=0:=by omega
   have h2':(q:Int) < (nc im.decls:Int):=by omega
   have h1':(0:Int)≤(q:Int):=Int.natCast_nonneg _
   simp only[Option.bind_some,AK]
   by_cases h3:(i.args.length:Int)=(x.fields.length:Int)
   ·simp[h1',h2',h3,ht,ht0]
   ·by_cases h4:(x.fields.length:Int)≤(i.args.length:Int)
    ·have h5:¬ (i.args.length:Int)≤(x.fields.length:Int):=by omega
     simp[h1',h2',h3,h4,h5,ht,ht0]
    ·simp[h1',h2',h3,h4,ht,ht0]
  ·rw[KB H.dl H.nn (.inr (by omega)) hN]
   simp[h1,h2]
 ·rw[KB H.dl H.nn (.inl (by omega)) hN]
  simp[h1]
theorem VF (H:It im p at_ i) (hN:2000000≤N) (hop:i.op=21):CK N im p at_ i (i.jumps.all (GM at_ p.code.length)):=by
 have hal:=H.al
 have hat:=H.at
 have hcl:=H.cl
 unfold CK Bp B2 Aq Ax
 simp only[hop,A6,AK,Option.bind_some]
 unfold Ou
 simp only[]
 rw[Qd H.dl H.nn hN,Qo H.dl H.nn hN]
 simp only[Option.bind_some,AK]
 rw[Qv H.jl (Int.natCast_nonneg _) (by omega) (Int.natCast_nonneg _) (by omega) hN]
 generalize Rr im.decls i.num=cl
 have dd :∀a:Bool,(match a with | true=>true | false=>false)=a:=by intro a;cases a <;> rfl
 rcases cl with _ | ⟨c0,cl⟩
 ·simp only[List.length_nil]
  by_cases h2:(i.args.length:Int)=1 <;> by_cases h3:(i.jumps.length:Int)=((0:Nat):Int) <;> by_cases h4:1≤(i.args.length:Int) <;> by_cases h5:(i.args.length:Int)≤1 <;> first | (exfalso;omega) | (cases i.jumps.all (GM at_ p.code.length) <;> simp[h2,h3,h4,h5])
 ·have h1:(0:Int) < ((List.length (c0 :: cl):Nat):Int):=by simp only[List.length_cons];omega
  by_cases h2:(i.args.length:Int)=1 <;> by_cases h3:(i.jumps.length:Int)=((List.length (c0 :: cl):Nat):Int) <;> by_cases h4:1≤(i.args.length:Int) <;> by_cases h5:(i.args.length:Int)≤1 <;> first | (exfalso;omega) | (cases i.jumps.all (GM at_ p.code.length) <;> simp only[h1,h2,h3,h4,h5] <;> simp[h4,h5])
theorem KO (H:It im p at_ i) (hN:2000000≤N) :∃b,Em N im p at_=some b∧CL N (Ou im) p at_ i=some b:=by
 rw[PO H hN,Su H hN]
 have other :∀(h6:i.op≠6) (h21:i.op≠21),(preB p i=(Le p i && Lj p at_ i)):=fun h6 h21=>by
  have r1:=H.r1
  unfold preB Le Lj
  simp only[h6,h21,decide_false,Bool.or_false,Bool.false_or]
  by_cases h1:i.BX=0
  ·have h2:(0:Int)≤p.Ab:=by omega
   by_cases h3:i.jumps.length=0
   ·have:i.jumps=[]:=List.eq_nil_of_length_eq_zero h3
    simp[h1,h2,this]
   ·simp[h3]
  ·simp[h1]
 have fin:CK N im p at_ i true→i.op≠6→i.op≠21→My i.op=true→
   ∃b,(if (i.args.all (IT p.Ab) && preB p i)=true then Bp N im p at_ i else some false)=some b∧(if (My i.op && Le p i && i.args.all (IT p.Ab) && Lj p at_ i)=true then B2 N (Ou im) p at_ i else some false)=some b:=fun⟨m,h1,h2⟩ h6 h21 hop=>by
  rw[h1,h2,other h6 h21,hop]
  cases i.args.all (IT p.Ab) <;> cases Le p i <;> cases Lj p at_ i <;> simp
 by_cases o0:i.op=0
 ·exact fin (Zj H hN o0) (by omega) (by omega) (by rw[o0];rfl)
 by_cases o1:i.op=1
 ·exact fin (Zp H hN o1) (by omega) (by omega) (by rw[o1];rfl)
 by_cases o2:i.op=2
 ·exact fin (Zz H hN o2) (by omega) (by omega) (by rw[o2];rfl)
 by_cases o3:i.op=3
 ·exact fin (ZZ H hN o3) (by omega) (by omega) (by rw[o3];rfl)
 by_cases o4:i.op=4
 ·exact fin (Z7 H hN o4) (by omega) (by omega) (by rw[o4];rfl)
 by_cases o5:i.op=5
 ·exact fin (Z5 H hN o5) (by omega) (by omega) (by rw[o5];rfl)
 by_cases o9:i.op=9
 ·exact fin (Zy H hN o9) (by omega) (by omega) (by rw[o9];rfl)
 by_cases o10:i.op=10
 ·exact fin (YE H hN o10) (by omega) (by omega) (by rw[o10];rfl)
 by_cases o11:i.op=11
 ·exact fin (YQ H hN o11) (by omega) (by omega) (by rw[o11];rfl)
 by_cases o14:i.op=14
 ·exact fin (YP H hN o14) (by omega) (by omega) (by rw[o14];rfl)
 by_cases o15:i.op=15
 ·exact fin (YU H hN o15) (by omega) (by omega) (by rw[o15];rfl)
 by_cases o16:i.op=16
 ·exact fin (Yw H hN o16) (by omega) (by omega) (by rw[o16];rfl)
 by_cases o17:i.op=17
 ·exact fin (X0 H hN o17) (by omega) (by omega) (by rw[o17];rfl)
 by_cases o18:i.op=18
 ·exact fin (YF H hN o18) (by omega) (by omega) (by rw[o18];rfl)
 by_cases o19:i.op=19
 ·exact fin (Yv H hN o19) (by omega) (by omega) (by rw[o19];rfl)
 by_cases o20:i.op=20
 ·exact fin (YG H hN o20) (by omega) (by omega) (by rw[o20];rfl)
 by_cases o22:i.op=22
 ·exact fin (Yk H hN o22) (by omega) (by omega) (by rw[o22];rfl)
 by_cases o23:i.op=23
 ·exact fin (ZA H hN o23) (by omega) (by omega) (by rw[o23];rfl)
 by_cases o24:i.op=24
 ·exact fin (YD H hN o24) (by omega) (by omega) (by rw[o24];rfl)
 by_cases o6:i.op=6
 ·obtain⟨m,h1,h2⟩:=Z1 H hN o6
  rw[h1,h2]
  have hop:My i.op=true:=by rw[o6];rfl
  have e:(preB p i && (decide (0≤i.BX) && decide (i.BX≤p.Ab)))=(Le p i && Lj p at_ i):=by
   unfold preB Le Lj
   have h21:decide (i.op=21)=false:=by rw[o6];rfl
   have h6:decide (i.op=6)=true:=by rw[o6];rfl
   rw[h21,h6]
   by_cases h3:i.jumps.length=0
   ·have:i.jumps=[]:=List.eq_nil_of_length_eq_zero h3
    rw[this]
    cases decide (0≤i.dst) <;> cases decide (i.dst < p.Ab) <;> cases decide (i.dst=0) <;> cases GI i.op <;> cases decide (0≤i.BX) <;> cases decide (i.BX≤p.Ab) <;> simp
   ·simp[h3]
  rw[hop]
  revert e
  cases i.args.all (IT p.Ab) <;> cases preB p i <;> cases Le p i <;> cases Lj p at_ i <;> cases (decide (0≤i.BX) && decide (i.BX≤p.Ab)) <;> cases m <;> simp
 by_cases o21:i.op=21
 ·obtain⟨m,h1,h2⟩:=VF H hN o21
  rw[h1,h2]
  have hop:My i.op=true:=by rw[o21];rfl
  have e:(preB p i && i.jumps.all (GM at_ p.code.length))=(Le p i && Lj p at_ i):=by
   have r1:=H.r1
   unfold preB Le Lj
   have h21:decide (i.op=21)=true:=by rw[o21];rfl
   have h6:decide (i.op=6)=false:=by rw[o21];rfl
   rw[h21,h6]
   by_cases h1:i.BX=0
   ·have h2:(0:Int)≤p.Ab:=by omega
    simp[h1,h2]
   ·simp[h1]
  rw[hop]
  revert e
  cases i.args.all (IT p.Ab) <;> cases preB p i <;> cases Le p i <;> cases Lj p at_ i <;> cases i.jumps.all (GM at_ p.code.length) <;> cases m <;> simp
 have hop:My i.op=false:=by
  unfold My
  by_cases h0:0≤i.op
  ·by_cases h24:i.op≤24
   ·have:i.op=7∨i.op=8∨i.op=12∨i.op=13:=by omega
    rcases this with h | h | h | h <;> simp[h]
   ·simp[h24]
  ·simp[h0]
 have hs:Bp N im p at_ i=some false:=by
  unfold Bp
  simp[o0,o1,o2,o3,o4,o5,o6,o9,o10,o11,o14,o15,o16,o17,o18,o19,o20,o21,o22,o23,o24]
 rw[hop,hs]
 refine⟨false,?_,by simp⟩
 split <;> rfl
end
end RC



namespace RC
open Go
theorem EX {α:Type} (f:α→Nat) {l:List α} {x:α} (h:x∈l):f x≤(l.map f).sum:=by
 induction l with
 | nil=>cases h
 | cons y r ih=>
  rw[List.map_cons,List.sum_cons]
  rcases List.mem_cons.1 h with rfl | h
  ·omega
  ·have:=ih h;omega
theorem XG {c:Bw} (h:cz c≤1048576) {N:Nat} (hN:2000000≤N):JH N c=some c:=by
 unfold cz at h
 unfold JH;rw[Fl h hN];rfl
theorem Wo {l:List Bw} (hl:l.length+(l.map cz).sum≤1048576) {N:Nat} (hN:2000000≤N):IH N l=some l:=by
 unfold IH
 rw[AK,Gu _ _ _ (by omega) (by omega)]
 simp only[Option.bind_some]
 rw[MB (l:=l) (Eg N l) (fun n m=>by rw[Eg,if_neg (by simp[AK])]) (fun n i x m hx hm=>?_) (by omega) (by simp)]
 ·rfl
 ·have hi:=(List.getElem?_eq_some_iff.1 hx).1
  have hz:=EX cz (List.mem_of_getElem? hx)
  obtain⟨y,hy,_⟩:=BS (l:=m) (i:=i) (by omega)
  rw[Eg,if_pos (by simp[AK];omega),Ai hx]
  simp only[Option.bind_some]
  rw[XG (by omega) hN,Ai hy]
  simp only[Option.bind_some]
  rw[ET,Au (by omega) (by omega),show ((i:Int) + 1)=((i+1:Nat):Int) by omega]
theorem We {d:Am} (h:dz d≤1048576) {N:Nat} (hN:2000000≤N):IS N d=some d:=by
 unfold dz at h
 unfold IS;rw[Wo h hN];rfl
theorem VM {l:List Am} (hl:l.length+(l.map dz).sum≤1048576) {N:Nat} (hN:2000000≤N):Hs N l=some l:=by
 unfold Hs
 rw[AK,Gu _ _ _ (by omega) (by omega)]
 simp only[Option.bind_some]
 rw[MB (l:=l) (EF N l) (fun n m=>by rw[EF,if_neg (by simp[AK])]) (fun n i x m hx hm=>?_) (by omega) (by simp)]
 ·rfl
 ·have hi:=(List.getElem?_eq_some_iff.1 hx).1
  have hz:=EX dz (List.mem_of_getElem? hx)
  obtain⟨y,hy,_⟩:=BS (l:=m) (i:=i) (by omega)
  rw[EF,if_pos (by simp[AK];omega),Ai hx]
  simp only[Option.bind_some]
  rw[We (by omega) hN,Ai hy]
  simp only[Option.bind_some]
  rw[ET,Au (by omega) (by omega),show ((i:Int) + 1)=((i+1:Nat):Int) by omega]
theorem Vb {i:Ag} (h:iz i≤1048576) {N:Nat} (hN:2000000≤N):Ho N i=some i:=by
 unfold iz at h
 unfold Ho;rw[Fl (by omega) hN,Fl (by omega) hN];rfl
theorem T7 {l:List Ag} (hl:l.length+(l.map iz).sum≤1048576) {N:Nat} (hN:2000000≤N):G5 N l=some l:=by
 unfold G5
 rw[AK,Gu _ _ _ (by omega) (by omega)]
 simp only[Option.bind_some]
 rw[MB (l:=l) (Dj N l) (fun n m=>by rw[Dj,if_neg (by simp[AK])]) (fun n i x m hx hm=>?_) (by omega) (by simp)]
 ·rfl
 ·have hi:=(List.getElem?_eq_some_iff.1 hx).1
  have hz:=EX iz (List.mem_of_getElem? hx)
  obtain⟨y,hy,_⟩:=BS (l:=m) (i:=i) (by omega)
  rw[Dj,if_pos (by simp[AK];omega),Ai hx]
  simp only[Option.bind_some]
  rw[Vb (by omega) hN,Ai hy]
  simp only[Option.bind_some]
  rw[ET,Au (by omega) (by omega),show ((i:Int) + 1)=((i+1:Nat):Int) by omega]
theorem Vg {p:A0} (h:pz p≤1048576) {N:Nat} (hN:2000000≤N):IF N p=some p:=by
 unfold pz at h
 unfold IF;rw[Fl (by omega) hN,Fl (by omega) hN,T7 (by omega) hN];rfl
theorem VB {l:List A0} (hl:l.length+(l.map pz).sum≤1048576) {N:Nat} (hN:2000000≤N):Hb N l=some l:=by
 unfold Hb
 rw[AK,Gu _ _ _ (by omega) (by omega)]
 simp only[Option.bind_some]
 rw[MB (l:=l) (EE N l) (fun n m=>by rw[EE,if_neg (by simp[AK])]) (fun n i x m hx hm=>?_) (by omega) (by simp)]
 ·rfl
 ·have hi:=(List.getElem?_eq_some_iff.1 hx).1
  have hz:=EX pz (List.mem_of_getElem? hx)
  obtain⟨y,hy,_⟩:=BS (l:=m) (i:=i) (by omega)
  rw[EE,if_pos (by simp[AK];omega),Ai hx]
  simp only[Option.bind_some]
  rw[Vg (by omega) hN,Ai hy]
  simp only[Option.bind_some]
  rw[ET,Au (by omega) (by omega),show ((i:Int) + 1)=((i+1:Nat):Int) by omega]
theorem VI {x:At} (h:Lo x≤1048576) {N:Nat} (hN:2000000≤N):FH N x=some x:=by
 unfold Lo at h
 unfold FH;rw[VM (by omega) hN,VB (by omega) hN];rfl
end RC



namespace RC
open Go
theorem XP {c:Bw} (h:cz c≤1048576) {N:Nat} (hN:2000000≤N):JU N c c=some true:=by
 unfold cz at h
 unfold JU;rw[FP h hN];rfl
theorem Wi {l:List Bw} (hl:l.length+(l.map cz).sum≤1048576) {N:Nat} (hN:2000000≤N):IZ N l l=some true:=by
 unfold IZ
 have L:=Bn (l:=l) (Ee N l l) (fun _ _=>true) (fun n=>by rw[Ee,if_neg (by simp[AK])]) (fun n i x hx=>?_) (by omega:l.length < N)
 ·rw[CW (p:=fun _=>true)] at L
  simp[L,Sh.cont]
 ·have hi:=(List.getElem?_eq_some_iff.1 hx).1
  have hz:=EX cz (List.mem_of_getElem? hx)
  rw[Ee,if_pos (by simp[AK];omega),Ai hx]
  simp only[Option.bind_some]
  rw[XP (by omega) hN,Au (by omega) (by omega),show ((i:Int) + 1)=((i+1:Nat):Int) by omega]
  rfl
theorem Vu {d:Am} (h:dz d≤1048576) {N:Nat} (hN:2000000≤N):Ie N d d=some true:=by
 unfold dz at h
 unfold Ie;rw[Wi h hN];simp
theorem Uj {l:List Am} (hl:l.length+(l.map dz).sum≤1048576) {N:Nat} (hN:2000000≤N):Hk N l l=some true:=by
 unfold Hk
 have L:=Bn (l:=l) (EG N l l) (fun _ _=>true) (fun n=>by rw[EG,if_neg (by simp[AK])]) (fun n i x hx=>?_) (by omega:l.length < N)
 ·rw[CW (p:=fun _=>true)] at L
  simp[L,Sh.cont]
 ·have hi:=(List.getElem?_eq_some_iff.1 hx).1
  have hz:=EX dz (List.mem_of_getElem? hx)
  rw[EG,if_pos (by simp[AK];omega),Ai hx]
  simp only[Option.bind_some]
  rw[Vu (by omega) hN,Au (by omega) (by omega),show ((i:Int) + 1)=((i+1:Nat):Int) by omega]
  rfl
theorem VZ {i:Ag} (h:iz i≤1048576) {N:Nat} (hN:2000000≤N):HY N i i=some true:=by
 unfold iz at h
 unfold HY;rw[FP (by omega) hN,FP (by omega) hN];simp
theorem Ti {l:List Ag} (hl:l.length+(l.map iz).sum≤1048576) {N:Nat} (hN:2000000≤N):G0 N l l=some true:=by
 unfold G0
 have L:=Bn (l:=l) (Dp N l l) (fun _ _=>true) (fun n=>by rw[Dp,if_neg (by simp[AK])]) (fun n i x hx=>?_) (by omega:l.length < N)
 ·rw[CW (p:=fun _=>true)] at L
  simp[L,Sh.cont]
 ·have hi:=(List.getElem?_eq_some_iff.1 hx).1
  have hz:=EX iz (List.mem_of_getElem? hx)
  rw[Dp,if_pos (by simp[AK];omega),Ai hx]
  simp only[Option.bind_some]
  rw[VZ (by omega) hN,Au (by omega) (by omega),show ((i:Int) + 1)=((i+1:Nat):Int) by omega]
  rfl
theorem Vn {p:A0} (h:pz p≤1048576) {N:Nat} (hN:2000000≤N):IW N p p=some true:=by
 unfold pz at h
 unfold IW;rw[FP (by omega) hN,FP (by omega) hN,Ti (by omega) hN];simp
theorem Un {l:List A0} (hl:l.length+(l.map pz).sum≤1048576) {N:Nat} (hN:2000000≤N):HV N l l=some true:=by
 unfold HV
 have L:=Bn (l:=l) (EJ N l l) (fun _ _=>true) (fun n=>by rw[EJ,if_neg (by simp[AK])]) (fun n i x hx=>?_) (by omega:l.length < N)
 ·rw[CW (p:=fun _=>true)] at L
  simp[L,Sh.cont]
 ·have hi:=(List.getElem?_eq_some_iff.1 hx).1
  have hz:=EX pz (List.mem_of_getElem? hx)
  rw[EJ,if_pos (by simp[AK];omega),Ai hx]
  simp only[Option.bind_some]
  rw[Vn (by omega) hN,Au (by omega) (by omega),show ((i:Int) + 1)=((i+1:Nat):Int) by omega]
  rfl
theorem Ug {x:At} (h:Lo x≤1048576) {N:Nat} (hN:2000000≤N):Hi N x x=some true:=by
 unfold Lo at h
 unfold Hi;rw[Uj (by omega) hN,Un (by omega) hN];rfl
end RC



namespace RC
open Go
def Gr (p:A0):Bool:=decide (1≤p.Ab) && (decide ((p.params.length:Int)≤p.Ab) && (decide (p.Ab≤2000) && (decide (1≤p.code.length) && decide (p.code.length≤2000))))
def RL (p:A0):Bool:=match p.code[p.code.length - 1]? with | some c=>decide (c.op=23) || decide (c.op=24) | none=>false
def HP (N:Nat) (im:At) (p:A0) (at_:Nat) (_:Ag):Bool:=(Em N im p at_).getD false
def De (p:A0):Bool:=Bk (Gt p.params p.BH) 0 p.BH
structure Ej (im:At):Prop where
 decls:Mn im.decls
 nn:nc im.decls≤1048576
 pl:im.procs.length≤1048576
 pp :∀q∈im.procs,q.params.length≤1048576
 ll :∀q∈im.procs,q.BH.length≤1048576
 cl :∀q∈im.procs,q.code.length≤1048576
 ar :∀q∈im.procs,∀i∈q.code,i.args.length≤1048576∧i.jumps.length≤1048576
theorem max_eq (l:List Int) :∃m:Int,(if Sh.len l > 1 then Sh.len l else 1)=m∧∀r:Int,decide (m≤r)=(decide (1≤r) && decide ((l.length:Int)≤r)):=by
 refine⟨_,rfl,fun r=>?_⟩
 rw[AK]
 by_cases h:(l.length:Int) > 1
 ·rw[if_pos h]
  by_cases h2:(l.length:Int)≤r
  ·have:(1:Int)≤r:=by omega
   simp[h2,this]
  ·simp[h2]
 ·rw[if_neg h]
  by_cases h2:(1:Int)≤r
  ·have:(l.length:Int)≤r:=by omega
   simp[h2,this]
  ·simp[h2]
theorem Kk {im:At} (S:Ej im) {p:A0} (hp:p∈im.procs) (hs:Gr p=true) {at_:Nat} {i:Ag} (hi:p.code[at_]?=some i):It im p at_ i:=by
 unfold Gr at hs
 simp only[Bool.and_eq_true,decide_eq_true_eq] at hs
 obtain⟨a1,a2,a3,a4,a5⟩:=hs
 have ha:=S.ar p hp i (List.mem_of_getElem? hi)
 exact⟨hi,a1,a3,a5,ha.1,ha.2,S.decls.len,S.nn,S.pl,S.pp⟩
theorem OL {p:A0} (hs:Gr p=true) :∃c,p.code[p.code.length - 1]?=some c∧Sh.get p.code (Sh.w ((p.code.length:Int) - 1))=some c∧RL p=(decide (c.op=23) || decide (c.op=24)):=by
 unfold Gr at hs
 simp only[Bool.and_eq_true,decide_eq_true_eq] at hs
 obtain⟨a1,a2,a3,a4,a5⟩:=hs
 obtain⟨c,hc,_⟩:=BS (l:=p.code) (i:=p.code.length - 1) (by omega)
 refine⟨c,hc,?_,?_⟩
 ·rw[Au (by omega) (by omega),show ((p.code.length:Int) - 1)=((p.code.length - 1:Nat):Int) by omega]
  exact Ai hc
 ·unfold RL;rw[hc]
theorem Nl {im:At} (S:Ej im) {p:A0} (hp:p∈im.procs) {N:Nat} (hN:2000000≤N) :
  Ge N im p=some (De p && (Gr p && (RL p && Bk (HP N im p) 0 p.code))):=by
 have b1:=S.pp p hp
 have b2:=S.ll p hp
 have b3:=S.cl p hp
 unfold Ge
 rw[Nk b1 b2 hN]
 obtain⟨m,hm,hmr⟩:=max_eq p.params
 rw[hm]
 simp only[Option.bind_some,A6,AK,hmr]
 have el:Bk (Gt p.params p.BH) 0 p.BH=De p:=rfl
 rw[el]
 cases hl:De p with
 | false=>simp
 | true=>
  have e1:(decide ((1:Int)≤(p.code.length:Int)) && decide ((p.code.length:Int)≤2000))=(decide (1≤p.code.length) && decide (p.code.length≤2000)):=by
   congr 1 <;> exact decide_eq_decide.2 (by omega)
  rw[e1]
  by_cases hs:Gr p=true
  ·have hs':=hs
   unfold Gr at hs
   simp only[Bool.and_eq_true,decide_eq_true_eq] at hs
   obtain⟨a1,a2,a3,a4,a5⟩:=hs
   obtain⟨c,hc,hg,hla⟩:=OL hs'
   rw[Bn (l:=p.code) (DJ N im p) (HP N im p) (fun n=>by rw[DJ,if_neg (by simp[AK])]) (fun n i x hx=>?_) (by omega),Bz,hg,hla,hs']
   ·simp only[a1,a2,a3,a4,a5,decide_true,Bool.and_self,Bool.not_true,Option.bind_some,Bool.false_eq_true,if_false]
    cases Bk (HP N im p) 0 p.code <;> by_cases h23:c.op=23 <;> by_cases h24:c.op=24 <;> simp[h23,h24]
   ·have hi:=(List.getElem?_eq_some_iff.1 hx).1
    obtain⟨b,g1,g2⟩:=KO (Kk S hp hs' hx) hN
    rw[DJ,if_pos (by simp[AK];omega),g1]
    simp only[Option.bind_some]
    have:HP N im p i x=b:=by unfold HP;rw[g1];rfl
    rw[this,Au (by omega) (by omega)]
    cases b <;> simp
  ·have hs':Gr p=false:=by cases h:Gr p with | true=>exact absurd h hs | false=>rfl
   rw[hs']
   unfold Gr at hs'
   revert hs'
   cases decide (1≤p.Ab) <;> cases decide ((p.params.length:Int)≤p.Ab) <;> cases decide (p.Ab≤2000) <;> cases decide (1≤p.code.length) <;> cases decide (p.code.length≤2000) <;> simp
def FT (N:Nat) (im:At) (p:A0):Bool:=Gr p && (RL p && Bk (HP N im p) 0 p.code)
theorem RZ {im:At} (S:Ej im) {b:Bool} {N:Nat} (hN:2000000≤N) :
  CT N im (⟨im.decls,im.procs.map KT⟩,b) N 0=some (if (im.procs.all (FT N im))=true then .inr () else .inl false):=by
 have hpl:=S.pl
 rw[← CW _ 0]
 refine Bn (l:=im.procs) (CT N im (⟨im.decls,im.procs.map KT⟩,b)) (fun _ p=>FT N im p) (fun n=>by rw[CT,if_neg (by simp[AK])]) (fun n i p hp=>?_) (by omega)
 have hi:=(List.getElem?_eq_some_iff.1 hp).1
 have hm:=List.mem_of_getElem? hp
 rw[CT,if_pos (by simp[AK];omega),Ai hp]
 obtain⟨m,hmx,hmr⟩:=max_eq p.params
 have hmr:=hmr p.Ab
 simp only[Option.bind_some]
 rw[hmx]
 simp only[AK]
 have e0:(Sh.w ((i:Int) + 1))=((i+1:Nat):Int):=by rw[Au (by omega) (by omega)];omega
 rw[e0]
 by_cases hs:Gr p=true
 ·have hs':=hs
  unfold Gr at hs
  simp only[Bool.and_eq_true,decide_eq_true_eq] at hs
  obtain⟨a1,a2,a3,a4,a5⟩:=hs
  obtain⟨c,hc,hg,hla⟩:=OL hs'
  have m0:¬ p.Ab < m:=by
   rw[decide_eq_true a1,decide_eq_true a2] at hmr
   have:=of_decide_eq_true hmr
   omega
  have m1:¬ 2000 < p.Ab:=by omega
  have m2:¬ (p.code.length:Int) < 1:=by omega
  have m3:¬ 2000 < (p.code.length:Int):=by omega
  rw[hg,Bn (l:=p.code) (C3 N p (⟨im.decls,im.procs.map KT⟩,b)) (HP N im p) (fun n=>by rw[C3,if_neg (by simp[AK])]) (fun n i x hx=>?_) (by omega),Bz]
  ·simp only[m0,m1,m2,m3,decide_false,Bool.false_eq_true,if_false,Option.bind_some]
   unfold FT
   rw[hs',hla]
   cases Bk (HP N im p) 0 p.code <;> by_cases h23:c.op=23 <;> by_cases h24:c.op=24 <;> simp[h23,h24]
  ·have hi:=(List.getElem?_eq_some_iff.1 hx).1
   obtain⟨b,g1,g2⟩:=KO (Kk S hm hs' hx) hN
   rw[C3,if_pos (by simp[AK];omega),Ai hx]
   simp only[Option.bind_some]
   unfold Ou at g2
   rw[g2]
   have:HP N im p i x=b:=by unfold HP;rw[g1];rfl
   simp only[Option.bind_some]
   rw[this,Au (by omega) (by omega)]
   cases b <;> simp
 ·have hs':Gr p=false:=by cases h:Gr p with | true=>exact absurd h hs | false=>rfl
  have hf:FT N im p=false:=by unfold FT;rw[hs'];rfl
  rw[hf]
  simp only[Bool.false_eq_true,if_false]
  by_cases m0:p.Ab < m
  ·simp only[m0,decide_true,if_true,Option.bind_some]
  ·by_cases m1:2000 < p.Ab
   ·simp only[m0,m1,decide_true,decide_false,Bool.false_eq_true,if_true,if_false,Option.bind_some]
   ·by_cases m2:(p.code.length:Int) < 1
    ·simp only[m0,m1,m2,decide_true,decide_false,Bool.false_eq_true,if_true,if_false,Option.bind_some]
    ·by_cases m3:2000 < (p.code.length:Int)
     ·simp only[m0,m1,m2,m3,decide_true,decide_false,Bool.false_eq_true,if_true,if_false,Option.bind_some]
     ·exfalso
      refine hs ?_
      unfold Gr
      simp only[Bool.and_eq_true,decide_eq_true_eq]
      rw[decide_eq_true (by omega:m≤p.Ab)] at hmr
      have hmr:=hmr.symm
      simp only[Bool.and_eq_true,decide_eq_true_eq] at hmr
      omega
theorem MO {im:At} (S:Ej im) {N:Nat} (hN:2000000≤N) :
  CN N im N 0=some (if (im.procs.all fun p=>De p && FT N im p)=true then .inr () else .inl false):=by
 have hpl:=S.pl
 rw[← CW _ 0]
 refine Bn (l:=im.procs) (CN N im) (fun _ p=>De p && FT N im p) (fun n=>by rw[CN,if_neg (by simp[AK])]) (fun n i p hp=>?_) (by omega)
 have hi:=(List.getElem?_eq_some_iff.1 hp).1
 rw[CN,if_pos (by simp[AK];omega),Ai hp]
 simp only[Option.bind_some]
 rw[Nl S (List.mem_of_getElem? hp) hN]
 simp only[Option.bind_some]
 have e0:(Sh.w ((i:Int) + 1))=((i+1:Nat):Int):=by rw[Au (by omega) (by omega)];omega
 have e1:(De p && (Gr p && (RL p && Bk (HP N im p) 0 p.code)))=(De p && FT N im p):=rfl
 rw[e0,e1]
 cases (De p && FT N im p) <;> simp
theorem Pr {im:At} (S:Ej im) {N:Nat} (hN:2000000≤N) :∃b,I3 N im=some b∧F3 N im=some b:=by
 have hpl:=S.pl
 refine⟨decide (im.procs.length≤4) && ((LP im.decls (im.procs.map fun p=>(p.params,p.result)) && im.procs.all De) && im.procs.all (FT N im)),?_,?_⟩
 ·unfold I3 DY
  rw[JN hpl hN]
  simp only[Option.bind_some,AK]
  rw[Jy (p:=⟨im.decls,im.procs.map Ty⟩) S.decls (by simpa using hpl) (fun f hf=>by obtain⟨q,hq,rfl⟩:=List.mem_map.1 hf;exact S.pp q hq) hN]
  rw[MO S hN,Bz]
  have e2:(im.procs.all fun p=>De p && FT N im p)=(im.procs.all De && im.procs.all (FT N im)):=by
   induction im.procs with
   | nil=>rfl
   | cons x r ih=>simp only[List.all_cons,ih];cases De x <;> cases FT N im x <;> cases r.all De <;> rfl
  have e3:(List.map (fun f:Ig=>(f.params,f.result)) (List.map Ty im.procs))=im.procs.map fun p=>(p.params,p.result):=by
   rw[List.map_map];rfl
  rw[e2,e3]
  by_cases h4:im.procs.length≤4
  ·have h4':¬ 4 < (im.procs.length:Int):=by omega
   simp only[h4,h4',decide_true,decide_false,Bool.false_eq_true,if_false,Option.bind_some]
   cases LP im.decls (im.procs.map fun p=>(p.params,p.result)) <;> cases im.procs.all De <;> cases im.procs.all (FT N im) <;> simp
  ·have h4':4 < (im.procs.length:Int):=by omega
   simp[h4,h4']
 ·unfold F3 Hu
  rw[AK]
  by_cases h4:im.procs.length≤4
  ·have h4':¬ 4 < (im.procs.length:Int):=by omega
   simp only[h4,h4',decide_true,decide_false,Bool.false_eq_true,if_false]
   rw[QZ hpl hN]
   simp only[Option.bind_some]
   rw[OE S.decls (by simpa using hpl) (fun f hf=>by obtain⟨q,hq,rfl⟩:=List.mem_map.1 hf;exact⟨S.pp q hq,S.ll q hq⟩) hN]
   simp only[Option.bind_some]
   rw[RZ S hN,Bz]
   have e3:(List.map (fun f:Bt=>(f.params,f.result)) (List.map KT im.procs))=im.procs.map fun p=>(p.params,p.result):=by
    rw[List.map_map];rfl
   have e4:((List.map KT im.procs).all fun f=>Bk (Gt f.params f.BH) 0 f.BH)=im.procs.all De:=by
    rw[List.all_map];rfl
   rw[e3,e4]
   cases LP im.decls (im.procs.map fun p=>(p.params,p.result)) <;> cases im.procs.all De <;> cases im.procs.all (FT N im) <;> simp
  ·have h4':4 < (im.procs.length:Int):=by omega
   simp[h4,h4']
theorem cA (D:List Am):nc D≤(D.map dz).sum:=by
 unfold nc
 induction D with
 | nil=>exact Nat.le_refl _
 | cons d r ih=>simp only[List.map_cons,List.sum_cons];unfold dz at *;omega
theorem Xq {im:At} (h:Lo im≤1048576):Ej im:=by
 unfold Lo at h
 have hn:=cA im.decls
 have hd :∀d∈im.decls,dz d≤1048576:=fun d hd=>by have:=EX dz hd;omega
 have hp :∀p∈im.procs,pz p≤1048576:=fun p hp=>by have:=EX pz hp;omega
 refine⟨⟨by omega,fun d hm=>?_,fun d hm c hc=>?_⟩,by omega,by omega,fun p hm=>?_,fun p hm=>?_,fun p hm=>?_,fun p hm i hi=>?_⟩
 ·have:=hd d hm;unfold dz at this;omega
 ·have:=hd d hm;unfold dz at this
  have:=EX cz hc
  show cz c≤_
  omega
 ·have:=hp p hm;unfold pz at this;omega
 ·have:=hp p hm;unfold pz at this;omega
 ·have:=hp p hm;unfold pz at this;omega
 ·have:=hp p hm;unfold pz at this
  have:=EX iz hi
  have e:iz i=i.args.length+i.jumps.length:=rfl
  omega
end RC

