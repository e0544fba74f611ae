import Derived.Test.YthapbpfhdnmboaaGEncToEncB
import Derived.Test.YthapbpfhdnmboaaGHADefsToLZDefs
import Derived.Test.YthapbpfhdnmboaaSufE

namespace RC
open Go
theorem A4 {n:Int} (h1:-9223372036854775808≤n) (h2:n≤9223372036854775807):Sh.w n=n:=Abs.wrap_i64 h1 h2
theorem Ae {α:Type} (l:List α):Sh.len l=(l.length:Int):=rfl
theorem KM {α:Type} (l:List α) (i:Nat):Sh.get l (i:Int)=l[i]?:=by
 unfold Sh.get;rw[if_pos (Int.natCast_nonneg i)];simp
theorem BB {α:Type} {l:List α} {i:Nat} {x:α} (h:l[i]?=some x):Sh.get l (i:Int)=some x:=by rw[KM,h]
theorem Kh {α:Type} {l:List α} {j:Int} (h0:0≤j) (h1:j < l.length) :∃x,Sh.get l j=some x∧l[j.toNat]?=some x:=by
 have h:l[j.toNat]?=some (l[j.toNat]'(by omega)):=List.getElem?_eq_getElem (by omega)
 exact⟨_,by unfold Sh.get;rw[if_pos h0,h],h⟩
theorem DJ {α:Type} {l:List α} {j:Int} (h0:0≤j):Sh.get l j=l[j.toNat]?:=by unfold Sh.get;rw[if_pos h0]
theorem F9 {α:Type} (l:List α) (i:Nat) (x:α):Sh.put l (i:Int) x=l.set i x:=by simp[Sh.put]
theorem Mj {α:Type} (x:α) (n b:Nat) (h:n * b≤281474976710656) (h2:n≤9223372036854775807):Sh.mk x (n:Int) b=some (List.replicate n x):=by
 unfold Sh.mk
 rw[if_pos ⟨by omega,by rw[← Int.natCast_mul];omega,by omega⟩];simp
theorem ES {α:Type} (l m:List α) (b:Nat) (h:(l.length+m.length) * b≤140737488355328) (h2:l.length+m.length≤9223372036854775807):Sh.app l m b=some (l ++ m):=by
 unfold Sh.app;rw[if_pos ⟨h,h2⟩]
theorem Kf {α:Type} {l:List α} {j:Nat} (h:j≤l.length):Sh.hi l (j:Int)=some (l.take j):=by
 unfold Sh.hi;rw[if_pos ⟨by omega,by omega⟩];simp
theorem BG (len:Nat) (P:Nat→Nat→Prop) (h0 :∀n,P (n+1) len) (hs :∀n i,i < len→P n (i+1)→P (n+1) i) :∀{N i:Nat},i≤len→len - i < N→P N i:=by
 intro N i hi hN
 obtain⟨k,hk⟩ :∃k,len - i=k:=⟨_,rfl⟩
 induction k generalizing N i with
 | zero=>
  obtain⟨n,rfl⟩ :∃n,N=n+1:=⟨N - 1,by omega⟩
  have:i=len:=by omega
  subst this;exact h0 n
 | succ k ih=>
  obtain⟨n,rfl⟩ :∃n,N=n+1:=⟨N - 1,by omega⟩
  exact hs n i (by omega) (ih (by omega) (by omega) (by omega))
theorem B6 {α:Type} {l:List α} {i:Nat} (h:i < l.length) :∃x,l[i]?=some x∧x∈l:=⟨l[i],List.getElem?_eq_getElem h,List.getElem_mem h⟩
theorem Fm {α:Type} {l:List α} {j:Nat} {x:α} (h:l[j]?=some x):l.take (j+1)=l.take j ++ [x]:=by rw[List.take_add_one,h];rfl
theorem drop_cons {α:Type} {l:List α} {j:Nat} {x:α} (h:l[j]?=some x):l.drop j=x :: l.drop (j+1):=by
 obtain⟨hj,rfl⟩:=List.getElem?_eq_some_iff.1 h
 exact List.drop_eq_getElem_cons hj
def CT (h:List Cell):Nat:=(h.map fun c=>c.fields.length).sum
def Bc (h:List Cell):Nat:=h.length+CT h
structure Hp (h:List Cell):Prop where
 size:Bc h≤1048576
 cells :∀c∈h,I2 c
theorem Pq {h:List Cell} {c:Cell} (hc:c∈h):c.fields.length≤CT h:=by
 induction h with
 | nil=>cases hc
 | cons d h ih=>
  simp only[CT,List.map_cons,List.sum_cons] at ih ⊢
  rcases List.mem_cons.1 hc with rfl | hc
  ·omega
  ·have:=ih hc;omega
theorem Hp.len {h:List Cell} (H:Hp h):h.length≤1048576:=by have:=H.size;unfold Bc at this;omega
theorem Hp.HB {h:List Cell} (H:Hp h) {c:Cell} (hc:c∈h):c.fields.length≤1048576:=by have:=H.size;have:=Pq hc;unfold Bc at *;omega
theorem EP (a b:List Cell):CT (a ++ b)=CT a+CT b:=by simp[CT]
theorem IH (h:List Cell) (i:Nat):CT (h.drop i)≤CT h:=by
 have:=EP (h.take i) (h.drop i)
 rw[List.take_append_drop] at this;omega
end RC


namespace RC
open Go
end RC


namespace RC
open Go
def Cp (h:List Cell) (w:Int):Bool:=decide (1000≤w) && (match h[(w - 1000).toNat]? with | some c=>decide (0 < c.count) | none=>false)
def Hl (w:Int):Bool:=decide (-999≤w) && decide (w≤999)
def B9 (h:List Cell) (w:Int):Bool:=Cp h w || Hl w
theorem KU {h:List Cell} {w:Int} {c:Cell} (h1:1000≤w) (hc:h[(w - 1000).toNat]?=some c):Cp h w=decide (0 < c.count):=by simp[Cp,h1,hc]
theorem Kp {h:List Cell} {w:Int} (h2:¬ w - 1000 < h.length):Cp h w=false:=by
 unfold Cp
 rw[List.getElem?_eq_none (by omega)];simp
theorem Ei {h:List Cell} {w:Int} (h1:¬ 1000≤w):Cp h w=false:=by simp[Cp,h1]
theorem ED {h:List Cell} {w:Int} (hl:Cp h w=true) :∃(i:Nat) (c:Cell),w=1000+(i:Int)∧(w - 1000).toNat=i∧i < h.length∧h[i]?=some c∧0 < c.count:=by
 unfold Cp at hl
 simp only[Bool.and_eq_true,decide_eq_true_eq] at hl
 obtain⟨h1,h2⟩:=hl
 split at h2
 ·rename_i c hc
  exact⟨(w - 1000).toNat,c,by omega,rfl,(List.getElem?_eq_some_iff.1 hc).1,hc,by simpa using h2⟩
 ·cases h2
theorem GQ (a b c:Int):Cl a b c=some (decide (b≤a) && decide (a≤c)):=by
 unfold Cl
 by_cases h:b≤a <;> simp[h]
theorem LP {h:List Cell} {w:Int} (hl:h.length≤1048576) (hw:Dz w):EN h w=some (Cp h w):=by
 obtain⟨w1,w2⟩:=hw
 unfold EN BI
 rw[GQ,Ae,A4 (n:=(h.length:Int) - 1) (by omega) (by omega)]
 by_cases h1:-9223372036854775808≤w - 1000
 ·rw[A4 h1 (by omega)]
  by_cases h2:1000≤w
  ·by_cases h3:w - 1000 < h.length
   ·obtain⟨c,hc,hc2⟩:=Kh (l:=h) (j:=w - 1000) (by omega) h3
    have e:(decide (0≤w - 1000) && decide (w - 1000≤(h.length:Int) - 1))=true:=by
     simp;omega
    simp only[Option.bind_some,e,h2,hc,decide_true,if_true,KU h2 hc2]
   ·have e:(decide (0≤w - 1000) && decide (w - 1000≤(h.length:Int) - 1))=false:=by
     simp;omega
    simp only[Option.bind_some,e,Kp h3];simp
  ·have e:(decide (0≤w - 1000) && decide (w - 1000≤(h.length:Int) - 1))=false:=by
    simp;omega
   simp only[Option.bind_some,e,Ei h2];simp
 ·have e0:Sh.w (w - 1000)=w - 1000+18446744073709551616:=Abs.PY (by omega) (by omega)
  have e:(decide (0≤Sh.w (w - 1000)) && decide (Sh.w (w - 1000)≤(h.length:Int) - 1))=false:=by
   rw[e0];simp;omega
  simp only[Option.bind_some,e,Ei (h:=h) (w:=w) (by omega)];simp
theorem G1 {h:List Cell} {w:Int} (hl:h.length≤1048576) (hw:Dz w):DM h w=some (B9 h w):=by
 unfold DM
 rw[GQ,LP hl hw]
 unfold B9 Hl
 by_cases h1:-999≤w <;> by_cases h2:w≤999 <;> simp[h1,h2]
theorem F5 {h:List Cell} {w:Int} (hl:h.length≤1048576) (hw:Dz w):C1 h w=some (Sh.w (w - 1000),Cp h w):=by
 obtain⟨w1,w2⟩:=hw
 unfold C1
 by_cases h2:1000≤w
 ·rw[A4 (n:=w - 1000) (by omega) (by omega),Ae]
  by_cases h3:w - 1000 < h.length
  ·obtain⟨c,hc,hc2⟩:=Kh (l:=h) (j:=w - 1000) (by omega) h3
   simp[h2,h3,hc,KU h2 hc2]
  ·simp[h2,h3,Kp h3]
 ·simp[h2,Ei h2]
theorem PU (w:Int):FJ w=some (Hl w):=by
 unfold FJ Hl
 by_cases h:-999≤w <;> simp[h]
theorem IB {h:List Cell} {w:Int} (hl:h.length≤1048576) (hw:Dz w):DF h w=some (B9 h w):=by
 unfold DF B9
 rw[F5 hl hw,PU]
 cases h1:Cp h w <;> simp[h1]
def Fw (l:List Int):Bool:=l.all fun w=>decide (w=0)
def F4 (h:List Cell) (c:Cell):Bool:=
 !(decide (c.count < -1) || decide (c.tag < 0) || decide (99 < c.tag) || decide (3 < (c.fields.length:Int))) &&
 !((decide (c.count < 1) && !decide (c.tag=0)) || (decide (c.count=0) && decide (0 < (c.fields.length:Int)))) &&
 c.fields.all fun w=>B9 h w && !(decide (c.count < 0) && !decide (w=0))
def E0 (h:List Cell) (c:Cell):Bool:=
 !(decide (3 < (c.fields.length:Int)) || !(decide (-1≤c.count) && decide (c.count≤999999))) &&
 if c.count < 1 then decide (c.tag=0) && Fw c.fields && (decide (c.count < 0) || decide ((c.fields.length:Int)=0)) else (c.fields.all fun w=>B9 h w) && (decide (0≤c.tag) && decide (c.tag≤99))
theorem Dt {α:Type} {p:α→Bool} {l:List α} {i:Nat} {x:α} (h:l[i]?=some x):(l.drop i).all p=(p x && (l.drop (i+1)).all p):=by rw[drop_cons h];rfl
theorem Kl {l:List Int} (hl:l.length≤1048576) {N i:Nat} (hi:i≤l.length) (hN:l.length - i < N):CB l N i=some (if Fw (l.drop i) then Sum.inr () else Sum.inl false):=by
 refine BG l.length (fun N i=>CB l N i=some (if Fw (l.drop i) then Sum.inr () else Sum.inl false)) ?_ ?_ hi hN
 ·intro n
  rw[CB,if_neg (by simp[Ae])];simp[Fw]
 ·intro n i hi ih
  obtain⟨x,hx,_⟩:=B6 hi
  rw[CB,if_pos (by simp[Ae];omega),BB hx]
  simp only[Option.bind_some]
  rw[A4 (by omega) (by omega),show ((i:Int) + 1)=((i+1:Nat):Int) from rfl,ih]
  unfold Fw
  rw[Dt hx]
  by_cases h:x=0 <;> simp[h]
theorem NY {l:List Int} (hl:l.length≤1048576) {N:Nat} (hN:2000000≤N):EY N l=some (Fw l):=by
 unfold EY
 have:=Kl hl (Nat.zero_le _) (by omega:l.length - 0 < N)
 rw[show ((0:Nat):Int)=0 from rfl,List.drop_zero] at this
 rw[this]
 cases Fw l <;> simp
theorem Jd {h:List Cell} {c:Cell} (hl:h.length≤1048576) (hf:c.fields.length≤1048576) (hF :∀x∈c.fields,Dz x) {N i:Nat} (hi:i≤c.fields.length) (hN:c.fields.length - i < N) :
  Bs h c N i=some (if (c.fields.drop i).all (fun w=>B9 h w) then Sum.inr () else Sum.inl false):=by
 refine BG c.fields.length (fun N i=>Bs h c N i=some (if (c.fields.drop i).all (fun w=>B9 h w) then Sum.inr () else Sum.inl false)) ?_ ?_ hi hN
 ·intro n
  rw[Bs,if_neg (by simp[Ae])];simp
 ·intro n i hi ih
  obtain⟨x,hx,hxm⟩:=B6 hi
  rw[Bs,if_pos (by simp[Ae];omega),BB hx]
  simp only[Option.bind_some]
  rw[G1 hl (hF x hxm)]
  simp only[Option.bind_some]
  rw[A4 (by omega) (by omega),show ((i:Int) + 1)=((i+1:Nat):Int) from rfl,ih,Dt hx]
  cases B9 h x <;> simp
theorem Ll {h:List Cell} {c:Cell} (hl:h.length≤1048576) (hf:c.fields.length≤1048576) (hF :∀x∈c.fields,Dz x) {N:Nat} (hN:2000000≤N):Dp N h c=some (E0 h c):=by
 unfold Dp E0
 simp only[GQ,Ae,NY hf hN]
 by_cases h1:3 < (c.fields.length:Int)
 ·simp[h1]
 ·by_cases h2:-1≤c.count
  ·by_cases h3:c.count≤999999
   ·by_cases h4:c.count < 1
    ·by_cases h5:c.tag=0
     ·cases h6:Fw c.fields
      ·simp[h1,h2,h3,h4,h5]
      ·by_cases h7:c.count < 0 <;> simp[h1,h2,h3,h4,h5,h7]
     ·simp[h1,h2,h3,h4,h5]
    ·have:=Jd hl hf hF (Nat.zero_le _) (by omega:c.fields.length - 0 < N)
     rw[show ((0:Nat):Int)=0 from rfl,List.drop_zero] at this
     simp only[h1,h2,h3,h4,this]
     cases c.fields.all (fun w=>B9 h w) <;> simp
   ·simp[h1,h2,h3]
  ·simp[h1,h2]
def Mr (h:List Cell) (c:Cell) (w:Int):Bool:=B9 h w && !(decide (c.count < 0) && !decide (w=0))
theorem Jc {h:List Cell} {c:Cell} (hl:h.length≤1048576) (hf:c.fields.length≤1048576) (hF :∀x∈c.fields,Dz x) {N i:Nat} (hi:i≤c.fields.length) (hN:c.fields.length - i < N) :
  Bp h c N i=some (if (c.fields.drop i).all (Mr h c) then Sum.inr () else Sum.inl false):=by
 refine BG c.fields.length (fun N i=>Bp h c N i=some (if (c.fields.drop i).all (Mr h c) then Sum.inr () else Sum.inl false)) ?_ ?_ hi hN
 ·intro n
  rw[Bp,if_neg (by simp[Ae])];simp
 ·intro n i hi ih
  obtain⟨x,hx,hxm⟩:=B6 hi
  rw[Bp,if_pos (by simp[Ae];omega),BB hx]
  simp only[Option.bind_some]
  rw[IB hl (hF x hxm)]
  simp only[Option.bind_some]
  rw[A4 (by omega) (by omega),show ((i:Int) + 1)=((i+1:Nat):Int) from rfl,ih,Dt hx]
  unfold Mr
  cases B9 h x
  ·simp
  ·by_cases h1:c.count < 0 <;> by_cases h2:x=0 <;> simp[h1,h2]
theorem Lm {h:List Cell} {c:Cell} (hl:h.length≤1048576) (hf:c.fields.length≤1048576) (hF :∀x∈c.fields,Dz x) {N:Nat} (hN:2000000≤N):Dl N h c=some (F4 h c):=by
 have hc:F4 h c=(!(decide (c.count < -1) || decide (c.tag < 0) || decide (99 < c.tag) || decide (3 < (c.fields.length:Int))) &&
   !((decide (c.count < 1) && !decide (c.tag=0)) || (decide (c.count=0) && decide (0 < (c.fields.length:Int)))) && c.fields.all (Mr h c)):=rfl
 rw[hc]
 unfold Dl
 have:=Jc hl hf hF (Nat.zero_le _) (by omega:c.fields.length - 0 < N)
 rw[show ((0:Nat):Int)=0 from rfl,List.drop_zero] at this
 simp only[Ae,this]
 have key :∀b:Bool,Sh.cont (some (if b=true then (Sum.inr ():Bool ⊕ Unit) else Sum.inl false)) id (fun _=>some true)=some b:=fun b=>by cases b <;> rfl
 by_cases h1:c.count < -1
 ·simp[h1]
 ·by_cases h2:c.tag < 0
  ·simp[h1,h2]
  ·by_cases h3:99 < c.tag
   ·simp[h1,h2,h3]
   ·by_cases h4:3 < (c.fields.length:Int)
    ·simp[h1,h2,h3,h4]
    ·by_cases h5:c.count < 1
     ·by_cases h6:c.tag=0
      ·by_cases h7:c.count=0
       ·by_cases h8:0 < (c.fields.length:Int)
        ·have h8':0 < c.fields.length:=by omega
         simp[h2,h3,h4,h5,h6,h7,h8']
        ·simp only[h1,h2,h3,h4,h5,h6,h7,h8,key];simp
       ·simp only[h1,h2,h3,h4,h5,h6,h7,key];simp
      ·simp[h1,h2,h3,h4,h5,h6]
     ·have h7:¬ c.count=0:=by omega
      simp only[h1,h2,h3,h4,h5,h7,key];simp
theorem MW (h:List Cell) (c:Cell):E0 h c=(F4 h c && decide (c.count≤999999)):=by
 unfold E0 F4
 by_cases h4:3 < (c.fields.length:Int)
 ·simp[h4]
 ·by_cases hm:c.count≤999999
  ·by_cases hlo:-1≤c.count
   ·have hlo':¬ c.count < -1:=by omega
    by_cases h5:c.count < 1
    ·by_cases h6:c.tag=0
     ·by_cases h7:c.count=0
      ·by_cases h8:0 < (c.fields.length:Int)
       ·have h9:¬ (c.fields.length:Int)=0:=by omega
        have h8':0 < c.fields.length:=by omega
        have h9':¬ c.fields=[]:=fun e=>by rw[e] at h8';simp at h8'
        simp[h4,h6,h7,h8',h9']
       ·have h9:c.fields=[]:=List.eq_nil_of_length_eq_zero (by omega)
        simp[hm,h7,h6,h9,Fw]
      ·have h8:c.count < 0:=by omega
       simp only[h4,hm,hlo,hlo',h5,h6,h7,h8,Fw]
       simp only[decide_true,decide_false,Bool.not_false,Bool.and_true,Bool.true_and,Bool.or_false,Bool.or_true,Bool.and_self,Bool.not_true,if_true,Bool.false_and,Bool.or_self,Bool.true_or]
       have e :∀l:List Int,(l.all fun w=>decide (w=0))=l.all fun w=>B9 h w && !(!decide (w=0)):=fun l=>by
        congr 1
        funext w
        by_cases h0:w=0
        ·subst h0
         have:B9 h 0=true:=by simp[B9,Hl]
         simp[this]
        ·simp[h0]
       rw[e]
       simp
     ·have h6':decide (c.tag=0)=false:=by simpa using h6
      simp[h4,hm,hlo,hlo',h5,h6']
    ·have h7:¬ c.count=0:=by omega
     have h8:¬ c.count < 0:=by omega
     by_cases h9:c.tag < 0
     ·have:¬ 0≤c.tag:=by omega
      simp[h4,hm,hlo,hlo',h5,h7,h8,h9,this]
     ·have h9':0≤c.tag:=by omega
      by_cases h10:99 < c.tag
      ·have:¬ c.tag≤99:=by omega
       simp[h4,hm,hlo,hlo',h5,h7,h8,h9,h10,this]
      ·have:c.tag≤99:=by omega
       simp[h4,hm,hlo,hlo',h5,h7,h8,h9,h9',h10,this]
   ·have:c.count < -1:=by omega
    simp[h4,hlo,this]
  ·simp[hm]
end RC


namespace RC
open Go
def rowOf {α:Type} (n:Nat) (f:Nat→α):List α:=(List.range n).map f
theorem Ca {α:Type} {n:Nat} {f:Nat→α}:(rowOf n f).length=n:=by simp[rowOf]
theorem Br {α:Type} {n:Nat} {f:Nat→α} {j:Nat} (h:j < n):(rowOf n f)[j]?=some (f j):=by simp[rowOf,h]
theorem Ba {α:Type} {n:Nat} {f g:Nat→α} (h :∀j,j < n→f j=g j):rowOf n f=rowOf n g:=List.map_congr_left fun j hj=>h j (List.mem_range.1 hj)
theorem FD {α:Type} {n:Nat} {f:Nat→α} {j:Nat} {v:α}:(rowOf n f).set j v=rowOf n (fun k=>if k=j then v else f k):=by
 apply List.ext_getElem?
 intro k
 rw[List.getElem?_set]
 by_cases hk:k < n
 ·rw[Br hk,Br hk,Ca]
  by_cases e:j=k
  ·subst e;simp[hk]
  ·have e':¬ k=j:=fun h=>e h.symm
   simp[e,e']
 ·rw[List.getElem?_eq_none (by rw[Ca];omega),List.getElem?_eq_none (by rw[Ca];omega),Ca]
  by_cases e:j=k
  ·subst e;simp[hk]
  ·simp[e]
theorem G0 {α:Type} (n:Nat) (x:α):List.replicate n x=rowOf n (fun _=>x):=by
 apply List.ext_getElem?
 intro k
 by_cases hk:k < n
 ·rw[Br hk];simp[hk]
 ·rw[List.getElem?_eq_none (by simp;omega),List.getElem?_eq_none (by rw[Ca];omega)]
def HA (h:List Cell) (j:Nat) (w:Int):Bool:=Cp h w && decide ((w - 1000).toNat=j)
def CD (h:List Cell) (ws:List Int) (j:Nat):Nat:=ws.countP (HA h j)
def Cf (h l:List Cell) (j:Nat):Nat:=(l.map fun c=>CD h c.fields j).sum
theorem Iv (h:List Cell) (j:Nat):CD h [] j=0:=rfl
theorem Py (h:List Cell) (x:Int) (ws:List Int) (j:Nat):CD h (x :: ws) j=(if HA h j x then 1 else 0) + CD h ws j:=by
 unfold CD;rw[List.countP_cons];omega
theorem Er {h:List Cell} {ws:List Int} {i:Nat} {x:Int} (hx:ws[i]?=some x) (j:Nat):CD h (ws.drop i) j=(if HA h j x then 1 else 0) + CD h (ws.drop (i+1)) j:=by rw[drop_cons hx,Py]
theorem Mo (h:List Cell) (ws:List Int) (j:Nat):CD h ws j≤ws.length:=List.countP_le_length
theorem H0 {h l:List Cell} {i:Nat} {c:Cell} (hc:l[i]?=some c) (j:Nat):Cf h (l.drop i) j=CD h c.fields j+Cf h (l.drop (i+1)) j:=by rw[drop_cons hc];simp[Cf]
theorem O2 (h l:List Cell) (j:Nat):Cf h l j≤CT l:=by
 induction l with
 | nil=>simp[Cf]
 | cons c l ih=>
  have:=Mo h c.fields j
  simp only[Cf,CT,List.map_cons,List.sum_cons] at ih ⊢
  omega
theorem OV {h:List Cell} {j:Nat} {x:Int} (hh:HA h j x=true):Cp h x=true∧(x - 1000).toNat=j:=by
 unfold HA at hh;simpa using hh
theorem Hv {h:List Cell} {j:Nat} {x:Int} (hl:Cp h x=false):HA h j x=false:=by simp[HA,hl]
theorem Io {h:List Cell} {j:Nat} {x:Int} (hl:Cp h x=true):HA h j x=decide ((x - 1000).toNat=j):=by simp[HA,hl]
theorem Nw {h:List Cell} {c:Cell} {i:Nat} (hc:h[i]?=some c) (hl:h.length≤1048576) (hf:c.fields.length≤1048576) (hF :∀x∈c.fields,Dz x) {N k:Nat} (hk:k≤c.fields.length) (hN:c.fields.length - k < N) :
  ∀f:Nat→Int,(∀j,0≤f j∧f j≤1048576+k)→CQ i h N k (rowOf h.length f)=some (rowOf h.length fun j=>f j+CD h (c.fields.drop k) j):=by
 refine BG c.fields.length (fun N k=>∀f:Nat→Int,(∀j,0≤f j∧f j≤1048576+k)→CQ i h N k (rowOf h.length f)=some (rowOf h.length fun j=>f j+CD h (c.fields.drop k) j)) ?_ ?_ hk hN
 ·intro n f _
  rw[CQ,BB hc]
  simp only[Option.bind_some]
  rw[if_neg (by simp[Ae])]
  simp[Iv]
 ·intro n k hk ih f hb
  obtain⟨x,hx,hxm⟩:=B6 hk
  rw[CQ,BB hc]
  simp only[Option.bind_some]
  rw[if_pos (by simp[Ae];omega),BB hx]
  simp only[Option.bind_some]
  rw[LP hl (hF x hxm)]
  simp only[Option.bind_some]
  rw[A4 (n:=(k:Int) + 1) (by omega) (by omega),show ((k:Int) + 1)=((k+1:Nat):Int) from rfl]
  cases hlv:Cp h x
  ·simp only[Bool.false_eq_true,if_false,Option.bind_some]
   rw[ih f (fun j=>⟨(hb j).1,by have:=(hb j).2;omega⟩)]
   congr 1
   refine Ba fun j _=>?_
   rw[Er hx,Hv hlv];simp
  ·obtain⟨q,c',h1,h2,h3,_⟩:=ED hlv
   have e1:x - 1000=(q:Int):=by omega
   simp only[if_true]
   rw[A4 (n:=x - 1000) (by omega) (by omega),e1,BB (Br h3)]
   simp only[Option.bind_some]
   have hbq:=hb q
   rw[A4 (by omega) (by omega),F9,FD]
   rw[ih _ (fun j=>by
    by_cases e:j=q
    ·simp only[e,if_true];omega
    ·simp only[e,if_false];have:=hb j;omega)]
   congr 1
   refine Ba fun j _=>?_
   rw[Er hx,Io hlv,h2]
   by_cases e:j=q
   ·subst e;simp;omega
   ·have e':¬ q=j:=fun h=>e h.symm
    simp[e,e']
theorem Nu {h:List Cell} (H:Hp h) {M:Nat} (hM:2000000≤M) {N i:Nat} (hi:i≤h.length) (hN:h.length - i < N) :
  ∀f:Nat→Int,(∀j,0≤f j∧f j+Cf h (h.drop i) j≤1048576)→CO M h N i (rowOf h.length f)=some (rowOf h.length fun j=>f j+Cf h (h.drop i) j):=by
 have hl:=H.len
 refine BG h.length (fun N i=>∀f:Nat→Int,(∀j,0≤f j∧f j+Cf h (h.drop i) j≤1048576)→CO M h N i (rowOf h.length f)=some (rowOf h.length fun j=>f j+Cf h (h.drop i) j)) ?_ ?_ hi hN
 ·intro n f _
  rw[CO,if_neg (by simp[Ae])]
  simp[Cf]
 ·intro n i hi ih f hb
  obtain⟨c,hc,hcm⟩:=B6 hi
  have hfl:=H.HB hcm
  have:=Nw hc hl hfl (H.cells c hcm).fields (Nat.zero_le _) (by omega:c.fields.length - 0 < M) f (fun j=>⟨(hb j).1,by have:=(hb j).2;omega⟩)
  rw[show ((0:Nat):Int)=0 from rfl,List.drop_zero] at this
  rw[CO,if_pos (by simp[Ae];omega),this]
  simp only[Option.bind_some]
  rw[A4 (by omega) (by omega),show ((i:Int) + 1)=((i+1:Nat):Int) from rfl,ih]
  ·congr 1
   refine Ba fun j _=>?_
   rw[H0 hc];omega
  ·intro j
   have:=hb j
   rw[H0 hc] at this
   omega
def refs (h:List Cell):List Int:=rowOf h.length fun j=>(Cf h h j:Int)
theorem Fy {h:List Cell} (H:Hp h) {N:Nat} (hN:2000000≤N):C2 N h=some (refs h):=by
 have hl:=H.len
 unfold C2
 rw[Ae,Mj _ h.length 8 (by omega) (by omega),G0]
 simp only[Option.bind_some]
 have:=Nu H hN (Nat.zero_le _) (by omega:h.length - 0 < N) (fun _=>0) (fun j=>⟨by omega,by
  have h1:=O2 h (h.drop 0) j
  have h2:=IH h 0
  have h3:=H.size
  unfold Bc at h3;omega⟩)
 rw[show ((0:Nat):Int)=0 from rfl,List.drop_zero] at this
 rw[this]
 simp[refs]
theorem OQ {h:List Cell} {c:Cell} (hl:h.length≤1048576) (hf:c.fields.length≤1048576) (hF :∀x∈c.fields,Dz x) {N k:Nat} (hk:k≤c.fields.length) (hN:c.fields.length - k < N) :
  ∀f:Nat→Int,(∀j,0≤f j∧f j≤1048576+k)→BV c h N k (rowOf h.length f)=some (rowOf h.length fun j=>f j+CD h (c.fields.drop k) j):=by
 refine BG c.fields.length (fun N k=>∀f:Nat→Int,(∀j,0≤f j∧f j≤1048576+k)→BV c h N k (rowOf h.length f)=some (rowOf h.length fun j=>f j+CD h (c.fields.drop k) j)) ?_ ?_ hk hN
 ·intro n f _
  rw[BV,if_neg (by simp[Ae])]
  simp[Iv]
 ·intro n k hk ih f hb
  obtain⟨x,hx,hxm⟩:=B6 hk
  rw[BV,if_pos (by simp[Ae];omega),BB hx]
  simp only[Option.bind_some]
  rw[F5 hl (hF x hxm)]
  simp only[Option.bind_some]
  rw[A4 (n:=(k:Int) + 1) (by omega) (by omega),show ((k:Int) + 1)=((k+1:Nat):Int) from rfl]
  cases hlv:Cp h x
  ·simp only[Bool.false_eq_true,if_false,Option.bind_some]
   rw[ih f (fun j=>⟨(hb j).1,by have:=(hb j).2;omega⟩)]
   congr 1
   refine Ba fun j _=>?_
   rw[Er hx,Hv hlv];simp
  ·obtain⟨q,c',h1,h2,h3,_⟩:=ED hlv
   have e1:x - 1000=(q:Int):=by omega
   simp only[if_true]
   rw[A4 (n:=x - 1000) (by omega) (by omega),e1,BB (Br h3)]
   simp only[Option.bind_some]
   have hbq:=hb q
   rw[A4 (by omega) (by omega),F9,FD]
   rw[ih _ (fun j=>by
    by_cases e:j=q
    ·simp only[e,if_true];omega
    ·simp only[e,if_false];have:=hb j;omega)]
   congr 1
   refine Ba fun j _=>?_
   rw[Er hx,Io hlv,h2]
   by_cases e:j=q
   ·subst e;simp;omega
   ·have e':¬ q=j:=fun h=>e h.symm
    simp[e,e']
theorem OO {h:List Cell} (H:Hp h) {M:Nat} (hM:2000000≤M) {N i:Nat} (hi:i≤h.length) (hN:h.length - i < N) :
  ∀f:Nat→Int,(∀j,0≤f j∧f j+Cf h (h.drop i) j≤1048576)→BX M h N i (rowOf h.length f)=some (if (h.drop i).all (F4 h) then Sum.inr (rowOf h.length fun j=>f j+Cf h (h.drop i) j) else Sum.inl ([],false)):=by
 have hl:=H.len
 refine BG h.length (fun N i=>∀f:Nat→Int,(∀j,0≤f j∧f j+Cf h (h.drop i) j≤1048576)→BX M h N i (rowOf h.length f)=some (if (h.drop i).all (F4 h) then Sum.inr (rowOf h.length fun j=>f j+Cf h (h.drop i) j) else Sum.inl ([],false))) ?_ ?_ hi hN
 ·intro n f _
  rw[BX,if_neg (by simp[Ae])]
  simp[Cf]
 ·intro n i hi ih f hb
  obtain⟨c,hc,hcm⟩:=B6 hi
  have hfl:=H.HB hcm
  rw[BX,if_pos (by simp[Ae];omega),BB hc]
  simp only[Option.bind_some]
  rw[Lm hl hfl (H.cells c hcm).fields hM,Dt hc]
  simp only[Option.bind_some]
  cases hv:F4 h c
  ·simp
  ·simp only[Bool.not_true,Bool.false_eq_true,if_false,Bool.true_and]
   have:=OQ hl hfl (H.cells c hcm).fields (Nat.zero_le _) (by omega:c.fields.length - 0 < M) f (fun j=>⟨(hb j).1,by have:=(hb j).2;omega⟩)
   rw[show ((0:Nat):Int)=0 from rfl,List.drop_zero] at this
   rw[this]
   simp only[Option.bind_some]
   rw[A4 (by omega) (by omega),show ((i:Int) + 1)=((i+1:Nat):Int) from rfl,ih]
   ·have e:(rowOf h.length fun j=>f j+(CD h c.fields j:Int) + (Cf h (h.drop (i+1)) j:Int))=rowOf h.length fun j=>f j+(Cf h (h.drop i) j:Int):=Ba fun j _=>by rw[H0 hc];omega
    rw[e]
   ·intro j
    have:=hb j
    rw[H0 hc] at this
    omega
def Kv (p:Nat→Bool):Nat→Nat→Bool
 | 0,_=>true
 | k+1,i=>p i && Kv p k (i+1)
def C7 (p:Nat→Bool) (n i:Nat):Bool:=Kv p (n - i) i
theorem EK (p:Nat→Bool) (n:Nat):C7 p n n=true:=by simp[C7,Kv]
theorem EG {p:Nat→Bool} {n i:Nat} (h:i < n):C7 p n i=(p i && C7 p n (i+1)):=by
 unfold C7
 obtain⟨k,hk⟩ :∃k,n - i=k+1:=⟨n - i - 1,by omega⟩
 rw[hk,show n - (i+1)=k by omega];rfl
theorem FA {p:Nat→Bool} {n i:Nat} (h:i≤n):C7 p n i=true↔∀j,i≤j→j < n→p j=true:=by
 obtain⟨k,hk⟩ :∃k,n - i=k:=⟨_,rfl⟩
 induction k generalizing i with
 | zero=>
  have:i=n:=by omega
  subst this
  rw[EK]
  simp;intro j h1 h2;omega
 | succ k ih=>
  rw[EG (by omega),Bool.and_eq_true,ih (by omega) (by omega)]
  constructor
  ·rintro⟨h1,h2⟩ j h3 h4
   rcases Nat.eq_or_lt_of_le h3 with rfl | h5
   ·exact h1
   ·exact h2 j h5 h4
  ·intro h1
   exact⟨h1 i (Nat.le_refl _) (by omega),fun j h2 h3=>h1 j (by omega) h3⟩
def Ka (h:List Cell) (j:Nat):Bool:=match h[j]? with | some c=>!(decide (0 < c.count) && decide (c.count < Cf h h j)) | none=>true
def NL (h:List Cell) (j:Nat):Bool:=match h[j]? with | some c=>!(decide (0 < c.count) && (decide (c.count < Cf h h j) || decide (999999 < c.count))) | none=>true
theorem NH {h:List Cell} (hl:h.length≤1048576) {N i:Nat} (hi:i≤h.length) (hN:h.length - i < N):Bt h (refs h) N i=some (if C7 (Ka h) h.length i then Sum.inr () else Sum.inl false):=by
 refine BG h.length (fun N i=>Bt h (refs h) N i=some (if C7 (Ka h) h.length i then Sum.inr () else Sum.inl false)) ?_ ?_ hi hN
 ·intro n
  rw[Bt,if_neg (by simp[Ae]),EK];rfl
 ·intro n i hi ih
  obtain⟨c,hc,_⟩:=B6 hi
  rw[Bt,if_pos (by simp[Ae];omega),BB hc]
  simp only[Option.bind_some]
  rw[BB (l:=refs h) (Br hi),A4 (by omega) (by omega),show ((i:Int) + 1)=((i+1:Nat):Int) from rfl,ih,EG hi]
  unfold Ka
  rw[hc]
  by_cases h1:0 < c.count <;> by_cases h2:c.count < Cf h h i <;> simp[h1,h2]
def DD (l:List Nat):List Int:=List.map (fun n:Nat=>(n:Int)) l
def GV (h:List Cell) (i:Nat):List Nat:=(List.range' i (h.length - i)).filter fun j=>decide (Cf h h j=0)
theorem Oh (h:List Cell):GV h h.length=[]:=by simp[GV]
theorem Nc {h:List Cell} {i:Nat} (hi:i < h.length):GV h i=(if Cf h h i=0 then [i] else []) ++ GV h (i+1):=by
 unfold GV
 obtain⟨k,hk⟩ :∃k,h.length - i=k+1:=⟨h.length - i - 1,by omega⟩
 rw[hk,show h.length - (i+1)=k by omega,List.range'_succ,List.filter_cons]
 by_cases h1:Cf h h i=0 <;> simp[h1]
theorem Ow {h:List Cell} (hl:h.length≤1048576) {N i:Nat} (hi:i≤h.length) (hN:h.length - i < N) :∀ws:List Nat,ws.length≤i→
  BQ (refs h) h N i (DD ws)=some (if C7 (NL h) h.length i then Sum.inr (DD (ws ++ GV h i)) else Sum.inl ([],false)):=by
 refine BG h.length (fun N i=>∀ws:List Nat,ws.length≤i→BQ (refs h) h N i (DD ws)=some (if C7 (NL h) h.length i then Sum.inr (DD (ws ++ GV h i)) else Sum.inl ([],false))) ?_ ?_ hi hN
 ·intro n ws _
  rw[BQ,if_neg (by simp[Ae]),EK,Oh];simp
 ·intro n i hi ih ws hw
  obtain⟨c,hc,_⟩:=B6 hi
  rw[BQ,if_pos (by simp[Ae];omega),BB hc]
  simp only[Option.bind_some]
  rw[BB (l:=refs h) (Br hi),A4 (by omega) (by omega),show ((i:Int) + 1)=((i+1:Nat):Int) from rfl,EG hi,Nc hi]
  simp only[Option.bind_some]
  have hok:NL h i=!(decide (0 < c.count) && (decide (c.count < Cf h h i) || decide (999999 < c.count))):=by unfold NL;rw[hc]
  rw[hok]
  by_cases hbad:0 < c.count∧(c.count < Cf h h i∨999999 < c.count)
  ·obtain⟨h1,h2⟩:=hbad
   by_cases h3:c.count < Cf h h i
   ·simp[h1,h3]
   ·have h4:999999 < c.count:=by rcases h2 with h | h;exact absurd h h3;exact h
    simp[h1,h3,h4]
  ·have hgood:(decide (0 < c.count) && (decide (c.count < Cf h h i) || decide (999999 < c.count)))=false:=by
    by_cases h1:0 < c.count
    ·have h2:¬ c.count < Cf h h i:=fun h=>hbad ⟨h1,.inl h⟩
     have h3:¬ 999999 < c.count:=fun h=>hbad ⟨h1,.inr h⟩
     simp[h2,h3]
    ·simp[h1]
   rw[hgood]
   have e1:(if decide (0 < c.count)=true then (if decide (c.count < (Cf h h i:Int))=true then some true else some (decide (999999 < c.count))) else some false)=some false:=by
    by_cases h1:0 < c.count
    ·have h2:¬ c.count < Cf h h i:=fun h=>hbad ⟨h1,.inl h⟩
     have h3:¬ 999999 < c.count:=fun h=>hbad ⟨h1,.inr h⟩
     simp[h1,h2,h3]
    ·simp[h1]
   rw[e1]
   simp only[Option.bind_some,Bool.false_eq_true,if_false,Bool.not_false,Bool.true_and]
   by_cases hz:Cf h h i=0
   ·have e2:decide ((Cf h h i:Int)=0)=true:=by simpa using hz
    rw[if_pos e2,ES _ _ _ (by simp[DD];omega) (by simp[DD];omega)]
    simp only[Option.bind_some,Sh.Eo]
    have:=ih (ws ++ [i]) (by simp;omega)
    simp only[DD,List.map_append,List.map_cons,List.map_nil] at this ⊢
    rw[this,if_pos hz]
    simp
   ·have e2:decide ((Cf h h i:Int)=0)=false:=by simp;omega
    rw[if_neg (by rw[e2];simp)]
    simp only[Sh.Eo]
    rw[ih ws (by omega),if_neg hz]
    simp
end RC


namespace RC
open Go
def WF (h:List Cell):Prop:=∀c∈h,∀w∈c.fields,B9 h w=true
def ch (h:List Cell) (i j:Nat):Prop:=∃c w,h[i]?=some c∧w∈c.fields∧Cp h w=true∧(w - 1000).toNat=j
def J9 (h:List Cell):Prop:=∃rk:Nat→Nat,∀i j,ch h i j→rk j < rk i
theorem Ig {h:List Cell} {i j:Nat} (hc:ch h i j):i < h.length∧j < h.length:=by
 obtain⟨c,w,h1,_,h3,h4⟩:=hc
 obtain⟨q,_,_,h5,h6,_⟩:=ED h3
 exact⟨(List.getElem?_eq_some_iff.1 h1).1,by omega⟩
theorem KX {h:List Cell} {i j:Nat} {c:Cell} (hc:h[i]?=some c):0 < CD h c.fields j↔ch h i j:=by
 unfold CD
 rw[List.countP_pos_iff]
 constructor
 ·rintro⟨w,h1,h2⟩
  obtain⟨h3,h4⟩:=OV h2
  exact⟨c,w,hc,h1,h3,h4⟩
 ·rintro⟨c',w,h1,h2,h3,h4⟩
  rw[hc] at h1;cases h1
  exact⟨w,h2,by simp[HA,h3,h4]⟩
def GK (m:Nat→Bool) (n:Nat):Nat:=(List.range n).countP m
theorem Gh (m:Nat→Bool) (n:Nat):GK m n≤n:=by have:=List.countP_le_length (p:=m) (l:=List.range n);simpa [GK] using this
theorem D0 (m:Nat→Bool) (n:Nat):GK m (n+1)=GK m n+if m n then 1 else 0:=by
 unfold GK;rw[List.range_succ,List.countP_append];simp[List.countP_cons]
theorem N9 {m m':Nat→Bool} {n:Nat} (h :∀j,j < n→m j=m' j):GK m n=GK m' n:=by
 induction n with
 | zero=>rfl
 | succ n ih=>rw[D0,D0,ih (fun j hj=>h j (by omega)),h n (by omega)]
theorem MQ {m:Nat→Bool} {n i:Nat} (hi:i < n) (hm:m i=false):GK (fun k=>if k=i then true else m k) n=GK m n+1:=by
 induction n with
 | zero=>omega
 | succ n ih=>
  rw[D0,D0]
  by_cases e:i=n
  ·subst e
   rw[N9 (m':=m) (fun j hj=>by simp;omega)]
   simp[hm]
  ·rw[ih (by omega)]
   have:¬ n=i:=fun h=>e h.symm
   simp[this];omega
theorem Fx {m:Nat→Bool} {n:Nat}:GK m n=n↔∀j,j < n→m j=true:=by
 constructor
 ·intro h
  induction n with
  | zero=>intro j hj;omega
  | succ n ih=>
   rw[D0] at h
   have hle:=Gh m n
   have h1:m n=true:=by cases hm:m n <;> simp[hm] at h ⊢;omega
   simp[h1] at h
   intro j hj
   rcases Nat.lt_succ_iff_lt_or_eq.1 hj with h2 | rfl
   ·exact ih h j h2
   ·exact h1
 ·intro h
  induction n with
  | zero=>rfl
  | succ n ih=>rw[D0,ih (fun j hj=>h j (by omega)),h n (by omega)];rfl
def NP (m:Nat→Bool) (w:Int):Bool:=!(decide (1000≤w)) || m (w - 1000).toNat
theorem Ji {n:Nat} {m:Nat→Bool} {l:List Int} (hn:n≤1048576) (hl:l.length≤1048576) (hw :∀w∈l,1000≤w→w - 1000 < n) {N i:Nat} (hi:i≤l.length) (hN:l.length - i < N) :
  Bu (rowOf n m) l N i=some (if (l.drop i).all (NP m) then Sum.inr () else Sum.inl false):=by
 refine BG l.length (fun N i=>Bu (rowOf n m) l N i=some (if (l.drop i).all (NP m) then Sum.inr () else Sum.inl false)) ?_ ?_ hi hN
 ·intro n'
  rw[Bu,if_neg (by simp[Ae])];simp
 ·intro n' i hi ih
  obtain⟨x,hx,hxm⟩:=B6 hi
  rw[Bu,if_pos (by simp[Ae];omega),BB hx]
  simp only[Option.bind_some]
  rw[A4 (n:=(i:Int) + 1) (by omega) (by omega),show ((i:Int) + 1)=((i+1:Nat):Int) from rfl,ih,Dt hx]
  unfold BI NP
  simp only[Option.bind_some]
  by_cases h1:1000≤x
  ·have h2:=hw x hxm h1
   have e1:x - 1000=(((x - 1000).toNat:Nat):Int):=by omega
   rw[A4 (n:=x - 1000) (by omega) (by omega)]
   have e2:Sh.get (rowOf n m) (x - 1000)=some (m (x - 1000).toNat):=by rw[DJ (by omega),Br (by omega)]
   rw[e2]
   cases m (x - 1000).toNat <;> simp[h1]
  ·simp[h1]
theorem Lt {n:Nat} {m:Nat→Bool} {l:List Int} (hn:n≤1048576) (hl:l.length≤1048576) (hw :∀w∈l,1000≤w→w - 1000 < n) {N:Nat} (hN:2000000≤N):Dh N (rowOf n m) l=some (l.all (NP m)):=by
 unfold Dh
 have:=Ji (m:=m) hn hl hw (Nat.zero_le _) (by omega:l.length - 0 < N)
 rw[show ((0:Nat):Int)=0 from rfl,List.drop_zero] at this
 rw[this]
 cases l.all (NP m) <;> rfl
def J (h:List Cell) (m:Nat→Bool) (many:Nat):Prop:=
 (∃rk:Nat→Nat,(∀j,j < h.length→m j=true→rk j < many)∧∀i j,m i=true→ch h i j→m j=true∧rk j < rk i)∧GK m h.length=many
theorem J.mark {h:List Cell} {m:Nat→Bool} {many i:Nat} (hJ:J h m many) (hi:i < h.length) (hm:m i=false) (hall :∀j,ch h i j→m j=true):J h (fun k=>if k=i then true else m k) (many+1):=by
 obtain⟨⟨rk,h1,h2⟩,h3⟩:=hJ
 refine⟨⟨fun k=>if k=i then many else rk k,fun j hj hmj=>?_,fun a b hma hab=>?_⟩,by rw[MQ hi hm,h3]⟩
 ·by_cases e:j=i
  ·simp[e]
  ·simp only[e,if_false] at hmj ⊢
   have:=h1 j hj hmj;omega
 ·have hb:=(Ig hab).2
  by_cases ea:a=i
  ·subst ea
   have hmb:=hall b hab
   have eb:¬ b=a:=fun e=>by rw[e,hm] at hmb;cases hmb
   simp only[eb,if_false,if_true]
   exact⟨hmb,h1 b hb hmb⟩
  ·simp only[ea,if_false] at hma
   obtain⟨h4,h5⟩:=h2 a b hma hab
   have eb:¬ b=i:=fun e=>by rw[e,hm] at h4;cases h4
   simp only[ea,eb,if_false]
   exact⟨h4,h5⟩
def Nx (h:List Cell) (m:Nat→Bool) (i:Nat):Prop:=∀j,ch h i j→m j=true
theorem MO {h:List Cell} (hw:WF h) {m:Nat→Bool} {i:Nat} {c:Cell} (hc:h[i]?=some c):c.fields.all (NP m)=true↔Nx h m i:=by
 rw[List.all_eq_true]
 constructor
 ·rintro h1 j ⟨c',w,h2,h3,h4,h5⟩
  rw[hc] at h2;cases h2
  have:=h1 w h3
  obtain⟨q,_,h6,_⟩:=ED h4
  have h7:1000≤w:=by omega
  simp only[NP,h7,decide_true,Bool.not_true,Bool.false_or] at this
  rw[← h5];exact this
 ·intro h1 w h2
  unfold NP
  by_cases h3:1000≤w
  ·have h4:=hw c (List.mem_of_getElem? hc) w h2
   have h5:Hl w=false:=by unfold Hl;simp;omega
   unfold B9 at h4
   rw[h5,Bool.or_false] at h4
   have:=h1 _ ⟨c,w,hc,h2,h4,rfl⟩
   simp[this]
  ·simp[h3]
theorem Rx {h:List Cell} (hw:WF h) {c:Cell} (hc:c∈h) :∀w∈c.fields,1000≤w→w - 1000 < (h.length:Int):=fun w h2 h3=>by
 have h4:=hw c hc w h2
 have h5:Hl w=false:=by unfold Hl;simp;omega
 unfold B9 at h4
 rw[h5,Bool.or_false] at h4
 obtain⟨q,_,h6,_,h7,_⟩:=ED h4
 omega
theorem QU {h:List Cell} (H:Hp h) (hw:WF h) {M:Nat} (hM:2000000≤M) {N i:Nat} (hi:i≤h.length) (hN:h.length - i < N) :∀(m:Nat→Bool) (many:Nat) (more:Bool),J h m many→
  ∃m' many' more',Bv M h N (many:Int) more i (rowOf h.length m)=some (((many':Nat):Int),more',rowOf h.length m')∧J h m' many'∧many≤many'∧
   (more'=false→more=false∧(∀j,j < h.length→m' j=m j)∧∀j,i≤j→j < h.length→m j=true∨¬ Nx h m j)∧(more'=true→more=true∨many < many'):=by
 have hl:=H.len
 refine BG h.length (fun N i=>∀(m:Nat→Bool) (many:Nat) (more:Bool),J h m many→
  ∃m' many' more',Bv M h N (many:Int) more i (rowOf h.length m)=some (((many':Nat):Int),more',rowOf h.length m')∧J h m' many'∧many≤many'∧
   (more'=false→more=false∧(∀j,j < h.length→m' j=m j)∧∀j,i≤j→j < h.length→m j=true∨¬ Nx h m j)∧(more'=true→more=true∨many < many')) ?_ ?_ hi hN
 ·intro n m many more hJ
  refine⟨m,many,more,?_,hJ,Nat.le_refl _,fun e=>⟨e,fun _ _=>rfl,fun j h1 h2=>by omega⟩,fun e=>.inl e⟩
  rw[Bv,if_neg (by simp[Ae])]
 ·intro n i hi ih m many more hJ
  obtain⟨c,hc,hcm⟩:=B6 hi
  have hmany:many≤h.length:=by rw[← hJ.2];exact Gh _ _
  rw[Bv,if_pos (by simp[Ae];omega),BB (Br hi)]
  simp only[Option.bind_some]
  rw[BB hc]
  simp only[Option.bind_some]
  rw[Lt hl (H.HB hcm) (Rx hw hcm) hM]
  simp only[Option.bind_some]
  rw[A4 (n:=(i:Int) + 1) (by omega) (by omega),show ((i:Int) + 1)=((i+1:Nat):Int) from rfl]
  cases hmi:m i with
  | true=>
   obtain⟨m',many',more',e1,e2,e3,e4,e5⟩:=ih m many more hJ
   refine⟨m',many',more',by simpa using e1,e2,e3,fun e=>?_,e5⟩
   obtain⟨f1,f2,f3⟩:=e4 e
   refine⟨f1,f2,fun j h1 h2=>?_⟩
   rcases Nat.eq_or_lt_of_le h1 with rfl | h3
   ·exact .inl hmi
   ·exact f3 j h3 h2
  | false=>
   cases ha:c.fields.all (NP m) with
   | false=>
    obtain⟨m',many',more',e1,e2,e3,e4,e5⟩:=ih m many more hJ
    refine⟨m',many',more',by simpa using e1,e2,e3,fun e=>?_,e5⟩
    obtain⟨f1,f2,f3⟩:=e4 e
    refine⟨f1,f2,fun j h1 h2=>?_⟩
    rcases Nat.eq_or_lt_of_le h1 with rfl | h3
    ·refine .inr fun h4=>?_
     rw[(MO hw hc).2 h4] at ha;cases ha
    ·exact f3 j h3 h2
   | true=>
    have hJ':=hJ.mark hi hmi ((MO hw hc).1 ha)
    obtain⟨m',many',more',e1,e2,e3,e4,e5⟩:=ih _ (many+1) true hJ'
    refine⟨m',many',more',?_,e2,by omega,fun e=>?_,fun e=>.inr (by omega)⟩
    ·have ew:Sh.w ((many:Int) + 1)=((many+1:Nat):Int):=by rw[A4 (by omega) (by omega)];rfl
     simp only[Bool.not_false,if_true,Option.bind_some,ew,F9,FD]
     exact e1
    ·have:=(e4 e).1;cases this
theorem QB {h:List Cell} (H:Hp h) (hw:WF h) {M:Nat} (hM:2000000≤M) :∀(d N:Nat) (m:Nat→Bool) (many:Nat),J h m many→h.length - many=d→d+1 < N→
  ∃m' many',Bw M h N (many:Int) true (rowOf h.length m)=some ((many':Nat):Int)∧J h m' many'∧∀j,j < h.length→m' j=true∨¬ Nx h m' j:=by
 have hl:=H.len
 intro d
 induction d using Nat.strongRecOn with
 | _ d ih=>
  intro N m many hJ hd hN
  obtain⟨n,rfl⟩ :∃n,N=n+1:=⟨N - 1,by omega⟩
  have hmany:many≤h.length:=by rw[← hJ.2];exact Gh _ _
  obtain⟨m',many',more',e1,e2,e3,e4,e5⟩:=QU H hw hM (Nat.zero_le _) (by omega:h.length - 0 < M) m many false hJ
  rw[show ((0:Nat):Int)=0 from rfl] at e1
  have hmany':many'≤h.length:=by rw[← e2.2];exact Gh _ _
  rw[Bw,if_pos rfl,e1]
  simp only[Option.bind_some]
  cases more' with
  | true=>
   have h1:many < many':=by rcases e5 rfl with h | h;cases h;exact h
   exact ih (h.length - many') (by omega) n m' many' e2 rfl (by omega)
  | false=>
   obtain⟨_,f2,f3⟩:=e4 rfl
   obtain⟨n',rfl⟩ :∃n',n=n' + 1:=⟨n - 1,by omega⟩
   refine⟨m',many',?_,e2,fun j hj=>?_⟩
   ·rw[Bw,if_neg (by simp)]
   ·rcases f3 j (Nat.zero_le _) hj with h1 | h1
    ·left;rw[f2 j hj];exact h1
    ·right
     intro h2
     exact h1 fun q hq=>by rw[← f2 q (Ig hq).2];exact h2 q hq
theorem JV {h:List Cell} {m:Nat→Bool} {many:Nat} (hJ:J h m many) (hc :∀j,j < h.length→m j=true∨¬ Nx h m j):many=h.length↔J9 h:=by
 obtain⟨⟨rk,h1,h2⟩,h3⟩:=hJ
 constructor
 ·intro e
  have hall:=Fx.1 (h3.trans e)
  exact⟨rk,fun i j hij=>(h2 i j (hall i (Ig hij).1) hij).2⟩
 ·rintro⟨I7,hr⟩
  rw[← h3]
  refine Fx.2 fun j hj=>?_
  have key :∀d j,j < h.length→I7 j < d→m j=true:=by
   intro d
   induction d with
   | zero=>intro j _ h4;omega
   | succ d ih=>
    intro j hj hlt
    rcases hc j hj with h4 | h4
    ·exact h4
    ·exact absurd (fun q hq=>ih q (Ig hq).2 (by have:=hr j q hq;omega)) h4
  exact key (I7 j+1) j hj (by omega)
theorem Lf {h:List Cell} (H:Hp h) (hw:WF h) {N:Nat} (hN:2000000≤N) :∃b,Dj N h=some b∧(b=true↔J9 h):=by
 have hl:=H.len
 unfold Dj
 rw[Ae,Mj _ h.length 1 (by omega) (by omega),G0]
 simp only[Option.bind_some]
 have hJ0:J h (fun _=>false) 0:=⟨⟨fun _=>0,fun _ _ h=>(by cases h),fun _ _ h=>(by cases h)⟩,by
  have :∀n,GK (fun _=>false) n=0:=fun n=>by induction n with
   | zero=>rfl
   | succ n ih=>rw[D0,ih];rfl
  exact this _⟩
 obtain⟨m',many',e1,e2,e3⟩:=QB H hw hN _ N _ 0 hJ0 rfl (by omega)
 rw[show ((0:Nat):Int)=0 from rfl] at e1
 rw[e1]
 simp only[Option.bind_some]
 refine⟨_,rfl,?_⟩
 rw[decide_eq_true_eq,← JV e2 e3]
 omega
end RC


namespace RC
open Go
def fl (h:List Cell) (i:Nat):List Int:=match h[i]? with | some c=>c.fields | none=>[]
theorem Jg {h:List Cell} {i:Nat} {c:Cell} (hc:h[i]?=some c):fl h i=c.fields:=by simp[fl,hc]
def En (h:List Cell) (p:Nat→Bool) (j:Nat):Nat→Nat
 | 0=>0
 | n+1=>En h p j n+if p n then 0 else CD h (fl h n) j
def un (h:List Cell) (p:Nat→Bool) (j:Nat):Nat:=En h p j h.length
theorem LL {h:List Cell} {p:Nat→Bool} {j n:Nat}:En h p j n=0↔∀i,i < n→p i=false→CD h (fl h i) j=0:=by
 induction n with
 | zero=>simp[En]
 | succ n ih=>
  unfold En
  constructor
  ·intro e i hi hp
   rcases Nat.lt_succ_iff_lt_or_eq.1 hi with h1 | rfl
   ·exact ih.1 (by omega) i h1 hp
   ·simp[hp] at e;omega
  ·intro e
   rw[ih.2 fun i hi=>e i (by omega)]
   cases hp:p n with
   | true=>simp
   | false=>simp[e n (by omega) hp]
theorem NR {h:List Cell} {p p':Nat→Bool} {j n:Nat} (e :∀i,i < n→p i=p' i):En h p j n=En h p' j n:=by
 induction n with
 | zero=>rfl
 | succ n ih=>unfold En;rw[ih fun i hi=>e i (by omega),e n (by omega)]
theorem L8 {h:List Cell} {p:Nat→Bool} {j n x:Nat} (hx:x < n) (hp:p x=false):En h p j n=En h (fun k=>if k=x then true else p k) j n+CD h (fl h x) j:=by
 induction n with
 | zero=>omega
 | succ n ih=>
  unfold En
  by_cases e:x=n
  ·subst e
   rw[NR (p':=fun k=>if k=x then true else p k) (n:=x) (fun i hi=>by
    have:¬ i=x:=by omega
    simp[this])]
   simp[hp]
  ·have e':¬ n=x:=fun h=>e h.symm
   rw[ih (by omega)]
   simp only[e',if_false]
   omega
theorem OR (h:List Cell) (j:Nat) :∀n,n≤h.length→En h (fun _=>false) j n=Cf h (h.take n) j:=by
 intro n
 induction n with
 | zero=>intro _;simp[En,Cf]
 | succ n ih=>
  intro hn
  obtain⟨c,hc,_⟩:=B6 (l:=h) (i:=n) (by omega)
  unfold En
  rw[ih (by omega),Fm hc,Jg hc]
  simp[Cf]
theorem JE (h:List Cell) (j:Nat):un h (fun _=>false) j=Cf h h j:=by
 unfold un;rw[OR h j _ (Nat.le_refl _),List.take_length]
theorem Qc (h:List Cell) (p:Nat→Bool) (j:Nat) :∀n,n≤h.length→En h p j n≤CT (h.take n):=by
 intro n
 induction n with
 | zero=>intro _;simp[En]
 | succ n ih=>
  intro hn
  obtain⟨c,hc,_⟩:=B6 (l:=h) (i:=n) (by omega)
  have h1:=ih (by omega)
  have h2:=Mo h c.fields j
  unfold En
  rw[Fm hc,EP,Jg hc]
  have:CT [c]=c.fields.length:=by simp[CT]
  split <;> omega
theorem R4 (h:List Cell) (p:Nat→Bool) (j:Nat):un h p j≤CT h:=by
 have:=Qc h p j h.length (Nat.le_refl _)
 rwa [List.take_length] at this
theorem Oq {h:List Cell} {c:Cell} (hl:h.length≤1048576) (hf:c.fields.length≤1048576) (hF :∀x∈c.fields,Dz x) {N k:Nat} (hk:k≤c.fields.length) (hN:c.fields.length - k < N) :
  ∀(g:Nat→Nat) (ws:List Nat),(∀j,g j≤1048576)→ws.length≤2097152+k→∃ps:List Nat,BP c h N k (rowOf h.length fun j=>((g j+CD h (c.fields.drop k) j:Nat):Int)) (DD ws)=some (rowOf h.length fun j=>((g j:Nat):Int),DD (ws ++ ps))∧
   ps.Nodup∧ps.length≤c.fields.length - k∧∀j,j∈ps↔g j=0∧0 < CD h (c.fields.drop k) j:=by
 refine BG c.fields.length (fun N k=>∀(g:Nat→Nat) (ws:List Nat),(∀j,g j≤1048576)→ws.length≤2097152+k→∃ps:List Nat,BP c h N k (rowOf h.length fun j=>((g j+CD h (c.fields.drop k) j:Nat):Int)) (DD ws)=some (rowOf h.length fun j=>((g j:Nat):Int),DD (ws ++ ps))∧
   ps.Nodup∧ps.length≤c.fields.length - k∧∀j,j∈ps↔g j=0∧0 < CD h (c.fields.drop k) j) ?_ ?_ hk hN
 ·intro n g ws _ _
  refine⟨[],?_,List.nodup_nil,by simp,fun j=>by simp[Iv]⟩
  rw[BP,if_neg (by simp[Ae])]
  simp[Iv]
 ·intro n k hk ih g ws hg hws
  obtain⟨x,hx,hxm⟩:=B6 hk
  rw[BP,if_pos (by simp[Ae];omega),BB hx]
  simp only[Option.bind_some]
  rw[F5 hl (hF x hxm)]
  simp only[Option.bind_some]
  rw[A4 (n:=(k:Int) + 1) (by omega) (by omega),show ((k:Int) + 1)=((k+1:Nat):Int) from rfl]
  cases hlv:Cp h x
  ·simp only[Bool.false_eq_true,if_false,Option.bind_some]
   have e:(rowOf h.length fun j=>((g j+CD h (c.fields.drop k) j:Nat):Int))=rowOf h.length fun j=>((g j+CD h (c.fields.drop (k+1)) j:Nat):Int):=Ba fun j _=>by
    rw[Er hx,Hv hlv];simp
   rw[e]
   obtain⟨ps,h1,h2,h3,h4⟩:=ih g ws hg (by omega)
   refine⟨ps,h1,h2,by omega,fun j=>?_⟩
   rw[h4 j,Er hx,Hv hlv];simp
  ·obtain⟨q,c',h1,h2,h3,_⟩:=ED hlv
   have e1:x - 1000=(q:Int):=by omega
   have hq:CD h (c.fields.drop k) q=1+CD h (c.fields.drop (k+1)) q:=by rw[Er hx,Io hlv,h2];simp
   have hne :∀j,¬ j=q→CD h (c.fields.drop k) j=CD h (c.fields.drop (k+1)) j:=fun j e=>by
    have e':¬ q=j:=fun h=>e h.symm
    rw[Er hx,Io hlv,h2];simp[e']
   have hcb:=Mo h (c.fields.drop (k+1)) q
   have hcl:(c.fields.drop (k+1)).length≤c.fields.length:=by simp
   have hgq:=hg q
   simp only[if_true]
   rw[A4 (n:=x - 1000) (by omega) (by omega),e1,BB (Br h3)]
   simp only[Option.bind_some]
   rw[A4 (n:=((g q+CD h (c.fields.drop k) q:Nat):Int) - 1) (by omega) (by omega),F9,FD]
   have er:(rowOf h.length fun j=>if j=q then ((g q+CD h (c.fields.drop k) q:Nat):Int) - 1 else ((g j+CD h (c.fields.drop k) j:Nat):Int))=rowOf h.length fun j=>((g j+CD h (c.fields.drop (k+1)) j:Nat):Int):=Ba fun j _=>by
    by_cases e:j=q
    ·subst e;simp only[if_true];omega
    ·simp only[e,if_false];rw[hne j e]
   rw[er,BB (Br h3)]
   simp only[Option.bind_some]
   by_cases hz:g q+CD h (c.fields.drop (k+1)) q=0
   ·have ez:decide (((g q+CD h (c.fields.drop (k+1)) q:Nat):Int)=0)=true:=by simp;omega
    rw[if_pos ez,ES _ _ _ (by simp[DD];omega) (by simp[DD];omega)]
    simp only[Option.bind_some]
    have en:DD ws ++ [(q:Int)]=DD (ws ++ [q]):=by simp[DD]
    rw[en]
    obtain⟨ps,f1,f2,f3,f4⟩:=ih g (ws ++ [q]) hg (by simp;omega)
    refine⟨q :: ps,by rw[f1];simp,List.nodup_cons.2 ⟨fun hm=>?_,f2⟩,by simp;omega,fun j=>?_⟩
    ·have:=(f4 q).1 hm;omega
    ·rw[List.mem_cons,f4 j]
     by_cases e:j=q
     ·subst e;rw[hq];constructor
      ·intro _;omega
      ·intro _;exact .inl rfl
     ·rw[hne j e];simp[e]
   ·have ez:decide (((g q+CD h (c.fields.drop (k+1)) q:Nat):Int)=0)=false:=by simp;omega
    rw[if_neg (by rw[ez];simp)]
    simp only[Option.bind_some]
    obtain⟨ps,f1,f2,f3,f4⟩:=ih g ws hg (by omega)
    refine⟨ps,f1,f2,by omega,fun j=>?_⟩
    rw[f4 j]
    by_cases e:j=q
    ·subst e;rw[hq];constructor
     ·rintro⟨a,b⟩;exact⟨a,by omega⟩
     ·rintro⟨a,b⟩;exact⟨a,by omega⟩
    ·rw[hne j e]
structure KI (h:List Cell) (p:Nat→Bool) (ws:List Nat) (many:Nat):Prop where
 nd:ws.Nodup
 mem :∀x∈ws,x < h.length∧p x=false∧un h p x=0
 all :∀j,j < h.length→un h p j=0→p j=true∨j∈ws
 num:GK p h.length=many
 tm :∃tm:Nat→Nat,(∀j,j < h.length→p j=true→tm j < many)∧∀i j,ch h i j→p j=true→p i=true∧tm i < tm j
theorem OI {ws:List Nat} {n:Nat} (hnd:ws.Nodup) (hm :∀x∈ws,x < n):ws.length≤n:=by
 induction n generalizing ws with
 | zero=>
  cases ws with
  | nil=>simp
  | cons x r=>have:=hm x (by simp);omega
 | succ n ih=>
  by_cases h:n∈ws
  ·have h1:=ih (hnd.erase n) fun x hx=>by
    obtain⟨h2,h3⟩:=hnd.mem_erase_iff.1 hx
    have:=hm x h3;omega
   rw[List.length_erase_of_mem h] at h1;omega
  ·have:=ih hnd fun x hx=>by
    have h1:=hm x hx
    have h2:¬ x=n:=fun e=>h (e ▸ hx)
    omega
   omega
theorem R2 {h:List Cell} {p:Nat→Bool} {j i:Nat} (hu:un h p j=0) (hc:ch h i j):p i=true:=by
 obtain⟨c,w,h1,h2,h3,h4⟩:=hc
 cases hp:p i with
 | true=>rfl
 | false=>
  have:=LL.1 hu i (List.getElem?_eq_some_iff.1 h1).1 hp
  rw[Jg h1] at this
  have:=(KX (j:=j) h1).2 ⟨c,w,h1,h2,h3,h4⟩
  omega
theorem KI.step {h:List Cell} {p:Nat→Bool} {ws ps:List Nat} {many x:Nat} {c:Cell} (hK:KI h p (ws ++ [x]) many) (hc:h[x]?=some c) (hps:ps.Nodup)
  (hmem :∀j,j∈ps↔un h (fun k=>if k=x then true else p k) j=0∧0 < CD h c.fields j):KI h (fun k=>if k=x then true else p k) (ws ++ ps) (many+1):=by
 obtain⟨hx1,hx2,hx3⟩:=hK.mem x (by simp)
 obtain⟨tm,t1,t2⟩:=hK.tm
 have hset :∀j,un h p j=un h (fun k=>if k=x then true else p k) j+CD h c.fields j:=fun j=>by
  have:=L8 (h:=h) (j:=j) hx1 hx2
  rwa [Jg hc] at this
 have hnd:=hK.nd
 rw[List.nodup_append] at hnd
 obtain⟨hnd1,_,hnd3⟩:=hnd
 have hfresh :∀j∈ps,j < h.length∧¬ j=x∧p j=false∧0 < un h p j:=fun j hj=>by
  obtain⟨h1,h2⟩:=(hmem j).1 hj
  have hch:=(KX hc).1 h2
  have hpos:0 < un h p j:=by have:=hset j;omega
  have hjx:¬ j=x:=fun e=>by subst e;omega
  refine⟨(Ig hch).2,hjx,?_,hpos⟩
  cases hp:p j with
  | false=>rfl
  | true=>have:=(t2 x j hch hp).1;rw[hx2] at this;cases this
 refine⟨?_,fun y hy=>?_,fun j hj hu=>?_,by rw[MQ hx1 hx2,hK.num],⟨fun k=>if k=x then many else tm k,fun j hj hp=>?_,fun i j hij hp=>?_⟩⟩
 ·rw[List.nodup_append]
  refine⟨hnd1,hps,fun a ha b hb e=>?_⟩
  subst e
  have h1:=(hK.mem a (by simp[ha])).2.2
  have h2:=(hfresh a hb).2.2.2
  omega
 ·rcases List.mem_append.1 hy with hy | hy
  ·obtain⟨h1,h2,h3⟩:=hK.mem y (by simp[hy])
   have hyx:¬ y=x:=fun e=>hnd3 y hy x (by simp) e
   have:=hset y
   exact⟨h1,by simp[hyx,h2],by omega⟩
  ·obtain⟨h1,h2,h3,_⟩:=hfresh y hy
   exact⟨h1,by simp[h2,h3],((hmem y).1 hy).1⟩
 ·by_cases hjx:j=x
  ·left;simp[hjx]
  ·have hs:=hset j
   rcases Nat.eq_zero_or_pos (CD h c.fields j) with h0 | h0
   ·rcases hK.all j hj (by omega) with h1 | h1
    ·left;simp[hjx,h1]
    ·right
     rcases List.mem_append.1 h1 with h2 | h2
     ·exact List.mem_append.2 (.inl h2)
     ·simp at h2;exact absurd h2 hjx
   ·right;exact List.mem_append.2 (.inr ((hmem j).2 ⟨hu,h0⟩))
 ·by_cases hjx:j=x
  ·simp[hjx]
  ·simp only[hjx,if_false] at hp ⊢
   have:=t1 j hj hp;omega
 ·by_cases hjx:j=x
  ·subst hjx
   have hpi:=R2 hx3 hij
   have hix:¬ i=j:=fun e=>by subst e;rw[hx2] at hpi;cases hpi
   simp only[hix,if_false,if_true]
   exact⟨hpi,t1 i (Ig hij).1 hpi⟩
  ·simp only[hjx,if_false] at hp
   obtain⟨h1,h2⟩:=t2 i j hij hp
   have hix:¬ i=x:=fun e=>by subst e;rw[hx2] at h1;cases h1
   simp only[hix,hjx,if_false]
   exact⟨h1,h2⟩
theorem Oj {h:List Cell} (H:Hp h) {M:Nat} (hM:2000000≤M) :∀(d N:Nat) (p:Nat→Bool) (ws:List Nat) (many:Nat),KI h p ws many→h.length - many=d→d < N→
  ∃p' many',BT M h N (many:Int) (rowOf h.length fun j=>((un h p j:Nat):Int)) (DD ws)=some ((many':Nat):Int)∧KI h p' [] many':=by
 have hl:=H.len
 intro d
 induction d with
 | zero=>
  intro N p ws many hK hd hN
  obtain⟨n,rfl⟩ :∃n,N=n+1:=⟨N - 1,by omega⟩
  have hmany:many=h.length:=by have:=Gh p h.length;have:=hK.num;omega
  have hws:ws=[]:=by
   cases ws with
   | nil=>rfl
   | cons x r=>
    obtain⟨h1,h2,_⟩:=hK.mem x (by simp)
    have:=Fx.1 (hK.num.trans hmany) x h1
    rw[h2] at this;cases this
  subst hws
  exact⟨p,many,by rw[BT,if_neg (by simp[Ae,DD])],hK⟩
 | succ d ih=>
  intro N p ws many hK hd hN
  obtain⟨n,rfl⟩ :∃n,N=n+1:=⟨N - 1,by omega⟩
  have hmany:many≤h.length:=by have:=Gh p h.length;have:=hK.num;omega
  rcases List.eq_nil_or_concat ws with rfl | ⟨ws,x,rfl⟩
  ·exact⟨p,many,by rw[BT,if_neg (by simp[Ae,DD])],hK⟩
  ·rw[List.concat_eq_append] at hK ⊢
   obtain⟨hx1,hx2,hx3⟩:=hK.mem x (by simp)
   obtain⟨c,hc,hcm⟩:=B6 hx1
   have hwl:=OI hK.nd (fun y hy=>(hK.mem y hy).1)
   rw[List.length_append,List.length_singleton] at hwl
   have elen:Sh.w (Sh.len (DD (ws ++ [x])) - 1)=(ws.length:Int):=by
    rw[Ae]
    have:(DD (ws ++ [x])).length=ws.length+1:=by simp[DD]
    rw[this,A4 (by omega) (by omega)];omega
   have eget:Sh.get (DD (ws ++ [x])) (ws.length:Int)=some (x:Int):=by
    rw[KM];simp[DD]
   have ehi:Sh.hi (DD (ws ++ [x])) (ws.length:Int)=some (DD ws):=by
    rw[Kf (by simp[DD])]
    congr 1
    simp[DD]
   rw[BT,if_pos (by simp[Ae,DD]),elen,eget]
   simp only[Option.bind_some]
   rw[BB hc,ehi]
   simp only[Option.bind_some]
   have hun :∀j,un h p j=un h (fun k=>if k=x then true else p k) j+CD h c.fields j:=fun j=>by
    have:=L8 (h:=h) (j:=j) hx1 hx2
    rwa [Jg hc] at this
   have hfs:=H.size
   obtain⟨ps,f1,f2,f3,f4⟩:=Oq hl (H.HB hcm) (H.cells c hcm).fields (Nat.zero_le _) (by have:=H.HB hcm;omega:c.fields.length - 0 < M) (fun j=>un h (fun k=>if k=x then true else p k) j) ws
    (fun j=>by have:=R4 h (fun k=>if k=x then true else p k) j;unfold Bc at hfs;omega) (by omega)
   rw[show ((0:Nat):Int)=0 from rfl,List.drop_zero] at f1
   have er:(rowOf h.length fun j=>((un h p j:Nat):Int))=rowOf h.length fun j=>((un h (fun k=>if k=x then true else p k) j+CD h c.fields j:Nat):Int):=Ba fun j _=>by rw[hun j]
   rw[er,f1]
   simp only[Option.bind_some]
   have ew:Sh.w ((many:Int) + 1)=((many+1:Nat):Int):=by rw[A4 (by omega) (by omega)];rfl
   rw[ew]
   have hK':=hK.step hc f2 (by rw[List.drop_zero] at f4;exact f4)
   exact ih n _ _ (many+1) hK' (by omega) (by omega)
theorem MM (rk:Nat→Nat) (n:Nat) :∃B,∀j,j < n→rk j≤B:=by
 induction n with
 | zero=>exact⟨0,fun j hj=>by omega⟩
 | succ n ih=>
  obtain⟨B,hB⟩:=ih
  refine⟨max B (rk n),fun j hj=>?_⟩
  rcases Nat.lt_succ_iff_lt_or_eq.1 hj with h1 | rfl
  ·have:=hB j h1;omega
  ·omega
theorem JM {h:List Cell} {p:Nat→Bool} {many:Nat} (hK:KI h p [] many):many=h.length↔J9 h:=by
 obtain⟨tm,t1,t2⟩:=hK.tm
 constructor
 ·intro e
  have hall:=Fx.1 (hK.num.trans e)
  refine⟨fun k=>h.length - tm k,fun i j hij=>?_⟩
  obtain⟨hi,hj⟩:=Ig hij
  obtain⟨_,h2⟩:=t2 i j hij (hall j hj)
  have:=t1 j hj (hall j hj)
  show h.length - tm j < h.length - tm i
  omega
 ·rintro⟨rk,hr⟩
  rw[← hK.num]
  obtain⟨B,hB⟩:=MM rk h.length
  refine Fx.2 fun j hj=>?_
  have key :∀d j,j < h.length→B - rk j < d→p j=true:=by
   intro d
   induction d with
   | zero=>intro j _ h4;omega
   | succ d ih=>
    intro j hj hlt
    cases hp:p j with
    | true=>rfl
    | false=>
     have hu:¬ un h p j=0:=fun e=>by
      rcases hK.all j hj e with h1 | h1
      ·rw[hp] at h1;cases h1
      ·simp at h1
     have :∃i,i < h.length∧p i=false∧¬ CD h (fl h i) j=0:=by
      refine Classical.byContradiction fun hno=>hu (LL.2 fun i hi hpi=>?_)
      refine Classical.byContradiction fun hne=>hno ⟨i,hi,hpi,hne⟩
     obtain⟨i,hi,hpi,hne⟩:=this
     obtain⟨c,hc,_⟩:=B6 hi
     rw[Jg hc] at hne
     have hch:=(KX (j:=j) hc).1 (by omega)
     have h5:=hr i j hch
     have h6:=hB i hi
     have:=ih i hi (by omega)
     rw[hpi] at this;cases this
  exact key (B - rk j+1) j hj (by omega)
end RC


namespace RC
open Go
def DH (h:List Cell):Bool:=match h[h.length - 1]? with | some c=>decide (c.count=0) | none=>false
structure VH (h:List Cell):Prop where
 last:DH h=false
 cells :∀c∈h,E0 h c=true
 counts :∀j,j < h.length→Ka h j=true
 Mp:J9 h
theorem Nf {h:List Cell} (hl:h.length≤1048576):(if (decide (0 < (Sh.len h)))=true then Option.bind (Sh.get h (Sh.w ((Sh.len h) - 1))) fun c=>some (decide (c.count=0)) else some false)=some (DH h):=by
 rw[Ae]
 unfold DH
 by_cases h0:h.length=0
 ·have:h=[]:=List.eq_nil_of_length_eq_zero h0
  subst this;rfl
 ·obtain⟨c,hc,_⟩:=B6 (l:=h) (i:=h.length - 1) (by omega)
  rw[if_pos (by simp;omega),A4 (by omega) (by omega),show ((h.length:Int) - 1)=((h.length - 1:Nat):Int) by omega,BB hc,hc]
  rfl
theorem R6 {h:List Cell} (hc :∀c∈h,F4 h c=true):WF h:=fun c hcm w hw=>by
 have:=hc c hcm
 unfold F4 at this
 simp only[Bool.and_eq_true] at this
 have h2:=List.all_eq_true.1 this.2 w hw
 simp only[Bool.and_eq_true] at h2
 exact h2.1
theorem Kq {h:List Cell} {c:Cell} (hc:E0 h c=true):F4 h c=true∧c.count≤999999:=by
 rw[MW,Bool.and_eq_true,decide_eq_true_eq] at hc;exact hc
theorem My {h:List Cell} (H:Hp h) {M:Nat} (hM:2000000≤M) {N i:Nat} (hi:i≤h.length) (hN:h.length - i < N):Bm M h N i=some (if (h.drop i).all (E0 h) then Sum.inr () else Sum.inl false):=by
 have hl:=H.len
 refine BG h.length (fun N i=>Bm M h N i=some (if (h.drop i).all (E0 h) then Sum.inr () else Sum.inl false)) ?_ ?_ hi hN
 ·intro n
  rw[Bm,if_neg (by simp[Ae])];simp
 ·intro n i hi ih
  obtain⟨c,hc,hcm⟩:=B6 hi
  rw[Bm,if_pos (by simp[Ae];omega),BB hc]
  simp only[Option.bind_some]
  rw[Ll hl (H.HB hcm) (H.cells c hcm).fields hM,A4 (by omega) (by omega),show ((i:Int) + 1)=((i+1:Nat):Int) from rfl,ih,Dt hc]
  cases E0 h c <;> simp
theorem Nd {h:List Cell} (H:Hp h) {N:Nat} (hN:2000000≤N) :∃b,B8 N h=some b∧(b=true↔VH h):=by
 have hl:=H.len
 unfold B8
 rw[Nf hl]
 simp only[Option.bind_some]
 cases h1:DH h with
 | true=>exact⟨false,by simp,(by simp;intro hv;rw[hv.last] at h1;cases h1)⟩
 | false=>
  have e1:=My H hN (Nat.zero_le _) (by omega:h.length - 0 < N)
  rw[show ((0:Nat):Int)=0 from rfl,List.drop_zero] at e1
  simp only[Bool.false_eq_true,if_false]
  rw[e1,Fy H hN]
  cases h2:h.all (E0 h) with
  | false=>
   refine⟨false,by simp,?_⟩
   simp only[Bool.false_eq_true,false_iff]
   intro hv
   have:=List.all_eq_true.2 hv.cells
   rw[h2] at this;cases this
  | true=>
   have hcells:=List.all_eq_true.1 h2
   simp only[if_true,Sh.Eo,Option.bind_some]
   have e2:=NH hl (Nat.zero_le _) (by omega:h.length - 0 < N)
   rw[show ((0:Nat):Int)=0 from rfl] at e2
   rw[e2]
   cases h3:C7 (Ka h) h.length 0 with
   | false=>
    refine⟨false,by simp,?_⟩
    simp only[Bool.false_eq_true,false_iff]
    intro hv
    have:=(FA (p:=Ka h) (Nat.zero_le _)).2 fun j _ hj=>hv.counts j hj
    rw[h3] at this;cases this
   | true=>
    have hcnt:=(FA (p:=Ka h) (Nat.zero_le _)).1 h3
    obtain⟨b,f1,f2⟩:=Lf H (R6 fun c hc=>(Kq (hcells c hc)).1) hN
    simp only[if_true,Sh.Eo]
    rw[f1]
    exact⟨b,rfl,f2.trans ⟨fun hr=>⟨h1,hcells,fun j hj=>hcnt j (Nat.zero_le _) hj,hr⟩,fun hv=>hv.Mp⟩⟩
theorem Mn {h:List Cell} {j:Nat} {c:Cell} (hc:h[j]?=some c):NL h j=true↔Ka h j=true∧(0 < c.count→c.count≤999999):=by
 unfold NL Ka
 rw[hc]
 by_cases h1:0 < c.count <;> by_cases h2:c.count < Cf h h j <;> by_cases h3:999999 < c.count <;> simp[h1,h2,h3] <;> omega
theorem JK (l:List Int) (hl:l.length≤1048576):B0 l=some l:=by
 unfold B0
 rw[ES _ _ _ (by simp;omega) (by simp;omega)];rfl
theorem Ni {h:List Cell} (H:Hp h) {N:Nat} (hN:2000000≤N) :∃r b,CH N h=some (r,b)∧(b=true↔VH h)∧(b=true→r=refs h):=by
 have hl:=H.len
 unfold CH
 rw[Nf hl,Ae,Mj _ h.length 8 (by omega) (by omega),G0]
 simp only[Option.bind_some]
 have e1:=OO H hN (Nat.zero_le _) (by omega:h.length - 0 < N) (fun _=>0) (fun j=>⟨by omega,by
  have h1:=O2 h (h.drop 0) j
  have h2:=IH h 0
  have h3:=H.size
  unfold Bc at h3;omega⟩)
 rw[show ((0:Nat):Int)=0 from rfl,List.drop_zero] at e1
 rw[e1]
 have er:(rowOf h.length fun j=>(0:Int) + (Cf h h j:Int))=refs h:=Ba fun j _=>by omega
 rw[er]
 cases h2:h.all (F4 h) with
 | false=>
  refine⟨[],false,by simp,?_,by simp⟩
  simp only[Bool.false_eq_true,false_iff]
  intro hv
  have:=List.all_eq_true.2 fun c hc=>(Kq (hv.cells c hc)).1
  rw[h2] at this;cases this
 | true=>
  have hcells:=List.all_eq_true.1 h2
  simp only[if_true,Sh.Eo]
  cases h1:DH h with
  | true=>exact⟨[],false,by simp,(by simp;intro hv;rw[hv.last] at h1;cases h1),by simp⟩
  | false=>
   have hrl:(refs h).length=h.length:=Ca
   simp only[Bool.false_eq_true,if_false]
   rw[JK _ (by omega)]
   have e2:=Ow hl (Nat.zero_le _) (by omega:h.length - 0 < N) [] (by simp)
   rw[show ((0:Nat):Int)=0 from rfl,List.nil_append,show DD []=[] from rfl] at e2
   rw[e2]
   simp only[Option.bind_some]
   cases h3:C7 (NL h) h.length 0 with
   | false=>
    refine⟨[],false,by simp,?_,by simp⟩
    simp only[Bool.false_eq_true,false_iff]
    intro hv
    have:=(FA (p:=NL h) (Nat.zero_le _)).2 fun j _ hj=>by
     obtain⟨c,hc,hcm⟩:=B6 hj
     exact (Mn hc).2 ⟨hv.counts j hj,fun _=>(Kq (hv.cells c hcm)).2⟩
    rw[h3] at this;cases this
   | true=>
    have hcnt:=(FA (p:=NL h) (Nat.zero_le _)).1 h3
    simp only[if_true,Sh.Eo]
    have hr0:refs h=rowOf h.length fun j=>((un h (fun _=>false) j:Nat):Int):=Ba fun j _=>by rw[JE]
    have hK0:KI h (fun _=>false) (GV h 0) 0:=by
     have hz :∀x,x∈GV h 0↔x < h.length∧Cf h h x=0:=fun x=>by
      unfold GV
      rw[List.mem_filter,List.mem_range']
      simp
     refine⟨?_,fun x hx=>?_,fun j hj hu=>?_,?_,⟨fun _=>0,fun _ _ h=>(by cases h),fun _ _ _ h=>(by cases h)⟩⟩
     ·exact List.Nodup.sublist List.filter_sublist List.nodup_range'
     ·obtain⟨h4,h5⟩:=(hz x).1 hx
      exact⟨h4,rfl,by rw[JE];exact h5⟩
     ·rw[JE] at hu
      exact .inr ((hz j).2 ⟨hj,hu⟩)
     ·have :∀n,GK (fun _=>false) n=0:=fun n=>by induction n with
       | zero=>rfl
       | succ n ih=>rw[D0,ih];rfl
      exact this _
    obtain⟨p',many',f1,f2⟩:=Oj H hN h.length N _ _ 0 hK0 (by omega) (by omega)
    rw[show ((0:Nat):Int)=0 from rfl,← hr0] at f1
    rw[f1]
    refine⟨refs h,_,rfl,?_,fun _=>rfl⟩
    rw[decide_eq_true_eq]
    have hm:((many':Nat):Int)=(h.length:Int)↔many'=h.length:=by omega
    rw[hm,JM f2]
    constructor
    ·intro hr
     refine⟨h1,fun c hc=>?_,fun j hj=>?_,hr⟩
     ·rw[MW,hcells c hc,Bool.true_and,decide_eq_true_eq]
      obtain⟨j,hj⟩:=List.mem_iff_getElem?.1 hc
      by_cases h4:0 < c.count
      ·exact ((Mn hj).1 (hcnt j (Nat.zero_le _) (List.getElem?_eq_some_iff.1 hj).1)).2 h4
      ·omega
     ·obtain⟨c,hc,_⟩:=B6 hj
      exact ((Mn hc).1 (hcnt j (Nat.zero_le _) hj)).1
    ·exact fun hv=>hv.Mp
theorem QC {b b':Bool} {p:Prop} (h1:b=true↔p) (h2:b'=true↔p):b=b':=by
 cases b <;> cases b' <;> simp at h1 h2 <;> first | rfl | exact absurd h2 h1 | exact absurd h1 h2
theorem FM {h:List Cell} (H:Hp h) {N:Nat} (hN:2000000≤N) :∃b r,B8 N h=some b∧HF N h=some b∧CH N h=some (r,b)∧Ct N h=some b∧(b=true↔VH h)∧(b=true→r=refs h):=by
 obtain⟨b,h1,h2⟩:=Nd H hN
 obtain⟨r,b',h3,h4,h5⟩:=Ni H hN
 obtain rfl:=QC h2 h4
 exact⟨b,r,h1,by unfold HF;rw[h1];rfl,h3,by unfold Ct;rw[h3];rfl,h2,h5⟩
end RC


namespace RC
open Go
end RC



namespace RC
open Go
def As {α:Type} (x:Option α) (Q:α→Prop):Prop:=∃v,x=some v∧Q v
theorem As.some {α:Type} {v:α} {Q:α→Prop} (h:Q v):As (some v) Q:=⟨v,rfl,h⟩
theorem As.of {α:Type} {x:Option α} {v:α} {Q:α→Prop} (e:x=Option.some v) (h:Q v):As x Q:=⟨v,e,h⟩
theorem As.mono {α:Type} {x:Option α} {Q R:α→Prop} (h:As x Q) (g :∀v,Q v→R v):As x R:=
 let ⟨v,e,q⟩:=h;⟨v,e,g v q⟩
theorem As.bind {α β:Type} {x:Option α} {f:α→Option β} {R:α→Prop} {Q:β→Prop} (h:As x R) (k :∀v,R v→As (f v) Q):As (Option.bind x f) Q:=by
 obtain⟨v,rfl,hv⟩:=h;exact k v hv
theorem B2 {α β:Type} {x:Option α} {f:α→Option β} {v:α} {Q:β→Prop} (h:x=Option.some v) (k:As (f v) Q):As (Option.bind x f) Q:=by
 subst h;exact k
theorem EH {α:Type} {b:Bool} {x y:Option α} {Q:α→Prop} (h1:b=true→As x Q) (h2:b=false→As y Q):As (if b=true then x else y) Q:=by
 cases b
 ·exact h2 rfl
 ·exact h1 rfl
theorem Be {α:Type} {p:Prop} [Decidable p] {x y:Option α} {Q:α→Prop} (h1:p→As x Q) (h2:¬ p→As y Q):As (if decide p=true then x else y) Q:=by
 by_cases h:p
 ·rw[if_pos (by simpa using h)];exact h1 h
 ·rw[if_neg (by simpa using h)];exact h2 h
theorem As.get {α β:Type} {l:List α} {j:Int} {f:α→Option β} {Q:β→Prop} (h0:0≤j) (h1:j < l.length) (k :∀x,l[j.toNat]?=Option.some x→x∈l→As (f x) Q):As (Option.bind (Sh.get l j) f) Q:=by
 obtain⟨x,e,hx⟩:=Kh h0 h1
 exact B2 e (k x hx (List.mem_of_getElem? hx))
theorem As.app {α β:Type} {l m:List α} {b:Nat} {f:List α→Option β} {Q:β→Prop} (h:(l.length+m.length) * b≤140737488355328) (h2:l.length+m.length≤9223372036854775807) (k:As (f (l ++ m)) Q):As (Option.bind (Sh.app l m b) f) Q:=B2 (ES l m b h h2) k
theorem OP {n:Int} (h1:-9223372036854775808≤n) (h2:n≤9223372036854775807):Sh.wk .i64 n=n:=Abs.wrap_i64 h1 h2
theorem RU {a b:Int} (ha:0≤a) (ha':a < 4611686018427387904) (hb:0≤b) (hb':b < 4611686018427387904):0≤Sh.xor a b∧Sh.xor a b < 4611686018427387904:=by
 obtain⟨x,rfl⟩:=Int.eq_ofNat_of_zero_le ha
 obtain⟨y,rfl⟩:=Int.eq_ofNat_of_zero_le hb
 have e:Sh.xor (x:Int) (y:Int)=((x ^^^ y:Nat):Int):=by
  unfold Sh.xor
  have h1:(BitVec.ofInt 64 (x:Int) ^^^ BitVec.ofInt 64 (y:Int)).toNat=x ^^^ y:=by
   rw[BitVec.toNat_xor]
   simp only[BitVec.ofInt_natCast,BitVec.toNat_ofNat]
   rw[Nat.mod_eq_of_lt (by omega),Nat.mod_eq_of_lt (by omega)]
  rw[h1]
  have h2:x ^^^ y < 2 ^ 62:=Nat.xor_lt_two_pow (by omega) (by omega)
  exact Abs.wrap_i64 (by omega) (by omega)
 have h2:x ^^^ y < 2 ^ 62:=Nat.xor_lt_two_pow (by omega) (by omega)
 rw[e];omega
end RC



namespace RC
open Go
def cat (h:List Cell) (j:Nat):Cell:=(h[j]?).getD ⟨0,0,[]⟩
def ct (h:List Cell) (j:Nat):Int:=(cat h j).count
theorem Iz {h:List Cell} {j:Nat} {c:Cell} (hc:h[j]?=some c):cat h j=c:=by simp[cat,hc]
theorem DB {h:List Cell} {j:Nat} (hj:j < h.length):h[j]?=some (cat h j):=by
 obtain⟨c,hc,_⟩:=B6 hj
 rw[Iz hc];exact hc
theorem Cm {h:List Cell} {j:Nat} (hj:h.length≤j):cat h j=⟨0,0,[]⟩:=by simp[cat,List.getElem?_eq_none hj]
theorem Di {h:List Cell} {j:Nat} (hj:j < h.length):cat h j∈h:=List.mem_of_getElem? (DB hj)
theorem G9 {h:List Cell} {j:Nat} (hj:ct h j≠0):j < h.length:=by
 by_cases h0:j < h.length
 ·exact h0
 ·exact absurd (by unfold ct;rw[Cm (by omega)]) hj
theorem B1 (h:List Cell) (j:Nat):fl h j=(cat h j).fields:=by
 unfold fl cat;cases h[j]? <;> rfl
theorem IQ (h:List Cell):rowOf h.length (cat h)=h:=by
 apply List.ext_getElem?
 intro k
 by_cases hk:k < h.length
 ·rw[Br hk,DB hk]
 ·rw[List.getElem?_eq_none (by rw[Ca];omega),List.getElem?_eq_none (by omega)]
theorem IN {n:Nat} {f:Nat→Cell} {j:Nat} (hj:j < n):cat (rowOf n f) j=f j:=Iz (Br hj)
def pc (ws:List Int) (j:Nat):Nat:=ws.countP fun w=>decide (w=1000+(j:Int))
theorem Et (j:Nat):pc [] j=0:=rfl
theorem E7 (a b:List Int) (j:Nat):pc (a ++ b) j=pc a j+pc b j:=by simp[pc,List.countP_append]
theorem G6 (w:Int) (j:Nat):pc [w] j=if w=1000+(j:Int) then 1 else 0:=by simp[pc,List.countP_cons]
theorem Kr (w:Int) (ws:List Int) (j:Nat):pc (w :: ws) j=(if w=1000+(j:Int) then 1 else 0) + pc ws j:=by
 rw[show w :: ws=[w] ++ ws from rfl,E7,G6]
theorem Hu {ws:List Int} {j:Nat}:0 < pc ws j↔(1000+(j:Int))∈ws:=by
 unfold pc
 rw[List.countP_pos_iff]
 constructor
 ·rintro⟨w,h1,h2⟩
  rw[decide_eq_true_eq] at h2;subst h2;exact h1
 ·intro h;exact⟨_,h,by simp⟩
def DS (h:List Cell) (p:Nat→Bool) (j:Nat):Nat→Nat
 | 0=>0
 | n+1=>DS h p j n+if p n then pc (fl h n) j else 0
abbrev Es (h:List Cell) (j:Nat):Nat:=DS h (fun _=>true) j h.length
abbrev I0 (h:List Cell) (p:Nat→Bool) (j:Nat):Nat:=DS h p j h.length
theorem Ej {h g:List Cell} {p q:Nat→Bool} {j n:Nat} (e :∀i,i < n→(if p i then pc (fl h i) j else 0)=(if q i then pc (fl g i) j else 0)):DS h p j n=DS g q j n:=by
 induction n with
 | zero=>rfl
 | succ n ih=>unfold DS;rw[ih fun i hi=>e i (by omega),e n (by omega)]
theorem N5 {h:List Cell} {p:Nat→Bool} {j n x:Nat} (hx:x < n) (hp:p x=false):DS h (fun k=>if k=x then true else p k) j n=DS h p j n+pc (fl h x) j:=by
 induction n with
 | zero=>omega
 | succ n ih=>
  unfold DS
  by_cases e:x=n
  ·subst e
   rw[Ej (g:=h) (q:=p) (n:=x) (fun i hi=>by
    have:¬ i=x:=by omega
    simp[this])]
   simp[hp]
  ·have e':¬ n=x:=fun h=>e h.symm
   rw[ih (by omega)]
   simp only[e',if_false]
   omega
theorem NJ {h:List Cell} {p q:Nat→Bool} {j n:Nat} (e :∀i,i < n→p i=true→q i=true):DS h p j n≤DS h q j n:=by
 induction n with
 | zero=>exact Nat.le_refl _
 | succ n ih=>
  unfold DS
  have h1:=ih fun i hi=>e i (by omega)
  have h2:=e n (by omega)
  cases hp:p n with
  | false=>simp;omega
  | true=>simp[h2 hp];omega
theorem Qd {h:List Cell} {p q:Nat→Bool} {j n:Nat} (e :∀i,i < n→p i=true→q i=false):DS h (fun i=>p i || q i) j n=DS h p j n+DS h q j n:=by
 induction n with
 | zero=>rfl
 | succ n ih=>
  unfold DS
  rw[ih fun i hi=>e i (by omega)]
  have h2:=e n (by omega)
  cases hp:p n with
  | false=>cases hq:q n <;> simp <;> omega
  | true=>simp[h2 hp];omega
theorem Jh {h:List Cell} {p:Nat→Bool} {j n:Nat} (e :∀i,i < n→p i=true→pc (fl h i) j=0):DS h p j n=0:=by
 induction n with
 | zero=>rfl
 | succ n ih=>
  unfold DS
  rw[ih fun i hi=>e i (by omega)]
  cases hp:p n with
  | false=>simp
  | true=>simp[e n (by omega) hp]
theorem Pb {h:List Cell} {p:Nat→Bool} {j n m:Nat} (hn:h.length≤n):DS h p j (n+m)=DS h p j n:=by
 induction m with
 | zero=>rfl
 | succ m ih=>
  show DS h p j (n+m) + (if p (n+m) then pc (fl h (n+m)) j else 0)=_
  rw[ih,B1,Cm (by omega)]
  simp[Et]
theorem Gi {h:List Cell} {j:Nat}:Cp h (1000+(j:Int))=decide (0 < ct h j):=by
 unfold Cp ct cat
 rw[show (1000+(j:Int) - 1000).toNat=j by omega]
 have e:decide ((1000:Int)≤1000+(j:Int))=true:=by simp;omega
 rw[e,Bool.true_and]
 cases h[j]? <;> rfl
theorem Hq {w:Int} (hw:1000≤w):w=1000+(((w - 1000).toNat:Nat):Int):=by omega
theorem N2 {h:List Cell} {j:Nat} {w:Int}:HA h j w=(decide (0 < ct h j) && decide (w=1000+(j:Int))):=by
 unfold HA
 by_cases hw:1000≤w
 ·obtain⟨i,hi⟩ :∃i:Nat,w=1000+(i:Int):=⟨_,Hq hw⟩
  subst hi
  rw[Gi,show (1000+(i:Int) - 1000).toNat=i by omega]
  by_cases e:i=j
  ·subst e;simp
  ·have e1:¬ (1000+(i:Int)=1000+(j:Int)):=by omega
   simp[e,e1]
 ·rw[Ei hw]
  have e1:¬ (w=1000+(j:Int)):=by omega
  simp[e1]
theorem Q0 (h:List Cell) (ws:List Int) (j:Nat):CD h ws j=if 0 < ct h j then pc ws j else 0:=by
 unfold CD pc
 by_cases hc:0 < ct h j
 ·rw[if_pos hc]
  refine List.countP_congr fun w _=>?_
  rw[N2];simp[hc]
 ·rw[if_neg hc,List.countP_eq_zero]
  intro w _
  rw[N2];simp[hc]
theorem Hc (h:List Cell) (j:Nat):Cf h h j=if 0 < ct h j then Es h j else 0:=by
 rw[← JE]
 unfold un
 have key :∀n,En h (fun _=>false) j n=if 0 < ct h j then DS h (fun _=>true) j n else 0:=by
  intro n
  induction n with
  | zero=>simp[En,DS]
  | succ n ih=>
   unfold En DS
   rw[ih,Q0]
   by_cases hc:0 < ct h j <;> simp[hc]
 exact key _
theorem E2 {l:List Int} (hl:l.length≤1048576):CZ l=some l:=by
 unfold CZ
 rw[ES [] l 8 (by simp;omega) (by simp;omega)];rfl
theorem Mg {h:List Cell} (H:Hp h) {N i:Nat} (hi:i≤h.length) (hN:h.length - i < N):BK h N i (h.take i)=some h:=by
 have hl:=H.len
 refine BG h.length (fun N i=>BK h N i (h.take i)=some h) ?_ ?_ hi hN
 ·intro n
  rw[BK,if_neg (by simp[Ae]),List.take_length]
 ·intro n i hi ih
  obtain⟨c,hc,hcm⟩:=B6 hi
  rw[BK,if_pos (by simp[Ae];omega),BB hc]
  simp only[Option.bind_some]
  rw[E2 (H.HB hcm)]
  simp only[Option.bind_some]
  rw[ES _ _ 40 (by simp;omega) (by simp;omega),A4 (by omega) (by omega),show ((i:Int) + 1)=((i+1:Nat):Int) by omega]
  simp only[Option.bind_some]
  rw[← Fm hc];exact ih
theorem Fc {h:List Cell} (H:Hp h) {N:Nat} (hN:2000000≤N):B7 N h=some h:=by
 have hl:=H.len
 unfold B7
 have:=Mg H (Nat.zero_le _) (by omega:h.length - 0 < N)
 rw[List.take_zero,show ((0:Nat):Int)=0 from rfl] at this
 rw[this];rfl
theorem Lp {h:List Cell} (H:Hp h) {N i:Nat} (hi:i≤h.length) (hN:h.length - i < N):Cg h N i h=some h:=by
 have hl:=H.len
 refine BG h.length (fun N i=>Cg h N i h=some h) ?_ ?_ hi hN
 ·intro n
  rw[Cg,if_neg (by simp[Ae])]
 ·intro n i hi ih
  obtain⟨c,hc,hcm⟩:=B6 hi
  rw[Cg,if_pos (by simp[Ae];omega),BB hc]
  simp only[Option.bind_some]
  rw[JK _ (H.HB hcm)]
  simp only[Option.bind_some]
  rw[A4 (by omega) (by omega),show ((i:Int) + 1)=((i+1:Nat):Int) by omega,F9]
  have:h.set i ⟨c.count,c.tag,c.fields⟩=h:=by
   apply List.ext_getElem?
   intro k
   rw[List.getElem?_set]
   by_cases e:i=k
   ·subst e;rw[if_pos rfl,if_pos hi,hc]
   ·rw[if_neg e]
  rw[this];exact ih
theorem H8 {h:List Cell} (H:Hp h) {N:Nat} (hN:2000000≤N):Ef N h=some h:=by
 have hl:=H.len
 unfold Ef BE
 rw[ES [] h 40 (by simp;omega) (by simp;omega)]
 simp only[Option.bind_some,List.nil_append]
 have:=Lp H (Nat.zero_le _) (by omega:h.length - 0 < N)
 rw[show ((0:Nat):Int)=0 from rfl] at this
 rw[this];rfl
def tl (h:List Cell):Nat→Nat
 | 0=>0
 | n+1=>if ct h n=0 then tl h n else n+1
def Kn (h:List Cell):List Cell:=h.take (tl h h.length)
theorem NF (h:List Cell) (n:Nat):tl h n≤n:=by
 induction n with
 | zero=>exact Nat.le_refl _
 | succ n ih=>unfold tl;split <;> omega
theorem QW (h:List Cell) (n:Nat) :∀j,tl h n≤j→j < n→ct h j=0:=by
 induction n with
 | zero=>intro j _ h2;omega
 | succ n ih=>
  unfold tl
  intro j h1 h2
  split at h1
  ·rename_i h0
   rcases Nat.lt_succ_iff_lt_or_eq.1 h2 with h3 | rfl
   ·exact ih j h1 h3
   ·exact h0
  ·omega
theorem Qr (h:List Cell) (n:Nat):tl h n=0∨ct h (tl h n - 1)≠0:=by
 induction n with
 | zero=>exact .inl rfl
 | succ n ih=>
  unfold tl
  split
  ·exact ih
  ·rename_i h0
   exact .inr (by simpa using h0)
theorem LM (h:List Cell):(Kn h).length=tl h h.length:=by
 unfold Kn;rw[List.length_take];have:=NF h h.length;omega
theorem Js {h:List Cell} {j:Nat} (hj:j < tl h h.length):cat (Kn h) j=cat h j:=by
 unfold cat Kn
 rw[List.getElem?_take,if_pos hj]
def Zr (h:List Cell):Prop:=∀j,ct h j=0→cat h j=⟨0,0,[]⟩
theorem Qi {h:List Cell} (hz:Zr h) (j:Nat):cat (Kn h) j=cat h j:=by
 by_cases hj:j < tl h h.length
 ·exact Js hj
 ·rw[Cm (by rw[LM];omega)]
  by_cases h2:j < h.length
  ·rw[hz j (QW h h.length j (by omega) h2)]
  ·rw[Cm (by omega)]
theorem Ik (h:List Cell):DH h=false↔h.length=0∨ct h (h.length - 1)≠0:=by
 unfold DH ct cat
 by_cases h0:h.length=0
 ·have:h=[]:=List.eq_nil_of_length_eq_zero h0
  subst this;simp
 ·obtain⟨c,hc,_⟩:=B6 (l:=h) (i:=h.length - 1) (by omega)
  rw[hc];simp[h0]
theorem Pt (h:List Cell):DH (Kn h)=false:=by
 rw[Ik,LM]
 rcases Qr h h.length with h1 | h1
 ·exact .inl h1
 ·by_cases h0:tl h h.length=0
  ·exact .inl h0
  ·refine .inr ?_
   unfold ct at h1 ⊢
   rwa [Js (by omega)]
theorem RZ {h:List Cell} (hl:DH h=false):Kn h=h:=by
 unfold Kn
 rw[Ik] at hl
 rcases hl with hl | hl
 ·have:h=[]:=List.eq_nil_of_length_eq_zero hl
  subst this;rfl
 ·have hn0:h.length≠0:=fun h0=>hl (by unfold ct;rw[Cm (by omega)])
  obtain⟨n,hn⟩ :∃n,h.length=n+1:=⟨h.length - 1,by omega⟩
  have:tl h h.length=h.length:=by
   rw[hn] at hl ⊢
   unfold tl
   rw[if_neg (by simpa using hl)]
  rw[this,List.take_length]
theorem JS {h:List Cell} (hl:h.length≤1048576) :∀(n N:Nat),n≤h.length→n < N→C3 h N (n:Int)=some ((tl h n:Nat):Int):=by
 intro n
 induction n with
 | zero=>
  intro N _ hN
  obtain⟨N',rfl⟩ :∃N',N=N' + 1:=⟨N - 1,by omega⟩
  simp[C3,tl]
 | succ n ih=>
  intro N hn hN
  obtain⟨N',rfl⟩ :∃N',N=N' + 1:=⟨N - 1,by omega⟩
  rw[C3,if_pos (by simp),A4 (by omega) (by omega),show (((n+1:Nat):Int) - 1)=((n:Nat):Int) by omega,BB (DB (by omega))]
  simp only[Option.bind_some]
  unfold tl
  by_cases h0:(cat h n).count=0
  ·rw[if_pos (by simpa using h0),if_pos (show ct h n=0 from h0)];exact ih N' (by omega) (by omega)
  ·rw[if_neg (by simpa using h0),if_neg (show ¬ ct h n=0 from h0)]
theorem LZ {h:List Cell} (hl:h.length≤1048576) {N:Nat} (hN:2000000≤N):Ft N h=some (Kn h):=by
 unfold Ft
 rw[Ae,JS hl _ _ (Nat.le_refl _) (by omega)]
 simp only[Option.bind_some]
 rw[Kf (NF _ _)];rfl
theorem JL {h:List Cell} (hl:h.length≤1048576) :∀(n N:Nat),n≤h.length→n < N→C9 h N (n:Int)=some ((tl h n:Nat):Int):=by
 intro n
 induction n with
 | zero=>
  intro N _ hN
  obtain⟨N',rfl⟩ :∃N',N=N' + 1:=⟨N - 1,by omega⟩
  simp[C9,tl]
 | succ n ih=>
  intro N hn hN
  obtain⟨N',rfl⟩ :∃N',N=N' + 1:=⟨N - 1,by omega⟩
  rw[C9,if_pos (by simp),A4 (by omega) (by omega),show (((n+1:Nat):Int) - 1)=((n:Nat):Int) by omega,BB (DB (by omega))]
  simp only[Option.bind_some]
  unfold tl
  by_cases h0:(cat h n).count=0
  ·rw[if_pos (by simpa using h0),if_pos (show ct h n=0 from h0)];exact ih N' (by omega) (by omega)
  ·rw[if_neg (by simpa using h0),if_neg (show ¬ ct h n=0 from h0)]
theorem Lu {h:List Cell} (hl:h.length≤1048576) {N:Nat} (hN:2000000≤N):FY N h=some (Kn h):=by
 unfold FY
 rw[Ae,JL hl _ _ (Nat.le_refl _) (by omega)]
 simp only[Option.bind_some]
 rw[Kf (NF _ _)];rfl
end RC



namespace RC
open Go
structure H5 (h:List Cell) (W:List Int):Prop where
 hp:Hp h
 fields :∀i,∀w∈fl h i,1000≤w→0 < ct h (w - 1000).toNat
 words :∀w∈W,1000≤w→0 < ct h (w - 1000).toNat
 wi :∀w∈W,Dz w
 CD :∀j,0 < ct h j→((pc W j+Es h j:Nat):Int)≤ct h j
theorem Hp.O3 {h:List Cell} (H:Hp h) (j:Nat):Dz (ct h j):=by
 unfold ct
 by_cases hj:j < h.length
 ·exact (H.cells _ (Di hj)).count
 ·rw[Cm (by omega)];exact⟨by decide,by decide⟩
theorem Hp.RI {h:List Cell} (H:Hp h) (j:Nat) :∀w∈fl h j,Dz w:=by
 rw[B1]
 by_cases hj:j < h.length
 ·exact (H.cells _ (Di hj)).fields
 ·rw[Cm (by omega)];intro w hw;cases hw
structure DI (h:List Cell) (W t:List Int) (fr:Nat→Bool) (cn:Nat→Int):Prop where
 CD :∀j,cn j=ct h j - (pc W j:Int) - (I0 h fr j:Int) + (pc t j:Int)
 A1 :∀j,fr j=true↔(0 < ct h j∧cn j=0)
 tw :∀w∈t,1000≤w→0 < ct h (w - 1000).toNat
 ti :∀w∈t,Dz w
 le :∀j,cn j≤ct h j
 ge :∀j,ct h j≤0→cn j=ct h j
def gg (h:List Cell) (fr:Nat→Bool) (cn:Nat→Int) (j:Nat):Cell:=if fr j then ⟨0,0,[]⟩ else ⟨cn j,(cat h j).tag,(cat h j).fields⟩
theorem Jo {h:List Cell} {W:List Int} (P:H5 h W):DI h W W (fun _=>false) (ct h):=by
 refine⟨fun j=>?_,fun j=>?_,P.words,P.wi,fun j=>Int.le_refl _,fun _ _=>rfl⟩
 ·rw[show I0 h (fun _=>false) j=0 from Jh fun i _ hi=>by cases hi];omega
 ·simp;omega
theorem Jm (h:List Cell):rowOf h.length (gg h (fun _=>false) (ct h))=h:=by
 refine Eq.trans ?_ (IQ h)
 refine Ba fun j _=>?_
 simp[gg,ct]
theorem DI.int {h:List Cell} {W t:List Int} {w:Int} {fr:Nat→Bool} {cn:Nat→Int} (D:DI h W (t ++ [w]) fr cn) (hw:¬ 1000≤w):DI h W t fr cn:=by
 refine⟨fun j=>?_,D.A1,fun v hv=>D.tw v (List.mem_append_left _ hv),fun v hv=>D.ti v (List.mem_append_left _ hv),D.le,D.ge⟩
 rw[D.CD j,E7,G6,if_neg (by omega)];omega
theorem DI.RH {h:List Cell} {W t:List Int} {w:Int} {fr:Nat→Bool} {cn:Nat→Int} (P:H5 h W) (D:DI h W (t ++ [w]) fr cn) (hw:1000≤w) :
  0 < ct h (w - 1000).toNat∧(w - 1000).toNat < h.length∧1≤cn (w - 1000).toNat∧fr (w - 1000).toNat=false:=by
 have h1:=D.tw w (by simp) hw
 have h2:=D.CD (w - 1000).toNat
 have h3:=P.CD _ h1
 have h4:I0 h fr (w - 1000).toNat≤Es h (w - 1000).toNat:=NJ fun _ _ _=>rfl
 have h5:pc (t ++ [w]) (w - 1000).toNat=pc t (w - 1000).toNat+1:=by rw[E7,G6,if_pos (by omega)]
 have h6:1≤cn (w - 1000).toNat:=by rw[h5] at h2;omega
 refine⟨h1,G9 (by omega),h6,?_⟩
 cases hf:fr (w - 1000).toNat with
 | false=>rfl
 | true=>have:=((D.A1 _).1 hf).2;omega
theorem DI.dec {h:List Cell} {W t:List Int} {w:Int} {fr:Nat→Bool} {cn:Nat→Int} (P:H5 h W) (D:DI h W (t ++ [w]) fr cn) (hw:1000≤w) (hc:cn (w - 1000).toNat - 1≠0) :
  DI h W t fr (fun k=>if k=(w - 1000).toNat then cn k - 1 else cn k):=by
 obtain⟨h1,h2,h3,h4⟩:=D.RH P hw
 refine⟨fun j=>?_,fun j=>?_,fun v hv=>D.tw v (List.mem_append_left _ hv),fun v hv=>D.ti v (List.mem_append_left _ hv),fun j=>?_,fun j hj=>?_⟩
 ·have:=D.CD j
  rw[E7,G6] at this
  by_cases e:j=(w - 1000).toNat
  ·rw[if_pos (by omega)] at this
   simp only[e,if_true]
   rw[← e];omega
  ·rw[if_neg (by omega)] at this
   simp only[e,if_false];omega
 ·rw[D.A1 j]
  by_cases e:j=(w - 1000).toNat
  ·simp only[e,if_true];omega
  ·simp only[e,if_false]
 ·have:=D.le j
  show (if j=(w - 1000).toNat then cn j - 1 else cn j)≤_
  split <;> omega
 ·have:=D.ge j hj
  by_cases e:j=(w - 1000).toNat
  ·subst e;omega
  ·simp only[e,if_false];exact this
theorem DI.SU {h:List Cell} {W t:List Int} {w:Int} {fr:Nat→Bool} {cn:Nat→Int} (P:H5 h W) (D:DI h W (t ++ [w]) fr cn) (hw:1000≤w) (hc:cn (w - 1000).toNat - 1=0) :
  DI h W (t ++ fl h (w - 1000).toNat) (fun k=>if k=(w - 1000).toNat then true else fr k) (fun k=>if k=(w - 1000).toNat then cn k - 1 else cn k):=by
 obtain⟨h1,h2,h3,h4⟩:=D.RH P hw
 refine⟨fun j=>?_,fun j=>?_,fun v hv=>?_,fun v hv=>?_,fun j=>?_,fun j hj=>?_⟩
 ·have:=D.CD j
  have e1:I0 h (fun k=>if k=(w - 1000).toNat then true else fr k) j=I0 h fr j+pc (fl h (w - 1000).toNat) j:=N5 h2 h4
  rw[E7,G6] at this
  rw[e1,E7]
  by_cases e:j=(w - 1000).toNat
  ·rw[if_pos (by omega)] at this
   simp only[e,if_true]
   rw[← e];omega
  ·rw[if_neg (by omega)] at this
   simp only[e,if_false];omega
 ·by_cases e:j=(w - 1000).toNat
  ·subst e;simp only[if_true];simp;omega
  ·simp only[e,if_false];exact D.A1 j
 ·rcases List.mem_append.1 hv with hv | hv
  ·exact D.tw v (List.mem_append_left _ hv)
  ·exact P.fields _ v hv
 ·rcases List.mem_append.1 hv with hv | hv
  ·exact D.ti v (List.mem_append_left _ hv)
  ·exact P.hp.RI _ v hv
 ·have:=D.le j
  show (if j=(w - 1000).toNat then cn j - 1 else cn j)≤_
  split <;> omega
 ·have:=D.ge j hj
  by_cases e:j=(w - 1000).toNat
  ·subst e;omega
  ·simp only[e,if_false];exact this
def H7 (h:List Cell) (fr:Nat→Bool):Nat→Nat
 | 0=>0
 | n+1=>H7 h fr n+if fr n then 0 else (fl h n).length
theorem OG {h:List Cell} {p q:Nat→Bool} {n:Nat} (e :∀i,i < n→p i=q i):H7 h p n=H7 h q n:=by
 induction n with
 | zero=>rfl
 | succ n ih=>unfold H7;rw[ih fun i hi=>e i (by omega),e n (by omega)]
theorem Ns {h:List Cell} {p:Nat→Bool} {n x:Nat} (hx:x < n) (hp:p x=false):H7 h p n=H7 h (fun k=>if k=x then true else p k) n+(fl h x).length:=by
 induction n with
 | zero=>omega
 | succ n ih=>
  unfold H7
  by_cases e:x=n
  ·subst e
   rw[OG (p:=fun k=>if k=x then true else p k) (q:=p) (n:=x) (fun i hi=>by
    have:¬ i=x:=by omega
    simp[this])]
   simp[hp]
  ·have e':¬ n=x:=fun h=>e h.symm
   rw[ih (by omega)]
   simp only[e',if_false]
   omega
theorem O1 (h:List Cell) (p:Nat→Bool):H7 h p h.length≤CT h:=by
 have key :∀n,n≤h.length→H7 h p n≤CT (h.take n):=by
  intro n
  induction n with
  | zero=>intro _;simp[H7]
  | succ n ih=>
   intro hn
   have h1:=ih (by omega)
   have hc:=DB (h:=h) (j:=n) (by omega)
   unfold H7
   rw[Fm hc,EP,B1]
   have:CT [cat h n]=(cat h n).fields.length:=by simp[CT]
   split <;> omega
 have:=key h.length (Nat.le_refl _)
 rwa [List.take_length] at this
theorem OD {t:List Int} {w:Int} (hl:t.length≤4000000):Sh.get (t ++ [w]) (Sh.w (Sh.len (t ++ [w]) - 1))=some w:=by
 rw[Ae,List.length_append]
 have e:(((t.length + [w].length:Nat):Int) - 1)=(t.length:Int):=by simp
 rw[e,A4 (by omega) (by omega),KM];simp
theorem PL {t:List Int} {w:Int} (hl:t.length≤4000000):Sh.hi (t ++ [w]) (Sh.w (Sh.len (t ++ [w]) - 1))=some t:=by
 rw[Ae,List.length_append]
 have e:(((t.length + [w].length:Nat):Int) - 1)=(t.length:Int):=by simp
 rw[e,A4 (by omega) (by omega),Kf (by simp)];simp
theorem NS {t:List Int} {w:Int}:decide (0 < Sh.len (t ++ [w]))=true:=by rw[Ae,List.length_append];simp
theorem QV {h:List Cell} {fr:Nat→Bool} {cn:Nat→Int} {w:Int} (hw:1000≤w) (hwi:Dz w) (hj:(w - 1000).toNat < h.length) (hf:fr (w - 1000).toNat=false) :
  Sh.get (rowOf h.length (gg h fr cn)) (Sh.w (w - 1000))=some ⟨cn (w - 1000).toNat,(cat h (w - 1000).toNat).tag,(cat h (w - 1000).toNat).fields⟩:=by
 obtain⟨w1,w2⟩:=hwi
 rw[A4 (by omega) (by omega),DJ (by omega),Br hj]
 simp[gg,hf]
theorem Ix {n:Nat} {f:Nat→Cell} {w:Int} {c:Cell} (hw:1000≤w) (hwi:Dz w):Sh.put (rowOf n f) (Sh.w (w - 1000)) c=rowOf n (fun k=>if k=(w - 1000).toNat then c else f k):=by
 obtain⟨w1,w2⟩:=hwi
 rw[A4 (by omega) (by omega)]
 unfold Sh.put;rw[FD]
theorem NU {n:Nat} {f:Nat→Cell} {w:Int} (hw:1000≤w) (hwi:Dz w) (hj:(w - 1000).toNat < n):Sh.get (rowOf n f) (Sh.w (w - 1000))=some (f (w - 1000).toNat):=by
 obtain⟨w1,w2⟩:=hwi
 rw[A4 (by omega) (by omega),DJ (by omega),Br hj]
theorem O4 {h:List Cell} {fr:Nat→Bool} {cn:Nat→Int} {x n:Nat} (hf:fr x=false) :
  rowOf n (fun k=>if k=x then (⟨cn x - 1,(cat h x).tag,(cat h x).fields⟩:Cell) else gg h fr cn k)=rowOf n (gg h fr (fun k=>if k=x then cn k - 1 else cn k)):=
 Ba fun j _=>by
  by_cases e:j=x
  ·subst e;simp[gg,hf]
  ·simp[gg,e]
theorem PK {h:List Cell} {fr:Nat→Bool} {cn:Nat→Int} {x n:Nat} {c:Cell} :
  rowOf n (fun k=>if k=x then (⟨0,0,[]⟩:Cell) else if k=x then c else gg h fr cn k)=rowOf n (gg h (fun k=>if k=x then true else fr k) (fun k=>if k=x then cn k - 1 else cn k)):=
 Ba fun j _=>by
  by_cases e:j=x
  ·subst e;simp[gg]
  ·simp[gg,e]
theorem Lg {h:List Cell} {W:List Int} (P:H5 h W) :∀(d N:Nat) (t:List Int) (fr:Nat→Bool) (cn:Nat→Int),DI h W t fr cn→t.length+H7 h fr h.length≤d→d≤2000000→d < N→
  ∃fr' cn',DI h W [] fr' cn'∧BM N (rowOf h.length (gg h fr cn)) t=some (rowOf h.length (gg h fr' cn')):=by
 intro d
 induction d with
 | zero=>
  intro N t fr cn D hd _ hN
  obtain⟨N',rfl⟩ :∃N',N=N' + 1:=⟨N - 1,by omega⟩
  have:t=[]:=List.eq_nil_of_length_eq_zero (by omega)
  subst this
  exact⟨fr,cn,D,by rw[BM,if_neg (by simp[Ae])]⟩
 | succ d ih=>
  intro N t fr cn D hd hd2 hN
  obtain⟨N',rfl⟩ :∃N',N=N' + 1:=⟨N - 1,by omega⟩
  rcases List.eq_nil_or_concat t with rfl | ⟨t',w,rfl⟩
  ·exact⟨fr,cn,D,by rw[BM,if_neg (by simp[Ae])]⟩
  ·rw[List.concat_eq_append] at D hd ⊢
   have hl:t'.length≤4000000:=by rw[List.length_append] at hd;omega
   have hwi:=D.ti w (by simp)
   rw[BM,if_pos NS,OD hl,PL hl]
   simp only[Option.bind_some,BI]
   by_cases hw:1000≤w
   ·obtain⟨h1,h2,h3,h4⟩:=D.RH P hw
    have hci:=P.hp.O3 (w - 1000).toNat
    have hle:=D.le (w - 1000).toNat
    obtain⟨c1,c2⟩:=hci
    rw[if_pos (by simpa using hw),QV hw hwi h2 h4]
    simp only[Option.bind_some]
    rw[Ix hw hwi,A4 (n:=cn (w - 1000).toNat - 1) (by omega) (by omega),NU hw hwi h2]
    simp only[Option.bind_some,if_true]
    by_cases hc:cn (w - 1000).toNat - 1=0
    ·rw[if_pos (by simpa using hc),ES _ _ 8 (by
       have:=P.hp.HB (Di h2);omega) (by have:=P.hp.HB (Di h2);omega)]
     simp only[Option.bind_some]
     rw[Ix hw hwi,PK,← B1]
     refine ih N' _ _ _ (D.SU P hw hc) ?_ (by omega) (by omega)
     have:=Ns h2 h4 (h:=h)
     rw[List.length_append] at hd ⊢
     simp only[List.length_cons,List.length_nil] at hd
     omega
    ·rw[if_neg (by simpa using hc),O4 h4]
     refine ih N' _ _ _ (D.dec P hw hc) ?_ (by omega) (by omega)
     rw[List.length_append] at hd
     simp only[List.length_cons,List.length_nil] at hd
     omega
   ·rw[if_neg (by simpa using hw)]
    refine ih N' _ _ _ (D.int hw) ?_ (by omega) (by omega)
    rw[List.length_append] at hd
    simp only[List.length_cons,List.length_nil] at hd
    omega
theorem QZ {h:List Cell} {fr:Nat→Bool} {cn:Nat→Int} {j:Nat} (hj:j < h.length) (hf:fr j=false):Cp (rowOf h.length (gg h fr cn)) (1000+(j:Int))=decide (0 < cn j):=by
 rw[Gi]
 unfold ct
 rw[IN hj];simp[gg,hf]
theorem LX {h:List Cell} {W:List Int} (P:H5 h W) :∀(d N:Nat) (t:List Int) (fr:Nat→Bool) (cn:Nat→Int),DI h W t fr cn→t.length+H7 h fr h.length≤d→d≤2000000→d < N→
  ∃fr' cn',DI h W [] fr' cn'∧B5 N (rowOf h.length (gg h fr cn)) t=some (rowOf h.length (gg h fr' cn')):=by
 intro d
 induction d with
 | zero=>
  intro N t fr cn D hd _ hN
  obtain⟨N',rfl⟩ :∃N',N=N' + 1:=⟨N - 1,by omega⟩
  have:t=[]:=List.eq_nil_of_length_eq_zero (by omega)
  subst this
  exact⟨fr,cn,D,by rw[B5,if_neg (by simp[Ae])]⟩
 | succ d ih=>
  intro N t fr cn D hd hd2 hN
  obtain⟨N',rfl⟩ :∃N',N=N' + 1:=⟨N - 1,by omega⟩
  rcases List.eq_nil_or_concat t with rfl | ⟨t',w,rfl⟩
  ·exact⟨fr,cn,D,by rw[B5,if_neg (by simp[Ae])]⟩
  ·rw[List.concat_eq_append] at D hd ⊢
   have hl:t'.length≤4000000:=by rw[List.length_append] at hd;omega
   have hwi:=D.ti w (by simp)
   have hlen:=P.hp.len
   rw[B5,if_pos NS,OD hl,PL hl]
   simp only[Option.bind_some]
   rw[F5 (by rw[Ca];exact hlen) hwi]
   simp only[Option.bind_some]
   by_cases hw:1000≤w
   ·obtain⟨h1,h2,h3,h4⟩:=D.RH P hw
    have hci:=P.hp.O3 (w - 1000).toNat
    have hle:=D.le (w - 1000).toNat
    obtain⟨c1,c2⟩:=hci
    have hlv:Cp (rowOf h.length (gg h fr cn)) w=true:=by rw[Hq hw,QZ h2 h4];simp;omega
    rw[hlv,if_neg (by simp),QV hw hwi h2 h4]
    simp only[Option.bind_some]
    rw[Ix hw hwi,A4 (n:=cn (w - 1000).toNat - 1) (by omega) (by omega),NU hw hwi h2]
    simp only[Option.bind_some,if_true]
    by_cases hc:cn (w - 1000).toNat - 1=0
    ·rw[if_pos (by simpa using hc),ES _ _ 8 (by
       have:=P.hp.HB (Di h2);omega) (by have:=P.hp.HB (Di h2);omega)]
     simp only[Option.bind_some]
     rw[Ix hw hwi,PK,← B1]
     refine ih N' _ _ _ (D.SU P hw hc) ?_ (by omega) (by omega)
     have:=Ns h2 h4 (h:=h)
     rw[List.length_append] at hd ⊢
     simp only[List.length_cons,List.length_nil] at hd
     omega
    ·rw[if_neg (by simpa using hc),O4 h4]
     refine ih N' _ _ _ (D.dec P hw hc) ?_ (by omega) (by omega)
     rw[List.length_append] at hd
     simp only[List.length_cons,List.length_nil] at hd
     omega
   ·rw[Ei hw,if_pos (by simp)]
    refine ih N' _ _ _ (D.int hw) ?_ (by omega) (by omega)
    rw[List.length_append] at hd
    simp only[List.length_cons,List.length_nil] at hd
    omega
def Dr (h:List Cell) (W:List Int) (g:List Cell):Prop:=∃fr cn,DI h W [] fr cn∧g=Kn (rowOf h.length (gg h fr cn))
theorem DI.dead {h:List Cell} {W t:List Int} {fr:Nat→Bool} {cn:Nat→Int} (D:DI h W t fr cn) {j:Nat} (hj:¬ 0 < ct h j):fr j=false:=by
 cases hf:fr j with
 | false=>rfl
 | true=>exact absurd ((D.A1 j).1 hf).1 hj
theorem DI.unique {h:List Cell} {W:List Int} {fr fr':Nat→Bool} {cn cn':Nat→Int} (rk:Nat→Nat) (hrk :∀i j,0 < ct h j→0 < pc (fl h i) j→rk j < rk i) (D:DI h W [] fr cn) (D':DI h W [] fr' cn') :∀j,fr j=fr' j∧cn j=cn' j:=by
 obtain⟨B,hB⟩:=MM rk h.length
 have key :∀d j,B - rk j=d→j < h.length→fr j=fr' j∧cn j=cn' j:=by
  intro d
  induction d using Nat.strongRecOn with
  | _ d ih=>
   intro j hd hj
   by_cases hl:0 < ct h j
   ·have e:I0 h fr j=I0 h fr' j:=Ej fun i hi=>by
     by_cases hp:0 < pc (fl h i) j
     ·have h1:=hrk i j hl hp
      have h2:=hB i hi
      rw[(ih (B - rk i) (by omega) i rfl hi).1]
     ·have:pc (fl h i) j=0:=by omega
      simp[this]
    have hc:cn j=cn' j:=by rw[D.CD,D'.CD,e]
    refine⟨?_,hc⟩
    have h1:=D.A1 j
    have h2:=D'.A1 j
    rw[hc] at h1
    cases hf:fr j <;> cases hf':fr' j <;> simp_all
   ·exact⟨by rw[D.dead hl,D'.dead hl],by rw[D.ge j (by omega),D'.ge j (by omega)]⟩
 intro j
 by_cases hj:j < h.length
 ·exact key _ j rfl hj
 ·have h0:ct h j=0:=by unfold ct;rw[Cm (by omega)]
  exact⟨by rw[D.dead (by omega),D'.dead (by omega)],by rw[D.ge j (by omega),D'.ge j (by omega)]⟩
theorem Dr.unique {h:List Cell} {W:List Int} {g g':List Cell} (rk:Nat→Nat) (hrk :∀i j,0 < ct h j→0 < pc (fl h i) j→rk j < rk i) (D:Dr h W g) (D':Dr h W g'):g=g':=by
 obtain⟨fr,cn,h1,rfl⟩:=D
 obtain⟨fr',cn',h2,rfl⟩:=D'
 have e:=h1.unique rk hrk h2
 have e1:fr=fr':=funext fun j=>(e j).1
 have e2:cn=cn':=funext fun j=>(e j).2
 rw[e1,e2]
theorem GD {h:List Cell} {W:List Int} (P:H5 h W) (hW:W.length≤900000) {N:Nat} (hN:2000000≤N) :∃g,Dq N h W=some g∧Dr h W g:=by
 have hf:=O1 h (fun _=>false)
 have hs:=P.hp.size
 unfold Bc at hs
 obtain⟨fr,cn,D,e⟩:=Lg P (W.length+H7 h (fun _=>false) h.length) N W _ _ (Jo P) (Nat.le_refl _) (by omega) (by omega)
 rw[Jm] at e
 refine⟨_,?_,fr,cn,D,rfl⟩
 unfold Dq
 rw[E2 (by omega)]
 simp only[Option.bind_some]
 rw[e]
 simp only[Option.bind_some]
 rw[LZ (by rw[Ca];omega) hN];rfl
theorem Lw {h:List Cell} {w:Int} (P:H5 h [w]) {N:Nat} (hN:2000000≤N) :∃g,FW N h w=some g∧Dr h [w] g:=by
 have hf:=O1 h (fun _=>false)
 have hs:=P.hp.size
 unfold Bc at hs
 obtain⟨fr,cn,D,e⟩:=LX P ([w].length+H7 h (fun _=>false) h.length) N [w] _ _ (Jo P) (Nat.le_refl _) (by simp;omega) (by simp;omega)
 rw[Jm] at e
 refine⟨_,?_,fr,cn,D,rfl⟩
 unfold FW
 rw[e]
 simp only[Option.bind_some]
 rw[Lu (by rw[Ca];omega) hN];rfl
end RC



namespace RC
open Go
theorem Eh (h:List Cell) (c:Cell):E0 h c=true↔c.fields.length≤3∧-1≤c.count∧c.count≤999999∧(c.count < 1→c.tag=0∧(∀w∈c.fields,w=0)∧(c.count < 0∨c.fields=[]))∧(1≤c.count→(∀w∈c.fields,B9 h w=true)∧0≤c.tag∧c.tag≤99):=by
 unfold E0 Fw
 by_cases h1:c.count < 1
 ·have h2:¬ 1≤c.count:=by omega
  simp only[h1,if_true,h2,false_imp_iff,and_true,Bool.and_eq_true,Bool.not_eq_true',Bool.or_eq_false_iff,decide_eq_false_iff_not,decide_eq_true_eq,Bool.or_eq_true,Bool.not_eq_false',List.all_eq_true,forall_const]
  constructor
  ·rintro⟨⟨a,b,d⟩,⟨e,f⟩,g⟩
   refine⟨by omega,b,d,e,f,g.imp id fun g=>List.eq_nil_of_length_eq_zero (by omega)⟩
  ·rintro⟨a,b,d,e,f,g⟩
   exact⟨⟨by omega,b,d⟩,⟨e,f⟩,g.imp id fun g=>by simp[g]⟩
 ·have h2:1≤c.count:=by omega
  simp only[h1,if_false,h2,forall_const,false_imp_iff,true_and,Bool.and_eq_true,Bool.not_eq_true',Bool.or_eq_false_iff,decide_eq_false_iff_not,decide_eq_true_eq,Bool.not_eq_false',List.all_eq_true]
  constructor
  ·rintro⟨⟨a,b,d⟩,e,f,g⟩
   exact⟨by omega,b,d,e,f,g⟩
  ·rintro⟨a,b,d,e,f,g⟩
   exact⟨⟨by omega,b,d⟩,e,f,g⟩
theorem D8 {h:List Cell} {w:Int} (hw:1000≤w):B9 h w=decide (0 < ct h (w - 1000).toNat):=by
 unfold B9 Hl
 have e:decide (w≤999)=false:=by simp;omega
 rw[e,Bool.and_false,Bool.or_false]
 have:=Gi (h:=h) (j:=(w - 1000).toNat)
 rwa [← Hq hw] at this
theorem F8 {h:List Cell} {w:Int} (hw:¬ 1000≤w):B9 h w=decide (-999≤w):=by
 unfold B9 Hl
 have e:decide (w≤999)=true:=by simp;omega
 rw[Ei hw,e,Bool.and_true,Bool.false_or]
theorem VH.cell {h:List Cell} (V:VH h) (j:Nat):E0 h (cat h j)=true:=by
 by_cases hj:j < h.length
 ·exact V.cells _ (Di hj)
 ·rw[Cm (by omega),Eh];simp
theorem VH.fields {h:List Cell} (V:VH h) :∀i,∀w∈fl h i,1000≤w→0 < ct h (w - 1000).toNat:=fun i w hw h1=>by
 rw[B1] at hw
 obtain⟨_,_,_,a,b⟩:=(Eh _ _).1 (V.cell i)
 by_cases hc:(cat h i).count < 1
 ·have:=(a hc).2.1 w hw;omega
 ·have:=(b (by omega)).1 w hw
  rw[D8 h1] at this;simpa using this
theorem VH.zr {h:List Cell} (V:VH h):Zr h:=fun j hj=>by
 obtain⟨_,_,_,a,_⟩:=(Eh _ _).1 (V.cell j)
 unfold ct at hj
 obtain⟨h1,_,h3⟩:=a (by omega)
 rcases h3 with h3 | h3
 ·omega
 ·generalize cat h j=c at *
  obtain⟨c1,c2,c3⟩:=c
  simp only at hj h1 h3
  subst hj;subst h1;subst h3;rfl
theorem VH.CD {h:List Cell} (V:VH h) {j:Nat} (hj:0 < ct h j):(Es h j:Int)≤ct h j:=by
 have hl:j < h.length:=G9 (by omega)
 have:=V.counts j hl
 unfold Ka at this
 rw[DB hl] at this
 simp only at this
 rw[Hc,if_pos hj] at this
 have h2:decide (0 < (cat h j).count)=true:=decide_eq_true (show 0 < (cat h j).count from hj)
 rw[h2] at this
 simp at this
 exact this
theorem VH.rk {h:List Cell} (V:VH h) :∃rk:Nat→Nat,∀i j,0 < ct h j→0 < pc (fl h i) j→rk j < rk i:=by
 obtain⟨rk,h1⟩:=V.Mp
 refine⟨rk,fun i j hj hp=>h1 i j ?_⟩
 have hm:=Hu.1 hp
 have hi:i < h.length:=by
  by_cases hi:i < h.length
  ·exact hi
  ·rw[B1,Cm (by omega)] at hm;cases hm
 refine⟨cat h i,_,DB hi,by rwa [B1] at hm,by rw[Gi];simpa using hj,by omega⟩
theorem VH.of {h:List Cell} (h1:DH h=false) (h2 :∀j,j < h.length→E0 h (cat h j)=true) (h3 :∀j,0 < ct h j→(Es h j:Int)≤ct h j) (rk:Nat→Nat) (h4 :∀i j,0 < ct h j→0 < pc (fl h i) j→rk j < rk i):VH h:=by
 refine⟨h1,fun c hc=>?_,fun j hj=>?_,rk,fun i j ⟨c,w,a1,a2,a3,a4⟩=>?_⟩
 ·obtain⟨j,hj⟩:=List.mem_iff_getElem?.1 hc
  have hl:=(List.getElem?_eq_some_iff.1 hj).1
  have:=h2 j hl
  rwa [Iz hj] at this
 ·unfold Ka
  rw[DB hj]
  simp only
  by_cases hc:0 < ct h j
  ·have:=h3 j hc
   rw[Hc,if_pos hc]
   have e:decide ((cat h j).count < (Es h j:Int))=false:=by simp;exact this
   rw[e];simp
  ·have e:decide (0 < (cat h j).count)=false:=by simpa [ct] using hc
   rw[e];simp
 ·obtain⟨q,c',b1,b2,b3,b4,b5⟩:=ED a3
  have hq:q=j:=by omega
  subst hq
  refine h4 i q (by unfold ct;rw[Iz b4];exact b5) (Hu.2 ?_)
  rw[B1,Iz a1,← b1];exact a2
theorem Hp.Ro {h:List Cell} {w:Int} (hl:h.length≤1048576) (hw:B9 h w=true):Dz w:=by
 by_cases h1:1000≤w
 ·rw[D8 h1] at hw
  have:=G9 (h:=h) (j:=(w - 1000).toNat) (by have:0 < ct h (w - 1000).toNat:=(by simpa using hw);omega)
  exact⟨by omega,by omega⟩
 ·rw[F8 h1] at hw
  have:-999≤w:=by simpa using hw
  exact⟨by omega,by omega⟩
theorem H5.of {h:List Cell} {W:List Int} (H:Hp h) (V:VH h) (hw :∀w∈W,B9 h w=true) (hc :∀j,0 < ct h j→((pc W j+Es h j:Nat):Int)≤ct h j):H5 h W:=
 ⟨H,V.fields,fun w h1 h2=>by have:=hw w h1;rw[D8 h2] at this;simpa using this,fun w h1=>Hp.Ro H.len (hw w h1),hc⟩
theorem R5 {h:List Cell} {W t:List Int} {fr:Nat→Bool} {cn:Nat→Int} (D:DI h W t fr cn) {j:Nat} (hj:h.length≤j):gg h fr cn j=⟨0,0,[]⟩:=by
 have h0:ct h j=0:=by unfold ct;rw[Cm hj]
 unfold gg
 rw[D.dead (by omega),D.ge j (by omega),h0,Cm hj];rfl
theorem PO {h:List Cell} {W t:List Int} {fr:Nat→Bool} {cn:Nat→Int} (D:DI h W t fr cn) (j:Nat):cat (rowOf h.length (gg h fr cn)) j=gg h fr cn j:=by
 by_cases hj:j < h.length
 ·exact IN hj
 ·rw[Cm (by rw[Ca];omega),R5 D (by omega)]
theorem Ry {h:List Cell} {W t:List Int} {fr:Nat→Bool} {cn:Nat→Int} (Z:Zr h) (D:DI h W t fr cn):Zr (rowOf h.length (gg h fr cn)):=fun j hj=>by
 unfold ct at hj
 rw[PO D] at hj ⊢
 unfold gg at hj ⊢
 cases hf:fr j with
 | true=>rfl
 | false=>
  rw[hf] at hj
  simp only[Bool.false_eq_true,if_false] at hj ⊢
  have h1:¬ 0 < ct h j:=fun h1=>by have:=(D.A1 j).2 ⟨h1,hj⟩;rw[hf] at this;cases this
  have h2:=D.ge j (by omega)
  rw[hj] at h2
  have h3:=Z j h2.symm
  rw[hj,h3]
theorem Dr.cat {h g:List Cell} {W:List Int} (Z:Zr h) (D:Dr h W g) :∃fr cn,DI h W [] fr cn∧(∀j,cat g j=gg h fr cn j)∧DH g=false∧g.length≤h.length:=by
 obtain⟨fr,cn,D,rfl⟩:=D
 refine⟨fr,cn,D,fun j=>?_,Pt _,?_⟩
 ·rw[Qi (Ry Z D),PO D]
 ·rw[LM];exact Nat.le_trans (NF _ _) (by rw[Ca];exact Nat.le_refl _)
section
variable {h g : List Cell} {W : List Int} {fr : Nat → Bool} {cn : Nat → Int}
theorem Rr (hg :∀j,cat g j=gg h fr cn j) (j:Nat):ct g j=if fr j then 0 else cn j:=by
 unfold ct;rw[hg];unfold gg;cases fr j <;> rfl
theorem Qz (hg :∀j,cat g j=gg h fr cn j) (j:Nat):fl g j=if fr j then [] else fl h j:=by
 rw[B1,B1,hg];unfold gg;cases fr j <;> rfl
theorem RY (hg :∀j,cat g j=gg h fr cn j) (hl:g.length≤h.length) (j:Nat):Es g j+I0 h fr j=Es h j:=by
 have e1:Es g j=DS g (fun _=>true) j h.length:=by
  have:=Pb (h:=g) (p:=fun _=>true) (j:=j) (n:=g.length) (m:=h.length - g.length) (Nat.le_refl _)
  rw[show g.length+(h.length - g.length)=h.length by omega] at this
  exact this.symm
 have e2:DS g (fun _=>true) j h.length=DS h (fun i=>!fr i) j h.length:=Ej fun i _=>by
  rw[Qz hg]
  cases fr i <;> simp[Et]
 have e3:=Qd (h:=h) (p:=fun i=>!fr i) (q:=fr) (j:=j) (n:=h.length) (fun i _ h1=>by simpa using h1)
 have e4:DS h (fun i=>!fr i || fr i) j h.length=Es h j:=Ej fun i _=>by cases fr i <;> simp
 rw[e1,e2,← e4,e3]
theorem PI (P:H5 h W) (D:DI h W [] fr cn) {i j:Nat} (hi:i < h.length) (hf:fr i=false) (hp:0 < pc (fl h i) j):0 < ct h j∧1≤cn j∧fr j=false:=by
 have hm:=Hu.1 hp
 have h1:0 < ct h j:=by
  have:=P.fields i _ hm (by omega)
  rwa [show (1000+(j:Int) - 1000).toNat=j by omega] at this
 have h2:=P.CD j h1
 have h3:=D.CD j
 have h4:I0 h (fun k=>if k=i then true else fr k) j=I0 h fr j+pc (fl h i) j:=N5 hi hf
 have h5:I0 h (fun k=>if k=i then true else fr k) j≤Es h j:=NJ fun _ _ _=>rfl
 rw[Et] at h3
 have h6:1≤cn j:=by omega
 refine⟨h1,h6,?_⟩
 cases hf':fr j with
 | false=>rfl
 | true=>have:=((D.A1 j).1 hf').2;omega
theorem QX (P:H5 h W) (D:DI h W [] fr cn) {j:Nat} (hj:0 < ct h j):(Es g j:Int) ≥ 0∧(Es h j:Int) - I0 h fr j≤cn j:=by
 have h2:=P.CD j hj
 have h3:=D.CD j
 rw[Et] at h3
 exact⟨by omega,by omega⟩
theorem SA (P:H5 h W) (V:VH h) (D:DI h W [] fr cn) (hg :∀j,cat g j=gg h fr cn j) (hl:DH g=false) (hlen:g.length≤h.length):VH g:=by
 obtain⟨rk,hrk⟩:=V.rk
 have hct:=Rr hg
 have hfl:=Qz hg
 refine VH.of hl (fun j hj=>?_) (fun j hj=>?_) rk fun i j hj hp=>?_
 ·rw[Eh,hg]
  unfold gg
  obtain⟨a1,a2,a3,a4,a5⟩:=(Eh _ _).1 (V.cell j)
  cases hf:fr j with
  | true=>simp
  | false=>
   simp only[Bool.false_eq_true,if_false]
   by_cases h1:0 < ct h j
   ·have h2:=QX (g:=g) P D h1
    have h3:=D.le j
    have h4:cn j≠0:=fun h4=>by have:=(D.A1 j).2 ⟨h1,h4⟩;rw[hf] at this;cases this
    have h5:I0 h fr j≤Es h j:=NJ fun _ _ _=>rfl
    have h6:1≤cn j:=by omega
    obtain⟨b1,b2,b3⟩:=a5 (by unfold ct at h1;omega)
    refine⟨a1,by omega,by unfold ct at h3;omega,fun h=>by omega,fun _=>⟨fun w hw=>?_,b2,b3⟩⟩
    by_cases hw1:1000≤w
    ·have hp:0 < pc (fl h j) (w - 1000).toNat:=Hu.2 (by rw[B1,← Hq hw1];exact hw)
     obtain⟨_,c2,c3⟩:=PI P D (G9 (by omega)) hf hp
     rw[D8 hw1,hct,c3];simp;omega
    ·rw[F8 hw1]
     have:=b1 w hw
     rwa [F8 hw1] at this
   ·rw[D.ge j (by omega)]
    refine⟨a1,a2,a3,a4,fun h=>absurd h (by unfold ct at h1 ⊢;omega)⟩
 ·rw[hct] at hj ⊢
  cases hf:fr j with
  | true=>rw[hf] at hj;simp at hj
  | false=>
   rw[hf] at hj
   simp only[Bool.false_eq_true,if_false] at hj ⊢
   have h1:0 < ct h j:=by have:=D.le j;omega
   have h2:=QX (g:=g) P D h1
   have h3:=RY hg hlen j
   omega
 ·rw[hfl] at hp
  cases hf:fr i with
  | true=>rw[hf] at hp;simp[Et] at hp
  | false=>
   rw[hf] at hp
   simp only[Bool.false_eq_true,if_false] at hp
   have hi:i < h.length:=by
    by_cases hi:i < h.length
    ·exact hi
    ·rw[B1,Cm (by omega)] at hp;simp[Et] at hp
   exact hrk i j (PI P D hi hf hp).1 hp
end
theorem Dr.VH {h g:List Cell} {W:List Int} (P:H5 h W) (V:VH h) (D:Dr h W g):VH g:=by
 obtain⟨fr,cn,D,h1,h2,h3⟩:=D.cat V.zr
 exact SA P V D h1 h2 h3
theorem Dr.same {h g g':List Cell} {W:List Int} (V:RC.VH h) (D:Dr h W g) (D':Dr h W g'):g=g':=by
 obtain⟨rk,hrk⟩:=V.rk
 exact Dr.unique rk hrk D D'
theorem Dr.len {h g:List Cell} {W:List Int} (Z:Zr h) (D:Dr h W g):g.length≤h.length:=by
 obtain⟨_,_,_,_,_,h3⟩:=D.cat Z;exact h3
theorem Dr.ints {h:List Cell} {W:List Int} (V:RC.VH h) (hw :∀w∈W,¬ 1000≤w):Dr h W h:=by
 refine⟨fun _=>false,ct h,⟨fun j=>?_,fun j=>?_,(fun w hw=>absurd hw (List.not_mem_nil)),(fun w hw=>absurd hw (List.not_mem_nil)),fun j=>Int.le_refl _,fun _ _=>rfl⟩,?_⟩
 ·have e0:I0 h (fun _=>false) j=0:=Jh fun i _ hi=>absurd hi (by simp)
  have e1:=Et j
  have:pc W j=0:=by
   unfold pc
   rw[List.countP_eq_zero]
   intro w h1
   have:=hw w h1
   simp;omega
  omega
 ·simp;omega
 ·rw[Jm,RZ V.last]
theorem Pn {h:List Cell} {w:Int} (hw:1000≤w) (hwi:Dz w) (hj:(w - 1000).toNat < h.length):Sh.get (refs h) (Sh.w (w - 1000))=some (Cf h h (w - 1000).toNat:Int):=by
 obtain⟨w1,w2⟩:=hwi
 unfold refs
 rw[A4 (by omega) (by omega),DJ (by omega),Br hj]
theorem NT {h:List Cell} {w:Int} (hw:1000≤w) (hwi:Dz w) (hj:(w - 1000).toNat < h.length):Sh.get h (Sh.w (w - 1000))=some (cat h (w - 1000).toNat):=by
 obtain⟨w1,w2⟩:=hwi
 rw[A4 (by omega) (by omega),DJ (by omega),DB hj]
def GF (h:List Cell) (w:Int):Prop:=VH h∧B9 h w=true∧(1000≤w→(Es h (w - 1000).toNat:Int) < ct h (w - 1000).toNat)
theorem GF.pre {h:List Cell} {w:Int} (H:Hp h) (M:GF h w):H5 h [w]:=by
 obtain⟨V,h1,h2⟩:=M
 refine H5.of H V (fun v hv=>by rw[List.mem_singleton] at hv;subst hv;exact h1) fun j hj=>?_
 rw[G6]
 have h3:=V.CD hj
 split
 ·rename_i e
  have h4:=h2 (by omega)
  rw[e,show (1000+(j:Int) - 1000).toNat=j by omega] at h4
  omega
 ·omega
theorem LA {h:List Cell} {w:Int} (H:Hp h) (hw:Dz w) {N:Nat} (hN:2000000≤N) :∃g b,D6 N h w=some (g,b)∧HO N h w=some (g,b)∧(b=true↔GF h w)∧(b=true→Dr h [w] g)∧(b=false→g=[]):=by
 have hl:=H.len
 obtain⟨b,r,h1,_,h2,_,h3,h4⟩:=FM H hN
 unfold D6 HO
 rw[h1,h2]
 simp only[Option.bind_some]
 cases b with
 | false=>exact⟨[],false,by simp,by simp,by simp[GF];intro hv;exact absurd (h3.2 hv) (by simp),by simp,by simp⟩
 | true=>
  obtain rfl:=h4 rfl
  have V:=h3.1 rfl
  rw[G1 hl hw,IB hl hw]
  simp only[Option.bind_some,Bool.not_true,Bool.false_eq_true,if_false]
  cases hword:B9 h w with
  | false=>exact⟨[],false,by simp,by simp,by simp[GF,hword],by simp,by simp⟩
  | true=>
   simp only[Bool.not_true,Bool.false_eq_true,if_false]
   rw[Fc H hN,H8 H hN,F5 hl hw,Fy H hN]
   simp only[Option.bind_some,BI]
   by_cases hp:1000≤w
   ·have hlv:0 < ct h (w - 1000).toNat:=by have:=hword;rw[D8 hp] at this;simpa using this
    have hj:(w - 1000).toNat < h.length:=G9 (by omega)
    have hlw:Cp h w=true:=by rw[Hq hp,Gi];simpa using hlv
    rw[if_pos (by simpa using hp),hlw,NT hp hw hj,Pn hp hw hj,Hc,if_pos hlv]
    simp only[Option.bind_some,if_true]
    by_cases he:(cat h (w - 1000).toNat).count=(Es h (w - 1000).toNat:Int)
    ·refine⟨[],false,by simp[he],by simp[he],?_,by simp,by simp⟩
     simp only[Bool.false_eq_true,false_iff]
     intro M
     have:=M.2.2 hp
     unfold ct at this;omega
    ·have M:GF h w:=⟨V,hword,fun _=>by have:=V.CD hlv;unfold ct at this ⊢;omega⟩
     have P:=M.pre H
     obtain⟨g,e1,D1⟩:=GD P (by simp) hN
     obtain⟨g',e2,D2⟩:=Lw P hN
     obtain rfl:=D1.same V D2
     refine⟨g,true,by simp[he,e1],by simp[he,e2],by simp[M],fun _=>D1,by simp⟩
   ·have hlw:Cp h w=false:=Ei hp
    have M:GF h w:=⟨V,hword,fun h1=>absurd h1 hp⟩
    have P:=M.pre H
    obtain⟨g,e1,D1⟩:=GD P (by simp) hN
    have e:g=h:=D1.same V (Dr.ints V fun v hv=>by rw[List.mem_singleton] at hv;subst hv;exact hp)
    subst e
    refine⟨g,true,?_,?_,by simp[M],fun _=>D1,by simp⟩
    ·rw[if_neg (by simpa using hp)];simp[e1]
    ·rw[hlw];simp
end RC



namespace RC
open Go
theorem Gu {h:List Cell} {j:Nat} {c:Cell} (hj:j < h.length) (k:Nat):cat (h.set j c) k=if k=j then c else cat h k:=by
 unfold cat
 rw[List.getElem?_set]
 by_cases e:k=j
 ·subst e;simp[hj]
 ·have e':¬ j=k:=fun h=>e h.symm
  simp[e,e']
theorem Qe {h:List Cell} {c:Cell} (k:Nat):cat (h ++ [c]) k=if k=h.length then c else cat h k:=by
 unfold cat
 by_cases e:k=h.length
 ·subst e;simp
 ·rw[if_neg e]
  by_cases h1:k < h.length
  ·rw[List.getElem?_append_left h1]
  ·rw[List.getElem?_append_right (by omega),List.getElem?_eq_none (by simp;omega),List.getElem?_eq_none (by omega)]
theorem PQ {h:List Cell} {j:Nat} {c:Cell} (hj:j < h.length):CT (h.set j c) + (fl h j).length=CT h+c.fields.length:=by
 have e1:h=h.take j ++ cat h j :: h.drop (j+1):=by
  have:=drop_cons (DB hj)
  rw[← this,List.take_append_drop]
 have e2:h.set j c=h.take j ++ c :: h.drop (j+1):=by rw[List.set_eq_take_append_cons_drop,if_pos hj]
 have e3:CT h=CT (h.take j) + ((cat h j).fields.length+CT (h.drop (j+1))):=by
  conv=>lhs;rw[e1]
  rw[EP];simp[CT]
 rw[e2,EP,B1]
 have e4:CT (c :: h.drop (j+1))=c.fields.length+CT (h.drop (j+1)):=by simp[CT]
 rw[e4];omega
def fst (h:List Cell):Nat→Nat→Nat
 | 0,i=>i
 | k+1,i=>if ct h i=0 then i else fst h k (i+1)
def ff (h:List Cell):Nat:=fst h h.length 0
theorem PS (h:List Cell) :∀k i,i≤fst h k i∧fst h k i≤i+k∧(∀j,i≤j→j < fst h k i→ct h j≠0)∧(fst h k i < i+k→ct h (fst h k i)=0):=by
 intro k
 induction k with
 | zero=>intro i;exact⟨Nat.le_refl _,Nat.le_refl _,fun j h1 h2=>by simp only[fst] at h2;omega,fun h=>by simp only[fst] at h;omega⟩
 | succ k ih=>
  intro i
  unfold fst
  split
  ·rename_i h0
   exact⟨Nat.le_refl _,by omega,fun j h1 h2=>by omega,fun _=>h0⟩
  ·rename_i h0
   obtain⟨a,b,c,d⟩:=ih (i+1)
   refine⟨by omega,by omega,fun j h1 h2=>?_,fun h=>d (by omega)⟩
   by_cases e:j=i
   ·subst e;exact h0
   ·exact c j (by omega) h2
theorem KE (h:List Cell):ff h≤h.length:=by have:=(PS h h.length 0).2.1;unfold ff;omega
theorem Ls {h:List Cell} (hl:h.length≤1048576) {N i:Nat} (hi:i≤h.length) (hN:h.length - i < N):Bq h N i=some (if fst h (h.length - i) i < h.length then Sum.inl ((fst h (h.length - i) i:Nat):Int) else Sum.inr ()):=by
 refine BG h.length (fun N i=>Bq h N i=some (if fst h (h.length - i) i < h.length then Sum.inl ((fst h (h.length - i) i:Nat):Int) else Sum.inr ())) ?_ ?_ hi hN
 ·intro n
  rw[Bq,if_neg (by simp[Ae])]
  simp[fst]
 ·intro n i hi ih
  rw[Bq,if_pos (by simp[Ae];omega),BB (DB hi)]
  simp only[Option.bind_some]
  obtain⟨k,hk⟩ :∃k,h.length - i=k+1:=⟨h.length - i - 1,by omega⟩
  rw[hk]
  unfold fst
  by_cases h0:(cat h i).count=0
  ·rw[if_pos (by simpa using h0),if_pos (show ct h i=0 from h0),if_pos hi]
  ·rw[if_neg (by simpa using h0),if_neg (show ¬ ct h i=0 from h0),A4 (by omega) (by omega),show ((i:Int) + 1)=((i+1:Nat):Int) by omega,ih,show h.length - (i+1)=k by omega]
theorem LU {h:List Cell} (hl:h.length≤1048576) {N:Nat} (hN:2000000≤N):Dk N h=some ((ff h:Nat):Int):=by
 unfold Dk
 have:=Ls hl (Nat.zero_le _) (by omega:h.length - 0 < N)
 rw[show ((0:Nat):Int)=0 from rfl,Nat.sub_zero] at this
 rw[this]
 have hle:=KE h
 unfold ff at hle ⊢
 by_cases h1:fst h h.length 0 < h.length
 ·rw[if_pos h1];rfl
 ·rw[if_neg h1]
  simp only[Sh.Eo,Ae]
  congr 2;omega
theorem Lv {h:List Cell} (hl:h.length≤1048576) {N i:Nat} (hi:i≤h.length) (hN:h.length - i < N):A0 h N i=some (if fst h (h.length - i) i < h.length then Sum.inl ((fst h (h.length - i) i:Nat):Int) else Sum.inr ()):=by
 refine BG h.length (fun N i=>A0 h N i=some (if fst h (h.length - i) i < h.length then Sum.inl ((fst h (h.length - i) i:Nat):Int) else Sum.inr ())) ?_ ?_ hi hN
 ·intro n
  rw[A0,if_neg (by simp[Ae])]
  simp[fst]
 ·intro n i hi ih
  rw[A0,if_pos (by simp[Ae];omega),BB (DB hi)]
  simp only[Option.bind_some,Fs]
  obtain⟨k,hk⟩ :∃k,h.length - i=k+1:=⟨h.length - i - 1,by omega⟩
  rw[hk]
  unfold fst
  by_cases h0:(cat h i).count=0
  ·rw[if_pos (by simpa using h0),if_pos (show ct h i=0 from h0),if_pos hi]
  ·rw[if_neg (by simpa using h0),if_neg (show ¬ ct h i=0 from h0),A4 (by omega) (by omega),show ((i:Int) + 1)=((i+1:Nat):Int) by omega,ih,show h.length - (i+1)=k by omega]
theorem LW {h:List Cell} (hl:h.length≤1048576) {N:Nat} (hN:2000000≤N):CA N h=some (if ff h < h.length then ((ff h:Nat):Int) else -1):=by
 unfold CA
 have:=Lv hl (Nat.zero_le _) (by omega:h.length - 0 < N)
 rw[show ((0:Nat):Int)=0 from rfl,Nat.sub_zero] at this
 rw[this]
 unfold ff
 by_cases h1:fst h h.length 0 < h.length
 ·rw[if_pos h1,if_pos h1];rfl
 ·rw[if_neg h1,if_neg h1];rfl
def Gb (h:List Cell) (c:Cell):List Cell:=if ff h < h.length then h.set (ff h) c else h ++ [c]
theorem N8 (h:List Cell) (c:Cell) (k:Nat):cat (Gb h c) k=if k=ff h then c else cat h k:=by
 unfold Gb
 split
 ·rename_i h1;exact Gu h1 k
 ·rename_i h1
  have:ff h=h.length:=by have:=KE h;omega
  rw[this];exact Qe k
theorem QM (h:List Cell) (c:Cell):(Gb h c).length=if ff h < h.length then h.length else h.length+1:=by unfold Gb;split <;> simp
theorem Hp.Gb {h:List Cell} {c:Cell} (H:Hp h) (hs:Bc h+1+c.fields.length≤1048576) (hc:I2 c):Hp (Gb h c):=by
 refine⟨?_,fun d hd=>?_⟩
 ·unfold RC.Gb
  split
  ·rename_i h1
   have:=PQ (c:=c) h1
   unfold Bc at hs ⊢
   rw[List.length_set];omega
  ·unfold Bc at hs ⊢
   rw[EP,List.length_append]
   have:CT [c]=c.fields.length:=by simp[CT]
   rw[this];simp;omega
 ·unfold RC.Gb at hd
  split at hd
  ·rcases List.mem_or_eq_of_mem_set hd with h1 | h1
   ·exact H.cells d h1
   ·rw[h1];exact hc
  ·rcases List.mem_append.1 hd with h1 | h1
   ·exact H.cells d h1
   ·rw[List.mem_singleton] at h1;rw[h1];exact hc
theorem Pm {h:List Cell} {t:Int} {fs:List Int} (hl:h.length≤1048576) (hf:fs.length≤1048576):FG h ((ff h:Nat):Int) t fs=some (Gb h ⟨1,t,fs⟩):=by
 unfold FG
 rw[E2 hf,Ae]
 simp only[Option.bind_some]
 have hle:=KE h
 unfold Gb
 by_cases h1:ff h < h.length
 ·rw[if_neg (by simp;omega),if_pos h1,BB (DB h1)]
  simp only[Option.bind_some]
  rw[F9]
 ·rw[if_pos (by simp;omega),if_neg h1,ES _ _ 40 (by simp;omega) (by simp;omega)];rfl
theorem Lb {h:List Cell} {t:Int} {fs:List Int} (hl:h.length≤1048576) (hf:fs.length≤1048576) {N:Nat} (hN:2000000≤N):FB N h t fs=some (1000+(ff h:Int),Gb h ⟨1,t,fs⟩):=by
 unfold FB
 rw[JK _ hf,LW hl hN,Ae]
 simp only[Option.bind_some]
 have hle:=KE h
 unfold Gb
 by_cases h1:ff h < h.length
 ·rw[if_pos h1,if_neg (by simp),if_pos h1,BB (DB h1)]
  simp only[Option.bind_some]
  rw[F9,A4 (by omega) (by omega)]
 ·rw[if_neg h1,if_pos (by simp),if_neg h1,ES _ _ 40 (by simp;omega) (by simp;omega)]
  simp only[Option.bind_some]
  rw[A4 (by omega) (by omega),show h.length=ff h by omega]
theorem Px {h:List Cell} (hl:h.length≤1048576) {fs:List Int} (hf:fs.length≤1048576) (hF :∀x∈fs,Dz x) {N i:Nat} (hi:i≤fs.length) (hN:fs.length - i < N):Bn h fs N i=some (if (fs.drop i).all (B9 h) then Sum.inr () else Sum.inl ([],0)):=by
 refine BG fs.length (fun N i=>Bn h fs N i=some (if (fs.drop i).all (B9 h) then Sum.inr () else Sum.inl ([],0))) ?_ ?_ hi hN
 ·intro n
  rw[Bn,if_neg (by simp[Ae])];simp
 ·intro n i hi ih
  obtain⟨x,hx,hxm⟩:=B6 hi
  rw[Bn,if_pos (by simp[Ae];omega),BB hx]
  simp only[Option.bind_some]
  rw[G1 hl (hF x hxm),A4 (by omega) (by omega),show ((i:Int) + 1)=((i+1:Nat):Int) by omega,ih,Dt hx]
  cases B9 h x <;> simp
def H4 (h:List Cell) (t:Int) (fs:List Int):Prop:=VH h∧VH (Gb h ⟨1,t,fs⟩)
theorem NM {h:List Cell} {t:Int} {fs:List Int} (V:VH (Gb h ⟨1,t,fs⟩)) :∀x∈fs,B9 h x=true:=fun x hx=>by
 have hc:=N8 h ⟨1,t,fs⟩ (ff h)
 rw[if_pos rfl] at hc
 obtain⟨_,_,_,_,a⟩:=(Eh _ _).1 (V.cell (ff h))
 rw[hc] at a
 have h1:=(a (by simp)).1 x hx
 by_cases hp:1000≤x
 ·rw[D8 hp] at h1 ⊢
  have h2:0 < ct (Gb h ⟨1,t,fs⟩) (x - 1000).toNat:=by simpa using h1
  by_cases e:(x - 1000).toNat=ff h
  ·exfalso
   obtain⟨rk,hrk⟩:=V.rk
   have:=hrk (ff h) (ff h) (by rw[← e];exact h2) (Hu.2 (by rw[B1,hc,← e,← Hq hp];exact hx))
   omega
  ·unfold ct at h2
   rw[N8,if_neg e] at h2
   exact decide_eq_true h2
 ·rw[F8 hp] at h1 ⊢;exact h1
theorem J0 {h:List Cell} {t:Int} {fs:List Int} (H:Hp h) (hs:Bc h+1+fs.length≤1048576) (ht:Dz t) (hF :∀x∈fs,Dz x) {N:Nat} (hN:2000000≤N) :
  ∃b:Bool,Dm N h t fs=some (if b then (Gb h ⟨1,t,fs⟩,1000+(ff h:Int)) else ([],0))∧HJ N h t fs=some (if b then (Gb h ⟨1,t,fs⟩,1000+(ff h:Int)) else ([],0))∧(b=true↔H4 h t fs):=by
 have hl:=H.len
 have hf:fs.length≤1048576:=by omega
 obtain⟨b,r,h1,_,_,h2,h3,_⟩:=FM H hN
 unfold Dm HJ
 rw[h1,h2]
 simp only[Option.bind_some]
 cases b with
 | false=>exact⟨false,by simp,by simp,by simp[H4];intro hv;exact absurd (h3.2 hv) (by simp)⟩
 | true=>
  have V:=h3.1 rfl
  have Ha:Hp (Gb h ⟨1,t,fs⟩):=H.Gb hs ⟨⟨by show (-9223372036854775808:Int)≤1;decide,by show (1:Int)≤9223372036854775807;decide⟩,ht,hF,by show fs.length≤9223372036854775807;omega⟩
  obtain⟨b',r',g1,_,_,g2,g3,_⟩:=FM Ha hN
  have hL:=Px hl hf hF (Nat.zero_le _) (by omega:fs.length - 0 < N)
  rw[show ((0:Nat):Int)=0 from rfl,List.drop_zero] at hL
  have hle:=KE h
  rw[LU hl hN,Fc H hN,H8 H hN]
  simp only[Option.bind_some,Bool.not_true,Bool.false_eq_true,if_false]
  rw[hL,Pm hl hf,Lb hl hf hN]
  simp only[Option.bind_some]
  rw[g1,g2,A4 (by omega) (by omega)]
  simp only[Option.bind_some]
  cases b' with
  | false=>
   refine⟨false,?_,by simp,by simp[H4];intro _ hv;exact absurd (g3.2 hv) (by simp)⟩
   cases fs.all (B9 h) <;> simp
  | true=>
   have Va:=g3.1 rfl
   have hall:fs.all (B9 h)=true:=List.all_eq_true.2 (NM Va)
   exact⟨true,by simp[hall],by simp,by simp[H4,V,Va]⟩
end RC



namespace RC
open Go
def mk (m:Nat→Bool) (n i:Nat):List Nat:=(List.range' i (n - i)).filter m
end RC



namespace RC
open Go
structure Lz (z:BJ):Prop where
 size:Bc z.cells+z.pending.length≤1048576
 cells :∀c∈z.cells,I2 c
 HD :∀x∈z.pending,Dz x
theorem Lz.hp {z:BJ} (L:Lz z):Hp z.cells:=⟨by have:=L.size;omega,L.cells⟩
theorem Lz.MI {z:BJ} (L:Lz z):z.pending.length≤1048576:=by have:=L.size;omega
theorem Lr {l:List Int} {x:Int} (hl:l.length≤1048576) {N i:Nat} (hi:i≤l.length) (hN:l.length - i < N):Cn l x N i=some (if x∈l.drop i then Sum.inl true else Sum.inr ()):=by
 refine BG l.length (fun N i=>Cn l x N i=some (if x∈l.drop i then Sum.inl true else Sum.inr ())) ?_ ?_ hi hN
 ·intro n
  rw[Cn,if_neg (by simp[Ae])];simp
 ·intro n i hi ih
  obtain⟨y,hy,_⟩:=B6 hi
  rw[Cn,if_pos (by simp[Ae];omega),BB hy]
  simp only[Option.bind_some]
  rw[A4 (by omega) (by omega),show ((i:Int) + 1)=((i+1:Nat):Int) by omega,ih,drop_cons hy]
  by_cases e:y=x
  ·subst e;simp
  ·have e':¬ x=y:=fun h=>e h.symm
   simp[e,e']
theorem Ly {l:List Int} {x:Int} (hl:l.length≤1048576) {N:Nat} (hN:2000000≤N):FC N l x=some (decide (x∈l)):=by
 unfold FC
 have:=Lr (x:=x) hl (Nat.zero_le _) (by omega:l.length - 0 < N)
 rw[show ((0:Nat):Int)=0 from rfl,List.drop_zero] at this
 rw[this]
 by_cases h:x∈l <;> simp[h]
def gd (h:List Cell) (P:List Int) (k:Nat):Bool:=match P[k]? with
 | some x=>decide (0≤x) && decide (x < h.length) && decide (ct h x.toNat=0) && !decide (x∈P.take k)
 | none=>true
theorem JC {h:List Cell} {P:List Int} {k:Nat} {x:Int} (hx:P[k]?=some x):gd h P k=true↔0≤x∧x < h.length∧ct h x.toNat=0∧x ∉ P.take k:=by
 unfold gd;rw[hx];simp[and_assoc]
theorem Qk {l:List Int} {i:Nat} (hi:i≤l.length):Sh.sl l 0 (i:Int)=some (l.take i):=by
 unfold Sh.sl
 rw[if_pos ⟨by omega,by omega,by omega⟩];simp
theorem Qh {z:BJ} (L:Lz z) {M:Nat} (hM:2000000≤M) {N i:Nat} (hi:i≤z.pending.length) (hN:z.pending.length - i < N) :
  BO M z N i=some (if C7 (gd z.cells z.pending) z.pending.length i then Sum.inr () else Sum.inl false):=by
 have hl:=L.MI
 have hc:=L.hp.len
 refine BG z.pending.length (fun N i=>BO M z N i=some (if C7 (gd z.cells z.pending) z.pending.length i then Sum.inr () else Sum.inl false)) ?_ ?_ hi hN
 ·intro n
  rw[BO,if_neg (by simp[Ae]),EK];rfl
 ·intro n i hi ih
  obtain⟨x,hx,hxm⟩:=B6 hi
  obtain⟨x1,x2⟩:=L.HD x hxm
  have hg:=JC (h:=z.cells) hx
  rw[BO,if_pos (by simp[Ae];omega),BB hx]
  simp only[Option.bind_some]
  rw[GQ,Ae,A4 (by omega) (by omega),A4 (n:=(i:Int) + 1) (by omega) (by omega),show ((i:Int) + 1)=((i+1:Nat):Int) by omega,ih,EG hi,Qk (by omega)]
  simp only[Option.bind_some]
  rw[Ly (by simp;omega) hM]
  simp only[Option.bind_some]
  by_cases h1:0≤x∧x < z.cells.length
  ·have e1:(decide (0≤x) && decide (x≤(z.cells.length:Int) - 1))=true:=by simp;omega
   have hxn:x.toNat < z.cells.length:=by omega
   rw[e1,DJ h1.1,DB hxn]
   simp only[Option.bind_some,Bool.not_true,Bool.false_eq_true,if_false]
   by_cases h2:ct z.cells x.toNat=0
   ·have h2':(cat z.cells x.toNat).count=0:=h2
    by_cases h3:x∈z.pending.take i
    ·have:gd z.cells z.pending i=false:=by
      cases hgd:gd z.cells z.pending i with
      | false=>rfl
      | true=>exact absurd h3 (hg.1 hgd).2.2.2
     simp[h2',h3,this]
    ·have:gd z.cells z.pending i=true:=hg.2 ⟨h1.1,h1.2,h2,h3⟩
     simp[h2',h3,this]
   ·have h2':¬ (cat z.cells x.toNat).count=0:=h2
    have:gd z.cells z.pending i=false:=by
     cases hgd:gd z.cells z.pending i with
     | false=>rfl
     | true=>exact absurd (hg.1 hgd).2.2.1 h2
    simp[h2',this]
  ·have e1:(decide (0≤x) && decide (x≤(z.cells.length:Int) - 1))=false:=by simp;omega
   have:gd z.cells z.pending i=false:=by
    cases hgd:gd z.cells z.pending i with
    | false=>rfl
    | true=>exact absurd ⟨(hg.1 hgd).1,(hg.1 hgd).2.1⟩ h1
   rw[e1];simp[this]
def DA (l:List Cell):Bool:=l.all fun c=>decide (0≤c.count)
theorem Qb {z:BJ} (hl:z.cells.length≤1048576) {N i:Nat} (hi:i≤z.cells.length) (hN:z.cells.length - i < N) :
  BN z N i=some (if DA (z.cells.drop i) then Sum.inr () else Sum.inl false):=by
 refine BG z.cells.length (fun N i=>BN z N i=some (if DA (z.cells.drop i) then Sum.inr () else Sum.inl false)) ?_ ?_ hi hN
 ·intro n
  rw[BN,if_neg (by simp[Ae])];simp[DA]
 ·intro n i hi ih
  obtain⟨c,hc,_⟩:=B6 hi
  rw[BN,if_pos (by simp[Ae];omega),BB hc]
  simp only[Option.bind_some]
  rw[A4 (by omega) (by omega),show ((i:Int) + 1)=((i+1:Nat):Int) by omega,ih]
  unfold DA
  rw[Dt hc]
  by_cases h1:c.count < 0
  ·have h2:¬ 0≤c.count:=by omega
   simp[h1,h2]
  ·have h2:0≤c.count:=by omega
   simp[h1,h2]
theorem Lj {h:List Cell} (hl:h.length≤1048576) {N i:Nat} (hi:i≤h.length) (hN:h.length - i < N) :
  BS h N i=some (if DA (h.drop i) then Sum.inr () else Sum.inl ([],false)):=by
 refine BG h.length (fun N i=>BS h N i=some (if DA (h.drop i) then Sum.inr () else Sum.inl ([],false))) ?_ ?_ hi hN
 ·intro n
  rw[BS,if_neg (by simp[Ae])];simp[DA]
 ·intro n i hi ih
  obtain⟨c,hc,_⟩:=B6 hi
  rw[BS,if_pos (by simp[Ae];omega),BB hc]
  simp only[Option.bind_some]
  rw[A4 (by omega) (by omega),show ((i:Int) + 1)=((i+1:Nat):Int) by omega,ih]
  unfold DA
  rw[Dt hc]
  by_cases h1:c.count < 0
  ·have h2:¬ 0≤c.count:=by omega
   simp[h1,h2]
  ·have h2:0≤c.count:=by omega
   simp[h1,h2]
def IK (h:List Cell) (Q:List Int) (j:Nat):Cell:=if (j:Int)∈Q then ⟨1,(cat h j).tag,(cat h j).fields⟩ else cat h j
def rs (h:List Cell) (Q:List Int):List Cell:=rowOf h.length (IK h Q)
theorem Ml (h:List Cell):rs h []=h:=by
 unfold rs
 refine Eq.trans (Ba fun j _=>?_) (IQ h)
 simp[IK]
theorem GG (h:List Cell) (Q:List Int):(rs h Q).length=h.length:=Ca
theorem NI {h:List Cell} {Q:List Int} {j:Nat} (hj:j < h.length):cat (rs h Q) j=IK h Q j:=IN hj
theorem Qo (h:List Cell) (Q:List Int) (j:Nat):(cat (rs h Q) j).fields=(cat h j).fields:=by
 by_cases hj:j < h.length
 ·rw[NI hj];unfold IK;split <;> rfl
 ·rw[Cm (by rw[GG];omega),Cm (by omega)]
theorem N1 (n:Nat) (f g:Nat→Cell) (e :∀j,j < n→(f j).fields=(g j).fields):CT (rowOf n f)=CT (rowOf n g):=by
 unfold CT rowOf
 rw[List.map_map,List.map_map]
 congr 1
 refine List.map_congr_left fun j hj=>?_
 have:=e j (by simpa using hj)
 simp[this]
theorem P9 {h:List Cell} (H:Hp h) (Q:List Int):Hp (rs h Q):=by
 refine⟨?_,fun c hc=>?_⟩
 ·have e:CT (rs h Q)=CT h:=by
   conv=>rhs;rw[← IQ h]
   exact N1 _ _ _ fun j _=>by unfold IK;split <;> rfl
  have:=H.size
  unfold Bc at *
  rw[e,GG];exact this
 ·unfold rs rowOf at hc
  obtain⟨j,hj,rfl⟩:=List.mem_map.1 hc
  have hj':j < h.length:=by simpa using hj
  have C:=H.cells _ (Di hj')
  unfold IK
  split
  ·exact⟨⟨by show (_:Int)≤1;decide,by show (1:Int)≤_;decide⟩,C.tag,C.L7⟩
  ·exact C
theorem N0 {h:List Cell} {P:List Int} {i:Nat} {x:Int} (hx:P[i]?=some x) (h0:0≤x) (h1:x < h.length) (hn:x ∉ P.take i) :
  Sh.get (rs h (P.take i)) x=some (cat h x.toNat)∧Sh.put (rs h (P.take i)) x ⟨1,(cat h x.toNat).tag,(cat h x.toNat).fields⟩=rs h (P.take (i+1)):=by
 have hxn:x.toNat < h.length:=by omega
 have e:(x.toNat:Int)=x:=by omega
 constructor
 ·rw[DJ h0]
  unfold rs
  rw[Br hxn]
  unfold IK
  rw[e,if_neg hn]
 ·unfold Sh.put rs
  rw[FD,Fm hx]
  refine Ba fun j _=>?_
  unfold IK
  by_cases hj:j=x.toNat
  ·subst hj
   rw[if_pos rfl,e,if_pos (by simp)]
  ·rw[if_neg hj]
   have:((j:Int)∈P.take i ++ [x])↔(j:Int)∈P.take i:=by
    simp only[List.mem_append,List.mem_singleton]
    constructor
    ·rintro (h | h)
     ·exact h
     ·exact absurd (by omega) hj
    ·exact .inl
   by_cases h2:(j:Int)∈P.take i
   ·rw[if_pos h2,if_pos (this.2 h2)]
   ·rw[if_neg h2,if_neg fun h=>h2 (this.1 h)]
theorem Ox {z:BJ} (L:Lz z) {N i:Nat} (hi:i≤z.pending.length) (hN:z.pending.length - i < N):C7 (gd z.cells z.pending) z.pending.length i=true→
  Bx z N i (rs z.cells (z.pending.take i))=some (rs z.cells z.pending):=by
 have hl:=L.MI
 refine BG z.pending.length (fun N i=>C7 (gd z.cells z.pending) z.pending.length i=true→Bx z N i (rs z.cells (z.pending.take i))=some (rs z.cells z.pending)) ?_ ?_ hi hN
 ·intro n _
  rw[Bx,if_neg (by simp[Ae]),List.take_length]
 ·intro n i hi ih hall
  obtain⟨x,hx,_⟩:=B6 hi
  rw[EG hi,Bool.and_eq_true] at hall
  obtain⟨g1,g2,g3,g4⟩:=(JC hx).1 hall.1
  obtain⟨e1,e2⟩:=N0 hx g1 g2 g4
  rw[Bx,if_pos (by simp[Ae];omega),BB hx]
  simp only[Option.bind_some]
  rw[e1]
  simp only[Option.bind_some]
  rw[e2,A4 (by omega) (by omega),show ((i:Int) + 1)=((i+1:Nat):Int) by omega]
  exact ih hall.2
theorem KN {z:BJ} (L:Lz z) (hall:C7 (gd z.cells z.pending) z.pending.length 0=true) {N:Nat} (hN:2000000≤N):C0 N z=some (rs z.cells z.pending):=by
 have hl:=L.MI
 unfold C0
 rw[Fc L.hp hN]
 have:=Ox L (Nat.zero_le _) (by omega:z.pending.length - 0 < N) hall
 rw[List.take_zero,Ml,show ((0:Nat):Int)=0 from rfl] at this
 simp only[Option.bind_some]
 rw[this];rfl
theorem Le {z:BJ} (L:Lz z) {N i:Nat} (hi:i≤z.pending.length) (hN:z.pending.length - i < N) :
  BU z N i (rs z.cells (z.pending.take i))=some (if C7 (gd z.cells z.pending) z.pending.length i then Sum.inr (rs z.cells z.pending) else Sum.inl ([],false)):=by
 have hl:=L.MI
 have hc:=L.hp.len
 refine BG z.pending.length (fun N i=>BU z N i (rs z.cells (z.pending.take i))=some (if C7 (gd z.cells z.pending) z.pending.length i then Sum.inr (rs z.cells z.pending) else Sum.inl ([],false))) ?_ ?_ hi hN
 ·intro n
  rw[BU,if_neg (by simp[Ae]),List.take_length,EK];rfl
 ·intro n i hi ih
  obtain⟨x,hx,_⟩:=B6 hi
  have hg:=JC (h:=z.cells) hx
  rw[BU,if_pos (by simp[Ae];omega),BB hx]
  simp only[Option.bind_some]
  rw[Ae,GG,EG hi]
  by_cases h0:x < 0
  ·have:gd z.cells z.pending i=false:=by
    cases hgd:gd z.cells z.pending i with
    | false=>rfl
    | true=>have:=(hg.1 hgd).1;omega
   simp[h0,this]
  ·by_cases h1:(z.cells.length:Int)≤x
   ·have:gd z.cells z.pending i=false:=by
     cases hgd:gd z.cells z.pending i with
     | false=>rfl
     | true=>have:=(hg.1 hgd).2.1;omega
    simp[h0,h1,this]
   ·have hxn:x.toNat < z.cells.length:=by omega
    have e:(x.toNat:Int)=x:=by omega
    have hget:Sh.get (rs z.cells (z.pending.take i)) x=some (IK z.cells (z.pending.take i) x.toNat):=by
     rw[DJ (by omega)];unfold rs;rw[Br hxn]
    rw[hget,if_neg (by simpa using h0),if_neg (by simpa using h1)]
    simp only[Option.bind_some]
    by_cases h2:x∈z.pending.take i
    ·have hr:IK z.cells (z.pending.take i) x.toNat=⟨1,(cat z.cells x.toNat).tag,(cat z.cells x.toNat).fields⟩:=by unfold IK;rw[e,if_pos h2]
     have:gd z.cells z.pending i=false:=by
      cases hgd:gd z.cells z.pending i with
      | false=>rfl
      | true=>exact absurd h2 (hg.1 hgd).2.2.2
     rw[hr];simp[this]
    ·have hr:IK z.cells (z.pending.take i) x.toNat=cat z.cells x.toNat:=by unfold IK;rw[e,if_neg h2]
     rw[hr]
     by_cases h3:ct z.cells x.toNat=0
     ·have h3':(cat z.cells x.toNat).count=0:=h3
      have hgd:gd z.cells z.pending i=true:=hg.2 ⟨by omega,by omega,h3,h2⟩
      obtain⟨_,e2⟩:=N0 (h:=z.cells) hx (by omega) (by omega) h2
      rw[e2,A4 (by omega) (by omega),show ((i:Int) + 1)=((i+1:Nat):Int) by omega,ih]
      simp[h3',hgd]
     ·have h3':¬ (cat z.cells x.toNat).count=0:=h3
      have:gd z.cells z.pending i=false:=by
       cases hgd:gd z.cells z.pending i with
       | false=>rfl
       | true=>exact absurd (hg.1 hgd).2.2.1 h3
      simp[h3',this]
def zr (h:List Cell) (P:List Int) (k:Nat):Bool:=match P[k]? with | some x=>decide (Cf h h x.toNat=0) | none=>true
theorem LJ {h:List Cell} {x:Int} (h0:0≤x) (h1:x < h.length):Sh.get (refs h) x=some (Cf h h x.toNat:Int):=by
 unfold refs
 rw[DJ h0,Br (by omega)]
theorem Qp {z:BJ} {h:List Cell} (L:Lz z) (hin :∀x∈z.pending,0≤x∧x < h.length) {N i:Nat} (hi:i≤z.pending.length) (hN:z.pending.length - i < N) :
  Bo z (refs h) N i=some (if C7 (zr h z.pending) z.pending.length i then Sum.inr () else Sum.inl false):=by
 have hl:=L.MI
 refine BG z.pending.length (fun N i=>Bo z (refs h) N i=some (if C7 (zr h z.pending) z.pending.length i then Sum.inr () else Sum.inl false)) ?_ ?_ hi hN
 ·intro n
  rw[Bo,if_neg (by simp[Ae]),EK];rfl
 ·intro n i hi ih
  obtain⟨x,hx,hxm⟩:=B6 hi
  obtain⟨x0,x1⟩:=hin x hxm
  have hz:zr h z.pending i=decide (Cf h h x.toNat=0):=by unfold zr;rw[hx]
  rw[Bo,if_pos (by simp[Ae];omega),BB hx]
  simp only[Option.bind_some]
  rw[LJ x0 x1,A4 (by omega) (by omega),show ((i:Int) + 1)=((i+1:Nat):Int) by omega,ih,EG hi,hz]
  simp only[Option.bind_some]
  by_cases h2:Cf h h x.toNat=0
  ·simp[h2]
  ·simp[h2]
theorem Mi {P:List Int} {h:List Cell} (hl:P.length≤1048576) (hin :∀x∈P,0≤x∧x < h.length) {N i:Nat} (hi:i≤P.length) (hN:P.length - i < N) :
  ∃r,A2 (refs h) P N i=some r∧(C7 (zr h P) P.length i=true→r=Sum.inr ())∧(C7 (zr h P) P.length i=false→∃k:Nat,r=Sum.inl (k:Int)):=by
 refine BG P.length (fun N i=>∃r,A2 (refs h) P N i=some r∧(C7 (zr h P) P.length i=true→r=Sum.inr ())∧(C7 (zr h P) P.length i=false→∃k:Nat,r=Sum.inl (k:Int))) ?_ ?_ hi hN
 ·intro n
  rw[A2,if_neg (by simp[Ae]),EK]
  exact⟨_,rfl,fun _=>rfl,fun h=>by cases h⟩
 ·intro n i hi ih
  obtain⟨x,hx,hxm⟩:=B6 hi
  obtain⟨x0,x1⟩:=hin x hxm
  have hz:zr h P i=decide (Cf h h x.toNat=0):=by unfold zr;rw[hx]
  rw[A2,if_pos (by simp[Ae];omega),BB hx]
  simp only[Option.bind_some,DT]
  rw[LJ x0 x1,A4 (by omega) (by omega),show ((i:Int) + 1)=((i+1:Nat):Int) by omega,EG hi,hz]
  simp only[Option.bind_some]
  by_cases h2:Cf h h x.toNat=0
  ·rw[if_neg (by simp;omega)]
   simpa [h2] using ih
  ·rw[if_pos (by simp;omega)]
   exact⟨_,rfl,fun h=>by simp[h2] at h,fun _=>⟨i,rfl⟩⟩
def LV (z:BJ):Prop:=C7 (gd z.cells z.pending) z.pending.length 0=true∧DA z.cells=true∧VH (rs z.cells z.pending)∧C7 (zr (rs z.cells z.pending) z.pending) z.pending.length 0=true
theorem Q8 {h:List Cell} {P:List Int} (ha:C7 (gd h P) P.length 0=true) :∀x∈P,0≤x∧x < h.length:=fun x hx=>by
 obtain⟨k,hk⟩:=List.mem_iff_getElem?.1 hx
 have hkl:=(List.getElem?_eq_some_iff.1 hk).1
 have:=(FA (Nat.zero_le _)).1 ha k (Nat.zero_le _) hkl
 obtain⟨a,b,_⟩:=(JC hk).1 this
 exact⟨a,b⟩
theorem FX {z:BJ} (L:Lz z) {N:Nat} (hN:2000000≤N) :∃b,Cw N z=some b∧DK N z=some b∧(b=true↔LV z):=by
 have hl:=L.MI
 have H:=L.hp
 have hc:=H.len
 have p1:=Qh L hN (Nat.zero_le _) (by omega:z.pending.length - 0 < N)
 have p2:=Qb (z:=z) hc (Nat.zero_le _) (by omega:z.cells.length - 0 < N)
 have q1:=Lj (h:=z.cells) hc (Nat.zero_le _) (by omega:z.cells.length - 0 < N)
 have q2:=Le L (Nat.zero_le _) (by omega:z.pending.length - 0 < N)
 rw[show ((0:Nat):Int)=0 from rfl] at p1 p2 q1 q2
 rw[List.drop_zero] at p2 q1
 rw[List.take_zero,Ml] at q2
 unfold Cw Cu De DK Dx BE
 rw[ES [] z.cells 40 (by simp;omega) (by simp;omega)]
 simp only[Option.bind_some,List.nil_append]
 rw[p1,p2,q1,q2]
 unfold LV
 cases h2:DA z.cells with
 | false=>
  refine⟨false,?_,by simp,by simp⟩
  cases C7 (gd z.cells z.pending) z.pending.length 0 <;> simp
 | true=>
  cases h1:C7 (gd z.cells z.pending) z.pending.length 0 with
  | false=>exact⟨false,by simp,by simp,by simp⟩
  | true=>
   have Hr:=P9 H z.pending
   obtain⟨b,r,v1,_,v2,_,v3,v4⟩:=FM Hr hN
   simp only[if_true,Sh.Eo,Option.bind_some,Bool.not_true,Bool.false_eq_true,if_false]
   rw[KN L h1 hN]
   simp only[Option.bind_some]
   rw[v1,v2]
   simp only[Option.bind_some]
   cases b with
   | false=>exact⟨false,by simp,by simp,by simp;intro hv;exact absurd (v3.2 hv) (by simp)⟩
   | true=>
    obtain rfl:=v4 rfl
    have V:=v3.1 rfl
    have hin:=Q8 h1
    have hin' :∀x∈z.pending,0≤x∧x < (rs z.cells z.pending).length:=by rw[GG];exact hin
    have l1:=Qp L hin' (Nat.zero_le _) (by omega:z.pending.length - 0 < N)
    obtain⟨r,c1,c2,c3⟩:=Mi hl hin' (Nat.zero_le _) (by omega:z.pending.length - 0 < N)
    rw[show ((0:Nat):Int)=0 from rfl] at l1 c1
    rw[Fy Hr hN]
    simp only[Option.bind_some,Bool.not_true,Bool.false_eq_true,if_false]
    unfold CR Cd
    rw[l1,c1]
    cases h3:C7 (zr (rs z.cells z.pending) z.pending) z.pending.length 0 with
    | true=>
     rw[c2 h3]
     exact⟨true,by simp,by simp,by simp[V]⟩
    | false=>
     obtain⟨k,hk⟩:=c3 h3
     rw[hk]
     exact⟨false,by simp,by simp,by simp⟩
end RC



namespace RC
open Go
structure Bk (b:List Int):Prop where
 u8 :∀x∈b,U8 x
 len:b.length≤2000
def At (p K:Int):Prop:=0≤p∧p≤K
theorem LF {code:List Int} (h8 :∀x∈code,U8 x) (hl:code.length≤1048576):As (Dn code) fun q=>Bk q.1∧q.2=0:=by
 unfold Dn
 refine As.bind (R:=fun b=>Bk b) (Be (fun h=>?_) fun h=>?_) fun b hb=>As.some ⟨hb,rfl⟩
 ·rw[Ae] at h
  have e:Sh.sl code 0 2000=some (code.take 2000):=by
   unfold Sh.sl
   rw[if_pos ⟨by decide,by decide,by omega⟩];rfl
  exact B2 e (As.some ⟨fun x hx=>h8 x (List.mem_of_mem_take hx),by simp;omega⟩)
 ·rw[Ae] at h
  exact As.some ⟨h8,by omega⟩
theorem Hy {a n:Int} (ha:0≤a) (hn:1≤n):0≤a.tmod n∧a.tmod n < n∧a.tmod n≤a:=by
 rw[Int.tmod_eq_emod_of_nonneg ha]
 refine⟨Int.emod_nonneg _ (by omega),Int.emod_lt_of_pos _ (by omega),?_⟩
 have:=Int.mul_ediv_add_emod a n
 have h2:0≤n * (a / n):=Int.mul_nonneg (by omega) (Int.ediv_nonneg ha (by omega))
 omega
theorem MN {a n:Int} (ha:0≤a) (hn:1≤n):0≤a.tdiv n∧a.tdiv n≤a:=by
 rw[Int.tdiv_eq_ediv_of_nonneg ha]
 exact⟨Int.ediv_nonneg ha (by omega),Int.ediv_le_self _ ha⟩
theorem KA {a n:Int} (hn:n≠0):Sh.rem a n=some (a.tmod n):=by unfold Sh.rem;rw[if_neg hn]
theorem RX {a n:Int} (hn:n≠0):Sh.quo a n=some (Sh.w (a.tdiv n)):=by unfold Sh.quo;rw[if_neg hn]
structure Pk (n p:Int) (q:Int×Int):Prop where
 pos:q.2=p+1
 nn:0≤q.1
 lt:1≤n→q.1 < n
 zero:n < 1→q.1=0
theorem CC {b:List Int} (B:Bk b) {p n:Int} (hp:At p 1000000):As (Aq b p n) (Pk n p):=by
 obtain⟨p0,p1⟩:=hp
 have hlen:=B.len
 have ew:Sh.w (p+1)=p+1:=A4 (by omega) (by omega)
 have ew2:Sh.w (p+1 - 1)=p:=by rw[A4 (by omega) (by omega)];omega
 unfold Aq
 rw[ew,ew2,Ae]
 refine As.bind (R:=fun t=>t=true↔n < 1∨b.length=0) (Be (fun h=>As.some (by simp[h])) fun h=>As.some (by simp[h])) fun t ht=>?_
 refine EH (fun h=>?_) fun h=>?_
 ·refine As.some ⟨rfl,by show (0:Int)≤0;decide,fun h1=>?_,fun _=>rfl⟩
  show (0:Int) < n
  omega
 ·have hn:¬ (n < 1∨b.length=0):=fun h1=>by rw[ht.2 h1] at h;cases h
  have hn1:1≤n:=by omega
  have hb1:1≤b.length:=by omega
  refine Be (fun h1=>?_) fun h1=>?_
  ·refine As.get p0 h1 fun c _ hc=>?_
   obtain⟨c0,c1⟩:=B.u8 c hc
   rw[OP (by omega) (by omega)]
   obtain⟨m0,m1,_⟩:=Hy c0 hn1
   exact B2 (KA (by omega)) (As.some ⟨rfl,m0,fun _=>m1,fun h=>absurd h (by omega)⟩)
  ·have k1:(1:Int)≤b.length:=by omega
   obtain⟨a0,a1,_⟩:=Hy p0 k1
   have e7:Sh.w (p * 7)=p * 7:=A4 (by omega) (by omega)
   have e73:Sh.w (p * 7+3)=p * 7+3:=A4 (by omega) (by omega)
   obtain⟨d0,d1,_⟩:=Hy (a:=p * 7+3) (by omega) k1
   obtain⟨f0,f1⟩:=MN p0 k1
   rw[e7,e73]
   refine B2 (KA (by omega)) ?_
   refine As.get a0 a1 fun c _ hc=>?_
   obtain⟨c0,c1⟩:=B.u8 c hc
   refine B2 (KA (by omega)) ?_
   refine As.get d0 d1 fun c' _ hc'=>?_
   obtain⟨c0',c1'⟩:=B.u8 c' hc'
   refine B2 (RX (by omega)) ?_
   rw[OP (n:=c) (by omega) (by omega),OP (n:=c') (by omega) (by omega),A4 (n:=p.tdiv b.length) (by omega) (by omega),A4 (n:=c * 131) (by omega) (by omega),A4 (n:=c' * 1117) (by omega) (by omega),
    A4 (n:=c * 131+c' * 1117) (by omega) (by omega),A4 (n:=p * 29) (by omega) (by omega),A4 (n:=c * 131+c' * 1117+p * 29) (by omega) (by omega),A4 (n:=p.tdiv b.length * 53) (by omega) (by omega),
    A4 (n:=c * 131+c' * 1117+p * 29+p.tdiv b.length * 53) (by omega) (by omega)]
   obtain⟨x,hx⟩ :∃x,x=c * 131+c' * 1117+p * 29+p.tdiv b.length * 53:=⟨_,rfl⟩
   rw[← hx]
   have x0:0≤x:=by omega
   have x1:x≤1000000000000:=by omega
   obtain⟨y0,y1⟩:=MN x0 (by decide:(1:Int)≤64)
   rw[A4 (n:=x.tdiv 64) (by omega) (by omega)]
   obtain⟨z0,z1⟩:=RU x0 (by omega) y0 (by omega)
   obtain⟨m0,m1,_⟩:=Hy z0 hn1
   exact B2 (KA (by omega)) (As.some ⟨rfl,m0,fun _=>m1,fun h=>absurd h (by omega)⟩)
structure On (l:List Int) (p:Int) (q:Int×Int):Prop where
 pos:q.2=p+1
 mem:q.1∈l
theorem Km {b:List Int} (B:Bk b) {p:Int} {l:List Int} (hp:At p 1000000) (hl:1≤l.length) (hl2:l.length≤1000):As (Ci b p l) (On l p):=by
 unfold Ci
 rw[Ae]
 refine As.bind (CC B hp) fun q ⟨h1,h2,h3,_⟩=>?_
 exact As.get h2 (h3 (by omega)) fun x _ hx=>As.some ⟨h1,hx⟩
def NA (n:Int):Prop:=-1099511627776≤n∧n≤1099511627776
structure Pw (B:Int) (c:Cell):Prop where
 fl:c.fields.length≤3
 fi :∀x∈c.fields,NA x
 lo:-1000000 - B≤c.count
 hi:c.count≤1000000+B
 tag:NA c.tag
structure Sm (n:Nat) (B:Int) (h:List Cell):Prop where
 len:h.length≤n
 cells :∀c∈h,Pw B c
theorem Pw.up {B B':Int} {c:Cell} (h:Pw B c) (hB:B≤B'):Pw B' c:=⟨h.fl,h.fi,by have:=h.lo;omega,by have:=h.hi;omega,h.tag⟩
theorem Sm.up {n n':Nat} {B B':Int} {h:List Cell} (S:Sm n B h) (hn:n≤n') (hB:B≤B'):Sm n' B' h:=⟨by have:=S.len;omega,fun c hc=>(S.cells c hc).up hB⟩
theorem Sm.CT {n:Nat} {B:Int} {h:List Cell} (S:Sm n B h):CT h≤3 * h.length:=by
 have hc:=S.cells
 clear S
 induction h with
 | nil=>simp[RC.CT]
 | cons c h ih=>
  have h1:=ih fun d hd=>hc d (List.mem_cons_of_mem _ hd)
  have h2:=(hc c (List.mem_cons_self ..)).fl
  simp only[RC.CT,List.map_cons,List.sum_cons,List.length_cons] at h1 ⊢
  omega
theorem Sm.hp {n:Nat} {B:Int} {h:List Cell} (S:Sm n B h) (hn:n≤10000) (hB:B≤1000000000):Hp h:=by
 refine⟨?_,fun c hc=>?_⟩
 ·have:=S.CT;have:=S.len;unfold Bc;omega
 ·obtain⟨a,b,l,u,t⟩:=S.cells c hc
  exact⟨⟨by omega,by omega⟩,⟨by have:=t.1;omega,by have:=t.2;omega⟩,fun x hx=>⟨by have:=(b x hx).1;omega,by have:=(b x hx).2;omega⟩,by omega⟩
theorem Sm.size {n:Nat} {B:Int} {h:List Cell} (S:Sm n B h):Bc h≤4 * n:=by
 have:=S.CT;have:=S.len;unfold Bc;omega
theorem Sm.set {n:Nat} {B:Int} {h:List Cell} (S:Sm n B h) {j:Nat} {c:Cell} (hc:Pw B c):Sm n B (h.set j c):=
 ⟨by rw[List.length_set];exact S.len,fun d hd=>by
  rcases List.mem_or_eq_of_mem_set hd with h1 | h1
  ·exact S.cells d h1
  ·rw[h1];exact hc⟩
theorem Sm.app {n:Nat} {B:Int} {h:List Cell} (S:Sm n B h) {c:Cell} (hc:Pw B c):Sm (n+1) B (h ++ [c]):=
 ⟨by have:=S.len;simp;omega,fun d hd=>by
  rcases List.mem_append.1 hd with h1 | h1
  ·exact S.cells d h1
  ·rw[List.mem_singleton] at h1;rw[h1];exact hc⟩
theorem VH.sm {h:List Cell} (V:VH h) {n:Nat} (hn:h.length≤n) (hn2:n≤10000):Sm n 0 h:=by
 refine⟨hn,fun c hc=>?_⟩
 obtain⟨a1,a2,a3,a4,a5⟩:=(Eh _ _).1 (V.cells c hc)
 refine⟨by omega,fun x hx=>?_,by omega,by omega,?_⟩
 ·by_cases h1:c.count < 1
  ·have:=(a4 h1).2.1 x hx;exact⟨by omega,by omega⟩
  ·have h2:=(a5 (by omega)).1 x hx
   by_cases hp:1000≤x
   ·rw[D8 hp] at h2
    have:=G9 (h:=h) (j:=(x - 1000).toNat) (by have:0 < ct h (x - 1000).toNat:=(by simpa using h2);omega)
    exact⟨by omega,by omega⟩
   ·rw[F8 hp] at h2
    have:-999≤x:=(by simpa using h2)
    exact⟨by omega,by omega⟩
 ·by_cases h1:c.count < 1
  ·have:=(a4 h1).1;exact⟨by omega,by omega⟩
  ·have h2:=(a5 (by omega)).2;exact⟨by omega,by omega⟩
end RC



namespace RC
open Go
theorem i40 {n:Int} (h1:-1000000000000≤n) (h2:n≤1000000000000):NA n:=⟨by omega,by omega⟩
theorem O9 {n:Int} (h1:-1000000000000≤n) (h2:n≤1000000000000):NA (Sh.w n):=by rw[A4 (by omega) (by omega)];exact i40 h1 h2
theorem NA.i64 {n:Int} (h:NA n):Dz n:=⟨by have:=h.1;omega,by have:=h.2;omega⟩
theorem JU {b:List Int} (Bb:Bk b) {M:Nat} (hM:2000000≤M) :∀(K N:Nat) (f F B:Int) (n:Nat) (h:List Cell) (fs:List Int),K < N→At f F→F+5 * K≤1000000→0≤B→B+K≤1000000→n≤1000→Sm n B h→fs.length+K≤10→(∀x∈fs,NA x)→
  As (CE M b N (K:Int) f h fs) fun q=>At q.1 (F+5 * K)∧Sm n (B+K) q.2.1∧q.2.2.length≤fs.length+K∧∀x∈q.2.2,NA x:=by
 intro K
 induction K with
 | zero=>
  intro N f F B n h fs hN hf hF _ _ _ S hl hI
  obtain⟨N',rfl⟩ :∃N',N=N' + 1:=⟨N - 1,by omega⟩
  rw[CE,if_neg (by simp)]
  exact As.some ⟨⟨hf.1,by have:=hf.2;omega⟩,S.up (Nat.le_refl _) (by omega),Nat.le_refl _,hI⟩
 | succ K ih=>
  intro N f F B n h fs hN hf hF hB0 hB hn S hl hI
  obtain⟨N',rfl⟩ :∃N',N=N' + 1:=⟨N - 1,by omega⟩
  obtain⟨f0,f1⟩:=hf
  have H:=S.hp (by omega) (by omega)
  have hlen:=S.len
  rw[CE,if_pos (by simp)]
  refine As.bind (CC Bb ⟨f0,by omega⟩) fun q73 ⟨a1,a2,a3,_⟩=>?_
  refine As.bind (R:=fun q=>NA q.1∧At q.2.1 (F+5)∧Sm n (B+1) q.2.2) ?_ ?_
  ·refine As.bind (R:=fun q=>At q.2 (F+2)∧(q.1=true→0 < h.length)) (Be (fun h0=>?_) fun h0=>As.some ⟨⟨by show 0≤q73.2;omega,by show q73.2≤_;omega⟩,fun h=>absurd h (by simp)⟩) ?_
   ·refine As.bind (CC Bb ⟨by omega,by omega⟩) fun q101 ⟨b1,_,_,_⟩=>As.some ⟨⟨by show 0≤q101.2;omega,by show q101.2≤_;omega⟩,fun _=>by rw[Ae] at h0;omega⟩
   ·rintro⟨t,f'⟩ ⟨⟨g0,g1⟩,g2⟩
    dsimp only at g0 g1 g2 ⊢
    refine EH (fun ht=>?_) fun ht=>As.some ⟨O9 (by omega) (by have:=a3 (by decide);omega),⟨g0,by show f'≤_;omega⟩,S.up (Nat.le_refl _) (by omega)⟩
    have hpos:=g2 ht
    refine As.bind (CC Bb ⟨g0,by omega⟩) fun q86 ⟨b1,b2,b3,_⟩=>?_
    rw[Ae] at b3
    have b4:=b3 (by omega)
    refine As.get b2 b4 fun c88 hc hcm=>?_
    have C:=S.cells c88 hcm
    refine Be (fun hct=>?_) fun hct=>As.some ⟨O9 (by omega) (by have:=a3 (by decide);omega),⟨by show 0≤q86.2;omega,by show q86.2≤_;omega⟩,S.up (Nat.le_refl _) (by omega)⟩
    refine As.bind (R:=fun q=>At q.2 (F+4)) ?_ ?_
    ·refine B2 (Fy H hM) (As.get b2 (by unfold refs;rw[Ca];exact b4) fun c97 _ _=>?_)
     refine Be (fun _=>As.some ⟨by show 0≤q86.2;omega,by show q86.2≤_;omega⟩) fun _=>?_
     exact As.bind (CC Bb ⟨by omega,by omega⟩) fun q99 ⟨d1,_,_,_⟩=>As.some ⟨by show 0≤q99.2;omega,by show q99.2≤_;omega⟩
    ·rintro⟨t2,f2⟩ ⟨e0,e1⟩
     dsimp only at e0 e1 ⊢
     refine EH (fun _=>As.some ⟨O9 (by omega) (by omega),⟨e0,by show f2≤_;omega⟩,?_⟩) fun _=>As.some ⟨O9 (by omega) (by omega),⟨e0,by show f2≤_;omega⟩,S.up (Nat.le_refl _) (by omega)⟩
     have l:=C.lo
     have u:=C.hi
     refine (S.up (Nat.le_refl _) (by omega)).set ⟨C.fl,C.fi,?_,?_,C.tag⟩
     ·show _≤Sh.w (c88.count+1);rw[A4 (by omega) (by omega)];omega
     ·show Sh.w (c88.count+1)≤_;rw[A4 (by omega) (by omega)];omega
  ·rintro⟨w75,f76,l77⟩ ⟨c1,⟨c2,c3⟩,c4⟩
   dsimp only at c1 c2 c3 c4 ⊢
   refine As.app (by simp;omega) (by simp;omega) ?_
   rw[A4 (by omega) (by omega),show (((K+1:Nat):Int) - 1)=(K:Int) by omega]
   refine (ih N' f76 (F+5) (B+1) n l77 (fs ++ [w75]) (by omega) ⟨c2,c3⟩ (by omega) (by omega) (by omega) hn c4 (by simp;omega) (fun x hx=>?_)).mono fun q ⟨r1,r2,r3,r4⟩=>⟨⟨r1.1,by have:=r1.2;omega⟩,r2.up (Nat.le_refl _) (by omega),by simp at r3;omega,r4⟩
   rcases List.mem_append.1 hx with h1 | h1
   ·exact hI x h1
   ·rw[List.mem_singleton] at h1;rw[h1];exact c1
theorem Nt {a b c d p:Int} {q:Int×Int} (h:On [a,b,c,d] p q) {l u:Int} (ha:l≤a∧a≤u) (hb:l≤b∧b≤u) (hc:l≤c∧c≤u) (hd:l≤d∧d≤u):l≤q.1∧q.1≤u:=by
 have:=h.mem
 simp only[List.mem_cons,List.not_mem_nil,or_false] at this
 rcases this with h | h | h | h <;> omega
theorem Ja {b:List Int} (Bb:Bk b) {M:Nat} (hM:2000000≤M) :∀(K N:Nat) (f F:Int) (n:Nat) (h:List Cell),K < N→At f F→F+30 * K≤900000→n+K≤500→Sm n (10 * n) h→
  As (CF M b N (K:Int) f h) fun q=>At q.1 (F+30 * K)∧Sm (n+K) (10 * (n+K:Nat)) q.2:=by
 intro K
 induction K with
 | zero=>
  intro N f F n h hN hf hF hn S
  obtain⟨N',rfl⟩ :∃N',N=N' + 1:=⟨N - 1,by omega⟩
  rw[CF,if_neg (by simp)]
  exact As.some ⟨⟨hf.1,by have:=hf.2;omega⟩,S.up (by omega) (by omega)⟩
 | succ K ih=>
  intro N f F n h hN hf hF hn S
  obtain⟨N',rfl⟩ :∃N',N=N' + 1:=⟨N - 1,by omega⟩
  obtain⟨f0,f1⟩:=hf
  rw[CF,if_pos (by simp)]
  refine As.bind (R:=fun q=>At q.1 (F+30)∧Sm (n+1) (10 * (n+1:Nat)) q.2) ?_ ?_
  ·refine As.bind (CC Bb ⟨f0,by omega⟩) fun q37 ⟨a1,a2,a3,_⟩=>?_
   have a4:=a3 (by decide)
   obtain⟨k,hk⟩:=Int.eq_ofNat_of_zero_le a2
   rw[hk]
   refine As.bind (JU Bb hM k M q37.2 (F+1) (10 * n) n h [] (by omega) ⟨by omega,by omega⟩ (by omega) (by omega) (by omega) (by omega) S (by simp;omega) (fun x hx=>absurd hx (List.not_mem_nil))) ?_
   rintro⟨f42,l43,l44⟩ ⟨⟨c1,c2⟩,c3,c4,c5⟩
   dsimp only at c1 c2 c3 c4 c5 ⊢
   refine As.bind (CC Bb ⟨c1,by omega⟩) fun q47 ⟨d1,d2,d3,_⟩=>?_
   have d4:=d3 (by decide)
   refine As.bind (CC Bb ⟨by omega,by omega⟩) fun q48 ⟨e1,e2,e3,_⟩=>?_
   have e4:=e3 (by decide)
   refine As.bind (Km Bb ⟨by omega,by omega⟩ (by simp) (by simp)) fun q49 O=>?_
   have g1:=O.pos
   have g2:=Nt O (l:=0) (u:=99) ⟨by omega,by omega⟩ ⟨by omega,by omega⟩ ⟨by omega,by omega⟩ ⟨by omega,by omega⟩
   have S1:Sm n (10 * (n:Int) + 3) l43:=c3.up (Nat.le_refl _) (by omega)
   have H1:=S1.hp (by omega) (by omega)
   have hz:=S1.size
   obtain⟨bb,r1,_,r3⟩:=J0 (t:=q49.1) (fs:=l44) H1 (by simp at c4;omega) ⟨by omega,by omega⟩ (fun x hx=>(c5 x hx).i64) hM
   refine B2 r1 ?_
   refine As.bind (R:=fun l=>Sm (n+1) (10 * (n+1:Nat)) l) ?_ fun l52 S2=>?_
   ·cases bb with
    | false=>exact Be (fun h=>absurd h (by simp)) fun _=>As.some (S1.up (by omega) (by omega))
    | true=>
     have V:=(r3.1 rfl).2
     refine Be (fun _=>As.some ?_) fun h=>absurd h (by simp;omega)
     have hln:(Gb l43 ⟨1,q49.1,l44⟩).length≤n+1:=by rw[QM];have:=S1.len;split <;> omega
     exact (V.sm hln (by omega)).up (Nat.le_refl _) (by omega)
   ·have H2:=S2.hp (by omega) (by omega)
    have hl2:=S2.len
    refine As.bind (R:=fun q=>At q.2 (F+27)∧(q.1=true→0 < l52.length)) (Be (fun h0=>?_) fun h0=>As.some ⟨⟨by show 0≤q49.2;omega,by show q49.2≤_;omega⟩,fun h=>absurd h (by simp)⟩) ?_
    ·exact As.bind (CC Bb ⟨by omega,by omega⟩) fun q65 ⟨b1,_,_,_⟩=>As.some ⟨⟨by show 0≤q65.2;omega,by show q65.2≤_;omega⟩,fun _=>by rw[Ae] at h0;omega⟩
    ·rintro⟨t55,f56⟩ ⟨⟨i0,i1⟩,i2⟩
     dsimp only at i0 i1 i2 ⊢
     refine EH (fun ht=>?_) fun _=>As.some ⟨⟨i0,by show f56≤_;omega⟩,S2⟩
     have hpos:=i2 ht
     refine As.bind (CC Bb ⟨i0,by omega⟩) fun q60 ⟨j1,j2,j3,_⟩=>?_
     rw[Ae] at j3
     have j4:=j3 (by omega)
     have ew:Sh.w (1000+q60.1)=1000+q60.1:=A4 (by omega) (by omega)
     rw[ew]
     obtain⟨g,b2,s1,_,s3,s4,_⟩:=LA (w:=1000+q60.1) H2 ⟨by omega,by omega⟩ hM
     refine B2 s1 ?_
     refine EH (fun hb=>As.some ⟨⟨by show 0≤q60.2;omega,by show q60.2≤_;omega⟩,?_⟩) fun _=>As.some ⟨⟨by show 0≤q60.2;omega,by show q60.2≤_;omega⟩,S2⟩
     have hb':b2=true:=hb
     have MD:=s3.1 hb'
     have D:=s4 hb'
     have V2:=D.VH (MD.pre H2) MD.1
     have hle:=D.len MD.1.zr
     exact (V2.sm (n:=n+1) (by omega) (by omega)).up (Nat.le_refl _) (by omega)
  ·rintro⟨f31,l32⟩ ⟨⟨c1,c2⟩,c3⟩
   dsimp only at c1 c2 c3 ⊢
   rw[A4 (by omega) (by omega),show (((K+1:Nat):Int) - 1)=(K:Int) by omega]
   exact (ih N' f31 (F+30) (n+1) l32 (by omega) ⟨c1,c2⟩ (by omega) (by omega) c3).mono fun q ⟨r1,r2⟩=>⟨⟨r1.1,by have:=r1.2;omega⟩,r2.up (by omega) (by omega)⟩
theorem Lo {b:List Int} (Bb:Bk b) {M:Nat} (hM:2000000≤M) {p:Int} (hp:At p 1000) (kept:Bool):As (EB M b p kept) fun q=>Sm 18 1000 q.1∧At q.2 3000:=by
 obtain⟨p0,p1⟩:=hp
 unfold EB
 refine As.bind (CC Bb ⟨p0,by omega⟩) fun q5 ⟨a1,a2,a3,_⟩=>?_
 have a4:=a3 (by decide)
 obtain⟨k,hk⟩:=Int.eq_ofNat_of_zero_le (by omega:0≤3+q5.1)
 rw[A4 (by omega) (by omega),hk]
 refine As.bind (Ja Bb hM k M q5.2 (p+1) 0 [] (by omega) ⟨by omega,by omega⟩ (by omega) (by omega) ⟨by simp,by simp⟩) ?_
 rintro⟨f9,l10⟩ ⟨⟨c1,c2⟩,c3⟩
 dsimp only at c1 c2 c3 ⊢
 have S:Sm 17 1000 l10:=c3.up (by omega) (by omega)
 have hl:=S.len
 refine As.bind (R:=fun q=>At q.1 3000∧Sm 18 1000 q.2) ?_ ?_
 ·refine As.bind (R:=fun q=>At q.2 2000) (EH (fun _=>?_) fun _=>As.some ⟨c1,by show f9≤_;omega⟩) ?_
  ·exact As.bind (CC Bb ⟨by omega,by omega⟩) fun q26 ⟨b1,_,_,_⟩=>As.some ⟨by show 0≤q26.2;omega,by show q26.2≤_;omega⟩
  ·rintro⟨t18,f19⟩ ⟨d0,d1⟩
   dsimp only at d0 d1 ⊢
   refine EH (fun _=>?_) fun _=>As.some ⟨⟨d0,by show f19≤_;omega⟩,S.up (by omega) (by omega)⟩
   refine As.bind (CC Bb ⟨d0,by omega⟩) fun q22 ⟨e1,e2,e3,_⟩=>?_
   have e4:=e3 (by decide)
   obtain⟨z,hz⟩:=Int.eq_ofNat_of_zero_le e2
   refine As.bind (R:=fun q=>q=List.replicate z 0) ?_ fun q23 hq=>?_
   ·unfold GJ
    rw[hz]
    exact B2 (Mj 0 z 8 (by omega) (by omega)) (As.some rfl)
   ·subst hq
    refine As.app (by simp;omega) (by simp;omega) (As.some ⟨⟨by show 0≤q22.2;omega,by show q22.2≤_;omega⟩,?_⟩)
    exact S.app ⟨by simp;omega,fun x hx=>by rw[List.eq_of_mem_replicate hx];exact i40 (by decide) (by decide),by show _≤(-1:Int);omega,by show (-1:Int)≤_;omega,i40 (n:=0) (by decide) (by decide)⟩
 ·rintro⟨f13,l14⟩ ⟨d1,d2⟩
  exact As.some ⟨d2,d1⟩
theorem Sc (n:Nat):(if ((n:Int) > 1) then (n:Int) else 1)=((max n 1:Nat):Int):=by
 split <;> omega
end RC



namespace RC
open Go
structure WZ (h:List Cell) (P R:List Int):Prop where
 HD :∀x∈P,0≤x∧x < h.length∧ct h x.toNat=0
 CD :∀j,((pc R j+Es h j:Nat):Int)≤ct h j
theorem WZ.skip {h:List Cell} {P R:List Int} {w:Int} (W:WZ h P (w :: R)):WZ h P R:=
 ⟨W.HD,fun j=>by have:=W.CD j;rw[Kr] at this;split at this <;> omega⟩
theorem WZ.at {h:List Cell} {P R:List Int} {w:Int} (W:WZ h P (w :: R)) (hw:1000≤w):(w - 1000).toNat < h.length∧1≤ct h (w - 1000).toNat:=by
 have:=W.CD (w - 1000).toNat
 rw[Kr,if_pos (by omega)] at this
 have h1:1≤ct h (w - 1000).toNat:=by omega
 exact⟨G9 (by omega),h1⟩
theorem JZ {h g:List Cell} (hl:g.length=h.length) (hf :∀k,fl g k=fl h k) (j:Nat):Es g j=Es h j:=by
 show DS g _ j g.length=DS h _ j h.length
 rw[hl]
 exact Ej fun i _=>by rw[hf]
theorem WZ.lower {h:List Cell} {P R:List Int} {w:Int} (W:WZ h P (w :: R)) (hw:1000≤w) :
  WZ (h.set (w - 1000).toNat ⟨ct h (w - 1000).toNat - 1,(cat h (w - 1000).toNat).tag,(cat h (w - 1000).toNat).fields⟩) (if ct h (w - 1000).toNat - 1=0 then P ++ [w - 1000] else P) R:=by
 obtain⟨h1,h2⟩:=W.at hw
 have hc :∀k,ct (h.set (w - 1000).toNat ⟨ct h (w - 1000).toNat - 1,(cat h (w - 1000).toNat).tag,(cat h (w - 1000).toNat).fields⟩) k=if k=(w - 1000).toNat then ct h k - 1 else ct h k:=fun k=>by
  unfold ct
  rw[Gu h1]
  by_cases e:k=(w - 1000).toNat
  ·subst e;simp only[if_true]
  ·simp only[e,if_false]
 have hf :∀k,fl (h.set (w - 1000).toNat ⟨ct h (w - 1000).toNat - 1,(cat h (w - 1000).toNat).tag,(cat h (w - 1000).toNat).fields⟩) k=fl h k:=fun k=>by
  rw[B1,B1,Gu h1]
  by_cases e:k=(w - 1000).toNat
  ·subst e;simp only[if_true]
  ·simp only[e,if_false]
 refine⟨fun x hx=>?_,fun j=>?_⟩
 ·have C5 :∀y∈P,0≤y∧y < (h.set (w - 1000).toNat ⟨ct h (w - 1000).toNat - 1,(cat h (w - 1000).toNat).tag,(cat h (w - 1000).toNat).fields⟩).length∧ct (h.set (w - 1000).toNat ⟨ct h (w - 1000).toNat - 1,(cat h (w - 1000).toNat).tag,(cat h (w - 1000).toNat).fields⟩) y.toNat=0:=fun y hy=>by
   obtain⟨a,b,c⟩:=W.HD y hy
   rw[hc,List.length_set]
   refine⟨a,b,?_⟩
   rw[if_neg (fun e=>by rw[e] at c;omega)];exact c
  by_cases e:ct h (w - 1000).toNat - 1=0
  ·rw[if_pos e] at hx
   rcases List.mem_append.1 hx with h | h
   ·exact C5 x h
   ·rw[List.mem_singleton] at h
    subst h
    rw[hc,if_pos rfl,List.length_set]
    exact⟨by omega,by omega,e⟩
  ·rw[if_neg e] at hx;exact C5 x hx
 ·have:=W.CD j
  rw[Kr] at this
  rw[hc,JZ (List.length_set) hf]
  by_cases e:j=(w - 1000).toNat
  ·rw[if_pos (by omega)] at this;rw[if_pos e];omega
  ·rw[if_neg (by omega)] at this;rw[if_neg e];omega
theorem PT {h:List Cell} {x j:Nat} {p:Nat→Bool} (hx:x < h.length) :∀n,x < n→p x=true→DS (h.set x ⟨0,0,[]⟩) p j n+pc (fl h x) j=DS h p j n:=by
 intro n
 induction n with
 | zero=>intro h0;omega
 | succ n ih=>
  intro h0 hp
  unfold DS
  by_cases e:x=n
  ·subst e
   rw[Ej (g:=h) (q:=p) (n:=x) (fun i hi=>by
    have:¬ i=x:=by omega
    rw[B1,B1,Gu hx,if_neg this]),B1,Gu hx,if_pos rfl,if_pos hp,if_pos hp]
   simp[Et]
  ·have:=ih (by omega) hp
   have e':¬ n=x:=fun h=>e h.symm
   have e2:fl (h.set x ⟨0,0,[]⟩) n=fl h n:=by rw[B1,B1,Gu hx,if_neg e']
   rw[e2];omega
theorem WZ.free {h:List Cell} {P:List Int} {x:Int} (W:WZ h (x :: P) []):WZ (h.set x.toNat ⟨0,0,[]⟩) P (fl h x.toNat):=by
 obtain⟨h0,h1,h2⟩:=W.HD x (List.mem_cons_self ..)
 have hx:x.toNat < h.length:=by omega
 have hc :∀k,ct (h.set x.toNat ⟨0,0,[]⟩) k=ct h k:=fun k=>by
  unfold ct at *
  rw[Gu hx]
  by_cases e:k=x.toNat
  ·subst e;simp only[if_true];exact h2.symm
  ·simp only[e,if_false]
 refine⟨fun y hy=>?_,fun j=>?_⟩
 ·obtain⟨a,b,c⟩:=W.HD y (List.mem_cons_of_mem _ hy)
  rw[hc,List.length_set];exact⟨a,b,c⟩
 ·have:=W.CD j
  rw[Et] at this
  have e:=PT (h:=h) (x:=x.toNat) (j:=j) (p:=fun _=>true) hx h.length hx rfl
  rw[hc]
  show ((pc (fl h x.toNat) j+DS (h.set x.toNat ⟨0,0,[]⟩) (fun _=>true) j (h.set x.toNat ⟨0,0,[]⟩).length:Nat):Int)≤ct h j
  rw[List.length_set]
  have e2:Es h j=DS h (fun _=>true) j h.length:=rfl
  omega
theorem JY {h:List Cell} {n j:Nat} (hj:j < n):cat (h.take n) j=cat h j:=by
 unfold cat
 rw[List.getElem?_take,if_pos hj]
theorem Ph {h:List Cell} {p:Nat→Bool} {j n:Nat} :∀m,m≤n→DS (h.take n) p j m=DS h p j m:=by
 intro m hm
 refine Ej fun i hi=>?_
 rw[B1,B1,JY (by omega)]
theorem PW {h:List Cell} {p:Nat→Bool} {j n:Nat} :∀m,DS h p j n≤DS h p j (n+m):=by
 intro m
 induction m with
 | zero=>exact Nat.le_refl _
 | succ m ih=>
  show _≤DS h p j (n+m) + _
  omega
theorem WZ.cut {h:List Cell} {P R:List Int} (W:WZ h P R) {n:Nat} (hn:n≤h.length) (hz :∀k,n≤k→ct h k=0) (hp :∀x∈P,x < n):WZ (h.take n) P R:=by
 refine⟨fun x hx=>?_,fun j=>?_⟩
 ·obtain⟨a,b,c⟩:=W.HD x hx
  have:=hp x hx
  refine⟨a,by rw[List.length_take];omega,?_⟩
  unfold ct at *
  rw[JY (by omega)];exact c
 ·have h1:=W.CD j
  have h2:Es (h.take n) j≤Es h j:=by
   show DS (h.take n) _ j (h.take n).length≤DS h _ j h.length
   rw[List.length_take,Nat.min_eq_left hn,Ph _ (Nat.le_refl _)]
   have e:h.length=n+(h.length - n):=by omega
   rw[e]
   exact PW _
  by_cases hj:j < n
  ·have:ct (h.take n) j=ct h j:=by unfold ct;rw[JY hj]
   omega
  ·have h3:=hz j (by omega)
   have:ct (h.take n) j=0:=by unfold ct;rw[Cm (by rw[List.length_take];omega)]
   omega
theorem LV.wz {z:BJ} (V:LV z):WZ z.cells z.pending []:=by
 obtain⟨h1,h2,h3,h4⟩:=V
 have hgd :∀x∈z.pending,0≤x∧x < z.cells.length∧ct z.cells x.toNat=0∧Cf (rs z.cells z.pending) (rs z.cells z.pending) x.toNat=0:=fun x hx=>by
  obtain⟨k,hk⟩:=List.mem_iff_getElem?.1 hx
  have hkl:=(List.getElem?_eq_some_iff.1 hk).1
  have a:=(FA (Nat.zero_le _)).1 h1 k (Nat.zero_le _) hkl
  have b:=(FA (Nat.zero_le _)).1 h4 k (Nat.zero_le _) hkl
  obtain⟨a1,a2,a3,_⟩:=(JC hk).1 a
  unfold zr at b
  rw[hk] at b
  exact⟨a1,a2,a3,by simpa using b⟩
 have hin :∀j,Es (rs z.cells z.pending) j=Es z.cells j:=JZ (GG _ _) fun k=>by rw[B1,B1,Qo]
 have hnn :∀j,0≤ct z.cells j:=fun j=>by
  by_cases hj:j < z.cells.length
  ·have:=List.all_eq_true.1 h2 _ (Di hj)
   rw[decide_eq_true_eq] at this
   exact this
  ·unfold ct;rw[Cm (by omega)];exact Int.le_refl _
 have hct :∀j,ct (rs z.cells z.pending) j=if (j:Int)∈z.pending then 1 else ct z.cells j:=fun j=>by
  by_cases hj:j < z.cells.length
  ·unfold ct;rw[NI hj];unfold IK;split <;> rfl
  ·have hj':¬ (j:Int)∈z.pending:=fun h=>by have:=(hgd _ h).2.1;omega
   rw[if_neg hj']
   unfold ct;rw[Cm (by rw[GG];omega),Cm (by omega)]
 refine⟨fun x hx=>⟨(hgd x hx).1,(hgd x hx).2.1,(hgd x hx).2.2.1⟩,fun j=>?_⟩
 rw[Et,Nat.zero_add,← hin]
 by_cases hj:(j:Int)∈z.pending
 ·have h5:=(hgd _ hj).2.2.2
  rw[Int.toNat_natCast,Hc,hct,if_pos hj,if_pos (by omega)] at h5
  have:=hnn j
  omega
 ·by_cases hc:0 < ct (rs z.cells z.pending) j
  ·have:=h3.CD hc
   rw[hct,if_neg hj] at this;exact this
  ·have h6:Es (rs z.cells z.pending) j=0:=Jh fun i _ _=>by
    cases h7:pc (fl (rs z.cells z.pending) i) j with
    | zero=>rfl
    | succ m=>
     have:=h3.fields i _ (Hu.1 (by omega:0 < pc (fl (rs z.cells z.pending) i) j)) (by omega)
     rw[show (1000+(j:Int) - 1000).toNat=j by omega] at this
     exact absurd this hc
   have:=hnn j
   omega
end RC



namespace RC
open Go
structure GZ (n:Nat) (h:List Cell) (P:List Int):Prop where
 sm:Sm 18 1000 h
 pl:P.length≤n
 ok:P=[]∨WZ h P []
theorem GZ.up {n m:Nat} {h:List Cell} {P:List Int} (G:GZ n h P) (hm:n≤m):GZ m h P:=⟨G.sm,by have:=G.pl;omega,G.ok⟩
theorem GZ.pi {n:Nat} {h:List Cell} {P:List Int} (G:GZ n h P) :∀x∈P,Dz x:=fun x hx=>by
 rcases G.ok with rfl | W
 ·cases hx
 ·obtain⟨a,b,_⟩:=W.HD x hx
  have:=G.sm.len
  exact⟨by omega,by omega⟩
theorem GZ.lz {n:Nat} {h:List Cell} {P:List Int} (G:GZ n h P) (hn:n≤1000):Lz ⟨h,P⟩:=by
 have H:=G.sm.hp (by omega) (by omega)
 exact⟨by show Bc h+P.length≤1048576;have:=G.sm.size;have:=G.pl;omega,H.cells,G.pi⟩
theorem Mq {h:List Cell} {P:List Int} (H:Hp h) (hP:P.length≤1048576) {N:Nat} (hN:2000000≤N):EA N h P=some ⟨h,P⟩:=by
 unfold EA
 rw[Fc H hN,E2 hP];rfl
theorem Nj (z:BJ) :∀n i l,CX z.pending n i l=Bx z n i l:=by
 intro n
 induction n with
 | zero=>intro i l;rfl
 | succ n ih=>
  intro i l
  rw[CX,Bx]
  simp only[ih]
theorem Ny (z:BJ) (N:Nat):C6 N z.cells z.pending=C0 N z:=by
 unfold C6 C0
 simp only[Nj]
theorem LV.gd {z:BJ} (V:LV z) :∀x∈z.pending,0≤x∧x < z.cells.length∧ct z.cells x.toNat=0:=V.wz.HD
theorem LV.Cf {z:BJ} (V:LV z) {j:Nat} (hj:0 < ct z.cells j):Cf (rs z.cells z.pending) (rs z.cells z.pending) j=Es z.cells j:=by
 have hn:¬ (j:Int)∈z.pending:=fun h=>by
  have:=(V.gd _ h).2.2
  rw[Int.toNat_natCast] at this;omega
 have hl:=G9 (h:=z.cells) (j:=j) (by omega)
 have hc:ct (rs z.cells z.pending) j=ct z.cells j:=by
  unfold ct;rw[NI hl];unfold IK;rw[if_neg hn]
 rw[Hc,hc,if_pos hj]
 exact JZ (GG _ _) (fun k=>by rw[B1,B1,Qo]) j
def MF (h:List Cell) (w:Int):List Cell:=h.set (w - 1000).toNat ⟨ct h (w - 1000).toNat - 1,(cat h (w - 1000).toNat).tag,(cat h (w - 1000).toNat).fields⟩
def L3 (h:List Cell) (P:List Int) (w:Int):List Int:=if ct h (w - 1000).toNat - 1=0 then P ++ [w - 1000] else P
theorem JT (h:List Cell) (P:List Int) (w:Int):(L3 h P w).length≤P.length+1:=by
 unfold L3;split
 ·simp
 ·omega
theorem Na {h:List Cell} {P R:List Int} {w:Int} (S:Sm 18 1000 h) (W:WZ h P (w :: R)) (hw:1000≤w):Sm 18 1000 (MF h w):=by
 obtain⟨h1,h2⟩:=W.at hw
 obtain⟨a,b,l,u,t⟩:=S.cells _ (Di h1)
 exact S.set ⟨a,b,by show _≤ct h (w - 1000).toNat - 1;omega,by show ct h (w - 1000).toNat - 1≤_;have:ct h (w - 1000).toNat≤1000000+1000:=u;omega,t⟩
theorem MZ {h:List Cell} {P R:List Int} {w:Int} (S:Sm 18 1000 h) (W:WZ h P (w :: R)) (hw:1000≤w) (hP:P.length≤1000):Ep h P w=some ⟨MF h w,L3 h P w⟩:=by
 obtain⟨h1,h2⟩:=W.at hw
 have hl:=S.len
 have u:(cat h (w - 1000).toNat).count≤1000000+1000:=(S.cells _ (Di h1)).hi
 have h2':1≤(cat h (w - 1000).toNat).count:=h2
 unfold Ep
 rw[A4 (n:=w - 1000) (by omega) (by omega),DJ (by omega),DB h1]
 simp only[Option.bind_some]
 rw[A4 (n:=(cat h (w - 1000).toNat).count - 1) (by omega) (by omega)]
 have hput:Sh.put h (w - 1000) ⟨(cat h (w - 1000).toNat).count - 1,(cat h (w - 1000).toNat).tag,(cat h (w - 1000).toNat).fields⟩=MF h w:=rfl
 have hget:Sh.get (MF h w) (w - 1000)=some ⟨(cat h (w - 1000).toNat).count - 1,(cat h (w - 1000).toNat).tag,(cat h (w - 1000).toNat).fields⟩:=by
  rw[DJ (by omega)]
  unfold MF
  rw[List.getElem?_set_self h1];rfl
 rw[hput,hget]
 simp only[Option.bind_some]
 unfold L3
 by_cases e:ct h (w - 1000).toNat - 1=0
 ·have e':(cat h (w - 1000).toNat).count - 1=0:=e
  rw[if_pos (by simpa using e'),ES _ _ 8 (by simp;omega) (by simp;omega),if_pos e];rfl
 ·have e':¬ (cat h (w - 1000).toNat).count - 1=0:=e
  rw[if_neg (by simpa using e'),if_neg e];rfl
theorem Kc (c:Cell) (hc:c.fields.length≤3) :∀(K N k:Nat) (h:List Cell) (P:List Int),c.fields.length - k≤K→K < N→k≤c.fields.length→Sm 18 1000 h→WZ h P (c.fields.drop k)→P.length+K≤1000→
  As (CP c N (k:Int) h P) fun q=>Sm 18 1000 q.1∧WZ q.1 q.2 []∧q.2.length≤P.length+K:=by
 intro K
 induction K with
 | zero=>
  intro N k h P hk hN hk2 S W hP
  obtain⟨N',rfl⟩ :∃N',N=N' + 1:=⟨N - 1,by omega⟩
  rw[CP,if_neg (by simp[Ae];omega)]
  rw[List.drop_eq_nil_of_le (by omega)] at W
  exact As.some ⟨S,W,by show P.length≤_;omega⟩
 | succ K ih=>
  intro N k h P hk hN hk2 S W hP
  obtain⟨N',rfl⟩ :∃N',N=N' + 1:=⟨N - 1,by omega⟩
  by_cases hlt:k < c.fields.length
  ·obtain⟨x,hx,_⟩:=B6 hlt
   rw[drop_cons hx] at W
   rw[CP,if_pos (by simp[Ae];omega),BB hx]
   simp only[Option.bind_some,BI]
   rw[A4 (by omega) (by omega),show ((k:Int) + 1)=((k+1:Nat):Int) by omega]
   by_cases hp:1000≤x
   ·rw[if_pos (by simpa using hp),MZ S W hp (by omega)]
    simp only[Option.bind_some]
    refine (ih N' (k+1) (MF h x) (L3 h P x) (by omega) (by omega) (by omega) (Na S W hp) (W.lower hp) (by have:=JT h P x;omega)).mono fun q ⟨a,b,d⟩=>⟨a,b,by have:=JT h P x;omega⟩
   ·rw[if_neg (by simpa using hp)]
    simp only[Option.bind_some]
    exact (ih N' (k+1) h P (by omega) (by omega) (by omega) S W.skip (by omega)).mono fun q ⟨a,b,d⟩=>⟨a,b,by omega⟩
  ·rw[CP,if_neg (by simp[Ae];omega)]
   rw[List.drop_eq_nil_of_le (by omega)] at W
   exact As.some ⟨S,W,by show P.length≤_;omega⟩
theorem ND {h:List Cell} {P:List Int} (hl:h.length≤1000) (hP:P.length≤1048576) {M:Nat} (hM:2000000≤M) :∀(n N:Nat),n < N→n≤h.length→(∀k,n≤k→ct h k=0∧(k < h.length→¬ (k:Int)∈P))→
  As (CG M h P N (n:Int)) fun v=>∃m:Nat,v=(m:Int)∧m≤h.length∧∀k,m≤k→ct h k=0∧(k < h.length→¬ (k:Int)∈P):=by
 intro n
 induction n with
 | zero=>
  intro N hN hn hk
  obtain⟨N',rfl⟩ :∃N',N=N' + 1:=⟨N - 1,by omega⟩
  rw[CG]
  exact As.some ⟨0,rfl,by omega,hk⟩
 | succ n ih=>
  intro N hN hn hk
  obtain⟨N',rfl⟩ :∃N',N=N' + 1:=⟨N - 1,by omega⟩
  rw[CG,if_pos (by simp),A4 (by omega) (by omega),show (((n+1:Nat):Int) - 1)=(n:Int) by omega,BB (DB (by omega:n < h.length)),Ly hP hM]
  simp only[Option.bind_some]
  by_cases h1:(cat h n).count=0
  ·rw[if_pos (by simpa using h1)]
   by_cases h2:(n:Int)∈P
   ·simp only[h2,decide_true,Bool.not_true,Option.bind_some,Bool.false_eq_true,if_false]
    exact As.some ⟨n+1,rfl,hn,hk⟩
   ·simp only[h2,decide_false,Bool.not_false,Option.bind_some,if_true]
    refine ih N' (by omega) (by omega) fun k hk2=>?_
    by_cases e:k=n
    ·subst e;exact⟨h1,fun _=>h2⟩
    ·exact hk k (by omega)
  ·rw[if_neg (by simpa using h1)]
   simp only[Option.bind_some,Bool.false_eq_true,if_false]
   exact As.some ⟨n+1,rfl,hn,hk⟩
theorem LY {h:List Cell} {P:List Int} {n:Nat} (G:GZ n h P) (hn:n≤1000) {M:Nat} (hM:2000000≤M):As (EI M h P) fun g=>GZ n g P:=by
 have hl:=G.sm.len
 have hpl:=G.pl
 unfold EI
 rw[Ae]
 refine As.bind (ND (h:=h) (P:=P) (by omega) (by omega) hM h.length M (by omega) (Nat.le_refl _) fun k hk=>⟨by unfold ct;rw[Cm hk],fun h=>by omega⟩) ?_
 rintro v ⟨m,rfl,hm,hz⟩
 refine B2 (Kf hm) (As.some ⟨⟨by rw[List.length_take];omega,fun c hc=>G.sm.cells c (List.mem_of_mem_take hc)⟩,hpl,?_⟩)
 rcases G.ok with h1 | W
 ·exact .inl h1
 ·refine .inr (W.cut hm (fun k hk=>(hz k hk).1) fun x hx=>?_)
  obtain⟨a,b,_⟩:=W.HD x hx
  by_cases e:x < m
  ·exact e
  ·have:=(hz x.toNat (by omega)).2 (by omega)
   rw[show ((x.toNat:Nat):Int)=x by omega] at this
   exact absurd hx this
theorem N3 {h:List Cell} {P:List Int} {n:Nat} (G:GZ n h P) (hn:n≤500) {M:Nat} (hM:2000000≤M):As (Ex M h P 1) fun q=>GZ (n+3) q.cells q.pending:=by
 unfold Ex
 obtain⟨M',rfl⟩ :∃M',M=M' + 2:=⟨M - 2,by omega⟩
 have hpl:=G.pl
 have hl:=G.sm.len
 refine As.bind (R:=fun q=>GZ (n+3) q.1 q.2) ?_ fun q G2=>?_
 ·rw[Cv,if_pos (by decide),Ae]
  simp only[Option.bind_some]
  cases P with
  | nil=>
   rw[if_neg (by simp)]
   exact As.some (G.up (by omega))
  | cons x P=>
   have W:WZ h (x :: P) []:=by
    rcases G.ok with h1 | W
    ·cases h1
    ·exact W
   obtain⟨x0,x1,x2⟩:=W.HD x (List.mem_cons_self ..)
   have hx:x.toNat < h.length:=by omega
   simp only[List.length_cons] at hpl
   rw[if_pos (by simp),show Sh.get (x :: P) 0=some x from rfl]
   simp only[Option.bind_some]
   rw[DJ x0,DB hx]
   simp only[Option.bind_some]
   have hsl:Sh.sl (x :: P) 1 (((x :: P).length:Nat):Int)=some P:=by
    unfold Sh.sl
    rw[if_pos ⟨by omega,by simp;omega,by simp⟩];simp
   rw[hsl]
   simp only[Option.bind_some]
   rw[E2 (by omega)]
   simp only[Option.bind_some]
   have hput:Sh.put h x ⟨0,0,[]⟩=h.set x.toNat ⟨0,0,[]⟩:=rfl
   have hfl:=(G.sm.cells _ (Di hx)).fl
   have W2:=W.free
   rw[B1] at W2
   have t:=Kc (cat h x.toNat) hfl 3 (M' + 2) 0 (h.set x.toNat ⟨0,0,[]⟩) P (by omega) (by omega) (by omega) (G.sm.set ⟨by simp,fun x hx=>(by cases hx),by show (_:Int)≤0;decide,by show (0:Int)≤_;decide,⟨by show (_:Int)≤0;decide,by show (0:Int)≤_;decide⟩⟩) (by rw[List.drop_zero];exact W2) (by omega)
   rw[hput]
   refine As.bind t ?_
   rintro⟨g,Q⟩ ⟨a,b,d⟩
   dsimp only at a b d ⊢
   rw[Cv,if_neg (by decide)]
   simp only[Option.bind_some,Bool.false_eq_true,if_false]
   exact As.some ⟨a,by show Q.length≤_;omega,.inr b⟩
 ·obtain⟨g,Q⟩:=q
  dsimp only at G2 ⊢
  exact As.bind (LY G2 (by omega) (by omega)) fun q11 G3=>As.some G3
end RC



namespace RC
open Go
abbrev Q5:List Int→Prop:=Hw U8
theorem As.true {x:Option Bool} (h:As x (·=Bool.true)):x=Option.some Bool.true:=by obtain⟨v,e,rfl⟩:=h;exact e
def sm (f:Nat→Nat):Nat→Nat
 | 0=>0
 | n+1=>sm f n+f n
end RC


namespace RC
end RC



namespace RC
open Go
theorem LS {h:List Cell} {P:List Int} {n:Nat} {w:Int} (G:GZ n h P) (hn:n≤500) (hw:Dz w) {M:Nat} (hM:2000000≤M):As (D3 M h P w) fun q=>q.2=true→GZ (n+1) q.1.cells q.1.pending:=by
 have L:=G.lz (by omega)
 have hpl:=G.pl
 have hl:=G.sm.len
 have H:=L.hp
 obtain⟨b,e1,_,e3⟩:=FX L hM
 have e2:Cu M ⟨h,P⟩=some b:=by
  unfold Cw at e1
  cases hq:Cu M ⟨h,P⟩ with
  | none=>rw[hq] at e1;cases e1
  | some v=>rw[hq] at e1;exact e1
 unfold D3
 rw[e2]
 simp only[Option.bind_some]
 cases b with
 | false=>
  simp only[Bool.not_false,if_true,Option.bind_some]
  exact As.some fun h=>by cases h
 | true=>
  have V:=e3.1 rfl
  have W:WZ h P []:=V.wz
  simp only[Bool.not_true,Bool.false_eq_true,if_false]
  rw[G1 H.len hw]
  simp only[Option.bind_some]
  cases hword:B9 h w with
  | false=>
   simp only[Bool.not_false,if_true]
   exact As.some fun h=>by cases h
  | true=>
   simp only[Bool.not_true,Bool.false_eq_true,if_false]
   rw[Mq H (by omega) hM]
   simp only[Option.bind_some,BI]
   by_cases hp:1000≤w
   ·have hlv:0 < ct h (w - 1000).toNat:=by have:=hword;rw[D8 hp] at this;simpa using this
    have hj:(w - 1000).toNat < h.length:=G9 (by omega)
    rw[if_pos (by simpa using hp),NT hp hw hj]
    have hr:C6 M h P=some (rs h P):=by
     have:=Ny ⟨h,P⟩ M
     rw[show C6 M h P=C0 M ⟨h,P⟩ from this]
     exact KN L V.1 hM
    simp only[Option.bind_some]
    rw[hr]
    simp only[Option.bind_some]
    rw[Fy (P9 H P) hM]
    simp only[Option.bind_some]
    have hwb:=hw
    rw[A4 (by omega) (by omega),LJ (by omega) (by rw[GG];omega)]
    simp only[Option.bind_some]
    rw[show Cf (rs h P) (rs h P) (w - 1000).toNat=Es h (w - 1000).toNat from V.Cf hlv]
    by_cases he:(cat h (w - 1000).toNat).count=(Es h (w - 1000).toNat:Int)
    ·rw[if_pos (by simpa using he)]
     exact As.some fun h=>by cases h
    ·rw[if_neg (by simpa using he)]
     have W1:WZ h P [w]:=⟨W.HD,fun j=>by
      have h1:=W.CD j
      rw[Et] at h1
      rw[G6]
      split
      ·rename_i e
       have ej:j=(w - 1000).toNat:=by omega
       subst ej
       have:ct h (w - 1000).toNat≠(Es h (w - 1000).toNat:Int):=he
       omega
      ·omega⟩
     rw[MZ G.sm W1 hp (by omega)]
     simp only[Option.bind_some]
     exact As.some fun _=>⟨Na G.sm W1 hp,by have:=JT h P w;show (L3 h P w).length≤_;omega,.inr (W1.lower hp)⟩
   ·rw[if_neg (by simpa using hp)]
    exact As.some fun _=>⟨G.sm,by show P.length≤_;omega,.inr W⟩
theorem JO {b:List Int} (Bb:Bk b) {M:Nat} (hM:2000000≤M) :∀(K N:Nat) (f F:Int) (n:Nat) (h:List Cell) (P:List Int),K < N→At f F→F+5 * K≤900000→n+10 * K≤200→GZ n h P→
  As (CI M b N (K:Int) f h P) fun q=>At q.1 (F+5 * K)∧GZ (n+10 * K) q.2.1 q.2.2:=by
 intro K
 induction K with
 | zero=>
  intro N f F n h P hN hf hF hn G
  obtain⟨N',rfl⟩ :∃N',N=N' + 1:=⟨N - 1,by omega⟩
  rw[CI,if_neg (by simp)]
  exact As.some ⟨⟨hf.1,by have:=hf.2;show f≤_;omega⟩,G⟩
 | succ K ih=>
  intro N f F n h P hN hf hF hn G
  obtain⟨N',rfl⟩ :∃N',N=N' + 1:=⟨N - 1,by omega⟩
  obtain⟨f0,f1⟩:=hf
  have hl:=G.sm.len
  rw[CI,if_pos (by simp),Ae]
  simp only[Option.bind_some]
  refine Be (fun h0=>?_) fun _=>As.some ⟨⟨f0,by show f≤_;omega⟩,G.up (by omega)⟩
  refine As.bind (R:=fun q=>At q.1 (F+5)∧GZ (n+10) q.2.1 q.2.2) ?_ ?_
  ·refine As.bind (CC Bb ⟨f0,by omega⟩) fun q27 ⟨a1,a2,a3,_⟩=>?_
   have a4:=a3 (by omega)
   rw[A4 (by omega) (by omega)]
   refine As.bind (LS (w:=1000+q27.1) G (by omega) ⟨by omega,by omega⟩ hM) fun q28 hq28=>?_
   refine As.bind (R:=fun q=>GZ (n+1) q.1 q.2) (EH (fun e=>As.some (hq28 e)) fun _=>As.some (G.up (by omega))) ?_
   rintro⟨l31,l32⟩ G2
   dsimp only at G2 ⊢
   refine As.bind (CC Bb ⟨by omega,by omega⟩) fun q35 ⟨b1,b2,b3,_⟩=>?_
   refine Be (fun _=>?_) fun _=>As.some ⟨⟨by show 0≤q35.2;omega,by show q35.2≤_;omega⟩,G2.up (by omega)⟩
   exact As.bind (N3 G2 (by omega) hM) fun q37 G3=>As.some ⟨⟨by show 0≤q35.2;omega,by show q35.2≤_;omega⟩,G3.up (by omega)⟩
  ·rintro⟨f22,l23,l24⟩ ⟨⟨c1,c2⟩,c3⟩
   dsimp only at c1 c2 c3 ⊢
   rw[A4 (by omega) (by omega),show (((K+1:Nat):Int) - 1)=(K:Int) by omega]
   exact (ih N' f22 (F+5) (n+10) l23 l24 (by omega) ⟨c1,c2⟩ (by omega) (by omega) c3).mono fun q ⟨r1,r2⟩=>⟨⟨r1.1,by have:=r1.2;omega⟩,r2.up (by omega)⟩
theorem Li {b:List Int} (Bb:Bk b) {M:Nat} (hM:2000000≤M) {p:Int} (hp:At p 1000):As (EE M b p) fun q=>GZ 60 q.1.cells q.1.pending∧At q.2 4000:=by
 unfold EE
 refine As.bind (Lo Bb hM hp false) ?_
 rintro q3 ⟨S,g0,g1⟩
 refine As.bind (CC Bb ⟨g0,by omega⟩) fun q6 ⟨a1,a2,a3,_⟩=>?_
 have a4:=a3 (by decide)
 obtain⟨k,hk⟩:=Int.eq_ofNat_of_zero_le a2
 rw[hk]
 refine As.bind (JO Bb hM k M q6.2 3001 0 q3.1 [] (by omega) ⟨by omega,by omega⟩ (by omega) (by omega) ⟨S,by simp,.inl rfl⟩) ?_
 rintro⟨f11,l12,l13⟩ ⟨⟨c1,c2⟩,c3⟩
 dsimp only at c1 c2 c3 ⊢
 exact As.some ⟨c3.up (by omega),c1,by show f11≤_;omega⟩
structure LD (z:BJ):Prop where
 sm:Sm 18 1001 z.cells
 pl:z.pending.length≤100
 pi :∀x∈z.pending,Dz x
theorem LD.lz {z:BJ} (D:LD z):Lz z:=by
 have H:=D.sm.hp (by omega) (by omega)
 exact⟨by have:=D.sm.size;have:=D.pl;omega,H.cells,D.pi⟩
theorem Me {b:List Int} (Bb:Bk b) {M:Nat} (hM:2000000≤M) {p:Int} (hp:At p 1000):As (Ea M b p) fun q=>LD q.1:=by
 unfold Ea
 refine As.bind (Li Bb hM hp) ?_
 rintro q3 ⟨G,g0,g1⟩
 have hl:=G.sm.len
 have hpl:=G.pl
 have S:=G.sm.up (Nat.le_refl _) (show (1000:Int)≤1001 by omega)
 refine As.bind (R:=fun q=>LD ⟨q.2.2,q.2.1⟩) ?_ ?_
 ·refine As.bind (CC Bb ⟨g0,by omega⟩) fun q12 ⟨a1,a2,a3,_⟩=>?_
  rw[Ae,Sc]
  refine Be (fun _=>?_) fun _=>Be (fun _=>?_) fun _=>Be (fun _=>?_) fun _=>As.some ⟨S,by show q3.1.pending.length≤100;omega,G.pi⟩
  ·refine As.bind (CC Bb ⟨by omega,by omega⟩) fun q15 ⟨b1,b2,b3,_⟩=>?_
   have b4:=b3 (by omega)
   refine As.bind (Km Bb ⟨by omega,by omega⟩ (by simp) (by simp)) fun q16 O=>?_
   have g2:=Nt O (l:=-1) (u:=100) ⟨by omega,by omega⟩ ⟨by omega,by omega⟩ ⟨by omega,by omega⟩ ⟨by omega,by omega⟩
   refine As.app (by simp;omega) (by simp;omega) (As.some ⟨S,by simp;omega,fun x hx=>?_⟩)
   rcases List.mem_append.1 hx with h1 | h1
   ·exact G.pi x h1
   ·rw[List.mem_singleton] at h1;rw[h1];exact⟨by omega,by omega⟩
  ·rw[Ae]
   refine Be (fun h0=>?_) fun _=>As.some ⟨S,by show q3.1.pending.length≤100;omega,G.pi⟩
   have hsl:Sh.sl q3.1.pending 1 (q3.1.pending.length:Int)=some (q3.1.pending.drop 1):=by
    unfold Sh.sl
    rw[if_pos ⟨by omega,by omega,by omega⟩];simp
   exact B2 hsl (As.some ⟨S,by simp;omega,fun x hx=>G.pi x (List.mem_of_mem_drop hx)⟩)
  ·refine Be (fun h0=>?_) fun _=>As.some ⟨S,by show q3.1.pending.length≤100;omega,G.pi⟩
   refine As.bind (CC Bb ⟨by omega,by omega⟩) fun q29 ⟨b1,b2,b3,_⟩=>?_
   have b4:=b3 (by omega)
   refine As.get b2 (by omega) fun c30 _ hc=>?_
   obtain⟨d1,d2,d3,d4,d5⟩:=G.sm.cells c30 hc
   refine As.bind (Km Bb ⟨by omega,by omega⟩ (by simp) (by simp)) fun q31 O=>?_
   have hm:=O.mem
   simp only[List.mem_cons,List.not_mem_nil,or_false] at hm
   refine As.some ⟨S.set ⟨d1,d2,?_,?_,d5⟩,by show q3.1.pending.length≤100;omega,G.pi⟩
   ·show _≤Sh.w (c30.count+q31.1);rw[A4 (by omega) (by omega)];omega
   ·show Sh.w (c30.count+q31.1)≤_;rw[A4 (by omega) (by omega)];omega
 ·rintro⟨f6,f7,l8⟩ D
  exact As.some D
theorem IX {code:List Int} (h8 :∀x∈code,U8 x) (hl:code.length≤1048576) {M:Nat} (hM:2000000≤M):As (Cz M code) LD:=by
 unfold Cz
 refine As.bind (LF h8 hl) fun q3 ⟨B,h0⟩=>?_
 rw[h0]
 exact As.bind (Me B hM ⟨by omega,by omega⟩) fun q4 D=>As.some D
end RC

