import Derived.Test.YthapbpfhdnmboaaGEncToEncB
import Derived.Test.YthapbpfhdnmboaaGHADefsToLPDefs

namespace RC
open Go
theorem A0 {n:Int} (h1:-9223372036854775808≤n) (h2:n≤9223372036854775807):Sh.w n=n:=Abs.wrap_i64 h1 h2
theorem Ac {α:Type} (l:List α):Sh.len l=(l.length:Int):=rfl
theorem Kk {α:Type} (l:List α) (i:Nat):Sh.get l (i:Int)=l[i]?:=by
 unfold Sh.get;rw[if_pos (Int.natCast_nonneg i)];simp
theorem BE {α:Type} {l:List α} {i:Nat} {x:α} (h:l[i]?=some x):Sh.get l (i:Int)=some x:=by rw[Kk,h]
theorem Ka {α:Type} {l:List α} {j:Int} (h0:0≤j) (h1:j < l.length) :∃x,Sh.get l j=some x∧l[j.toNat]?=some x:=by
 have h:l[j.toNat]?=some (l[j.toNat]'(by omega)):=List.getElem?_eq_getElem (by omega)
 exact⟨_,by unfold Sh.get;rw[if_pos h0,h],h⟩
theorem C7 {α:Type} {l:List α} {j:Int} (h0:0≤j):Sh.get l j=l[j.toNat]?:=by unfold Sh.get;rw[if_pos h0]
theorem F5 {α:Type} (l:List α) (i:Nat) (x:α):Sh.put l (i:Int) x=l.set i x:=by simp[Sh.put]
theorem My {α:Type} (x:α) (n b:Nat) (h:n * b≤281474976710656) (h2:n≤9223372036854775807):Sh.mk x (n:Int) b=some (List.replicate n x):=by
 unfold Sh.mk
 rw[if_pos ⟨by omega,by rw[← Int.natCast_mul];omega,by omega⟩];simp
theorem EO {α:Type} (l m:List α) (b:Nat) (h:(l.length+m.length) * b≤140737488355328) (h2:l.length+m.length≤9223372036854775807):Sh.app l m b=some (l ++ m):=by
 unfold Sh.app;rw[if_pos ⟨h,h2⟩]
theorem KK {α:Type} {l:List α} {j:Nat} (h:j≤l.length):Sh.hi l (j:Int)=some (l.take j):=by
 unfold Sh.hi;rw[if_pos ⟨by omega,by omega⟩];simp
theorem BH (len:Nat) (P:Nat→Nat→Prop) (h0 :∀n,P (n+1) len) (hs :∀n i,i < len→P n (i+1)→P (n+1) i) :∀{N i:Nat},i≤len→len - i < N→P N i:=by
 intro N i hi hN
 obtain⟨k,hk⟩ :∃k,len - i=k:=⟨_,rfl⟩
 induction k generalizing N i with
 | zero=>
  obtain⟨n,rfl⟩ :∃n,N=n+1:=⟨N - 1,by omega⟩
  have:i=len:=by omega
  subst this;exact h0 n
 | succ k ih=>
  obtain⟨n,rfl⟩ :∃n,N=n+1:=⟨N - 1,by omega⟩
  exact hs n i (by omega) (ih (by omega) (by omega) (by omega))
theorem B3 {α:Type} {l:List α} {i:Nat} (h:i < l.length) :∃x,l[i]?=some x∧x∈l:=⟨l[i],List.getElem?_eq_getElem h,List.getElem_mem h⟩
theorem Fq {α:Type} {l:List α} {j:Nat} {x:α} (h:l[j]?=some x):l.take (j+1)=l.take j ++ [x]:=by rw[List.take_add_one,h];rfl
theorem drop_cons {α:Type} {l:List α} {j:Nat} {x:α} (h:l[j]?=some x):l.drop j=x :: l.drop (j+1):=by
 obtain⟨hj,rfl⟩:=List.getElem?_eq_some_iff.1 h
 exact List.drop_eq_getElem_cons hj
def CU (h:List Cell):Nat:=(h.map fun c=>c.fields.length).sum
def Bs (h:List Cell):Nat:=h.length+CU h
structure Hp (h:List Cell):Prop where
 size:Bs h≤1048576
 cells :∀c∈h,JD c
theorem P8 {h:List Cell} {c:Cell} (hc:c∈h):c.fields.length≤CU h:=by
 induction h with
 | nil=>cases hc
 | cons d h ih=>
  simp only[CU,List.map_cons,List.sum_cons] at ih ⊢
  rcases List.mem_cons.1 hc with rfl | hc
  ·omega
  ·have:=ih hc;omega
theorem Hp.len {h:List Cell} (H:Hp h):h.length≤1048576:=by have:=H.size;unfold Bs at this;omega
theorem Hp.HM {h:List Cell} (H:Hp h) {c:Cell} (hc:c∈h):c.fields.length≤1048576:=by have:=H.size;have:=P8 hc;unfold Bs at *;omega
theorem EM (a b:List Cell):CU (a ++ b)=CU a+CU b:=by simp[CU]
theorem ID (h:List Cell) (i:Nat):CU (h.drop i)≤CU h:=by
 have:=EM (h.take i) (h.drop i)
 rw[List.take_append_drop] at this;omega
end RC


namespace RC
open Go
end RC


namespace RC
open Go
def Cs (h:List Cell) (w:Int):Bool:=decide (1000≤w) && (match h[(w - 1000).toNat]? with | some c=>decide (0 < c.count) | none=>false)
def Hm (w:Int):Bool:=decide (-999≤w) && decide (w≤999)
def CE (h:List Cell) (w:Int):Bool:=Cs h w || Hm w
theorem LS {h:List Cell} {w:Int} {c:Cell} (h1:1000≤w) (hc:h[(w - 1000).toNat]?=some c):Cs h w=decide (0 < c.count):=by simp[Cs,h1,hc]
theorem LG {h:List Cell} {w:Int} (h2:¬ w - 1000 < h.length):Cs h w=false:=by
 unfold Cs
 rw[List.getElem?_eq_none (by omega)];simp
theorem En {h:List Cell} {w:Int} (h1:¬ 1000≤w):Cs h w=false:=by simp[Cs,h1]
theorem EC {h:List Cell} {w:Int} (hl:Cs h w=true) :∃(i:Nat) (c:Cell),w=1000+(i:Int)∧(w - 1000).toNat=i∧i < h.length∧h[i]?=some c∧0 < c.count:=by
 unfold Cs at hl
 simp only[Bool.and_eq_true,decide_eq_true_eq] at hl
 obtain⟨h1,h2⟩:=hl
 split at h2
 ·rename_i c hc
  exact⟨(w - 1000).toNat,c,by omega,rfl,(List.getElem?_eq_some_iff.1 hc).1,hc,by simpa using h2⟩
 ·cases h2
theorem GP (a b c:Int):Cn a b c=some (decide (b≤a) && decide (a≤c)):=by
 unfold Cn
 by_cases h:b≤a <;> simp[h]
theorem Kw {h:List Cell} {w:Int} (hl:h.length≤1048576) (hw:Dz w):EJ h w=some (Cs h w):=by
 obtain⟨w1,w2⟩:=hw
 unfold EJ BL
 rw[GP,Ac,A0 (n:=(h.length:Int) - 1) (by omega) (by omega)]
 by_cases h1:-9223372036854775808≤w - 1000
 ·rw[A0 h1 (by omega)]
  by_cases h2:1000≤w
  ·by_cases h3:w - 1000 < h.length
   ·obtain⟨c,hc,hc2⟩:=Ka (l:=h) (j:=w - 1000) (by omega) h3
    have e:(decide (0≤w - 1000) && decide (w - 1000≤(h.length:Int) - 1))=true:=by
     simp;omega
    simp only[Option.bind_some,e,h2,hc,decide_true,if_true,LS h2 hc2]
   ·have e:(decide (0≤w - 1000) && decide (w - 1000≤(h.length:Int) - 1))=false:=by
     simp;omega
    simp only[Option.bind_some,e,LG h3];simp
  ·have e:(decide (0≤w - 1000) && decide (w - 1000≤(h.length:Int) - 1))=false:=by
    simp;omega
   simp only[Option.bind_some,e,En h2];simp
 ·have e0:Sh.w (w - 1000)=w - 1000+18446744073709551616:=Abs.Pn (by omega) (by omega)
  have e:(decide (0≤Sh.w (w - 1000)) && decide (Sh.w (w - 1000)≤(h.length:Int) - 1))=false:=by
   rw[e0];simp;omega
  simp only[Option.bind_some,e,En (h:=h) (w:=w) (by omega)];simp
theorem G9 {h:List Cell} {w:Int} (hl:h.length≤1048576) (hw:Dz w):DQ h w=some (CE h w):=by
 unfold DQ
 rw[GP,Kw hl hw]
 unfold CE Hm
 by_cases h1:-999≤w <;> by_cases h2:w≤999 <;> simp[h1,h2]
theorem Fk {h:List Cell} {w:Int} (hl:h.length≤1048576) (hw:Dz w):C4 h w=some (Sh.w (w - 1000),Cs h w):=by
 obtain⟨w1,w2⟩:=hw
 unfold C4
 by_cases h2:1000≤w
 ·rw[A0 (n:=w - 1000) (by omega) (by omega),Ac]
  by_cases h3:w - 1000 < h.length
  ·obtain⟨c,hc,hc2⟩:=Ka (l:=h) (j:=w - 1000) (by omega) h3
   simp[h2,h3,hc,LS h2 hc2]
  ·simp[h2,h3,LG h3]
 ·simp[h2,En h2]
theorem Ps (w:Int):FL w=some (Hm w):=by
 unfold FL Hm
 by_cases h:-999≤w <;> simp[h]
theorem IH {h:List Cell} {w:Int} (hl:h.length≤1048576) (hw:Dz w):DK h w=some (CE h w):=by
 unfold DK CE
 rw[Fk hl hw,Ps]
 cases h1:Cs h w <;> simp[h1]
def Fz (l:List Int):Bool:=l.all fun w=>decide (w=0)
def F4 (h:List Cell) (c:Cell):Bool:=
 !(decide (c.count < -1) || decide (c.tag < 0) || decide (99 < c.tag) || decide (3 < (c.fields.length:Int))) &&
 !((decide (c.count < 1) && !decide (c.tag=0)) || (decide (c.count=0) && decide (0 < (c.fields.length:Int)))) &&
 c.fields.all fun w=>CE h w && !(decide (c.count < 0) && !decide (w=0))
def E1 (h:List Cell) (c:Cell):Bool:=
 !(decide (3 < (c.fields.length:Int)) || !(decide (-1≤c.count) && decide (c.count≤999999))) &&
 if c.count < 1 then decide (c.tag=0) && Fz c.fields && (decide (c.count < 0) || decide ((c.fields.length:Int)=0)) else (c.fields.all fun w=>CE h w) && (decide (0≤c.tag) && decide (c.tag≤99))
theorem ER {α:Type} {p:α→Bool} {l:List α} {i:Nat} {x:α} (h:l[i]?=some x):(l.drop i).all p=(p x && (l.drop (i+1)).all p):=by rw[drop_cons h];rfl
theorem KZ {l:List Int} (hl:l.length≤1048576) {N i:Nat} (hi:i≤l.length) (hN:l.length - i < N):CD l N i=some (if Fz (l.drop i) then Sum.inr () else Sum.inl false):=by
 refine BH l.length (fun N i=>CD l N i=some (if Fz (l.drop i) then Sum.inr () else Sum.inl false)) ?_ ?_ hi hN
 ·intro n
  rw[CD,if_neg (by simp[Ac])];simp[Fz]
 ·intro n i hi ih
  obtain⟨x,hx,_⟩:=B3 hi
  rw[CD,if_pos (by simp[Ac];omega),BE hx]
  simp only[Option.bind_some]
  rw[A0 (by omega) (by omega),show ((i:Int) + 1)=((i+1:Nat):Int) from rfl,ih]
  unfold Fz
  rw[ER hx]
  by_cases h:x=0 <;> simp[h]
theorem N9 {l:List Int} (hl:l.length≤1048576) {N:Nat} (hN:2000000≤N):Eb N l=some (Fz l):=by
 unfold Eb
 have:=KZ hl (Nat.zero_le _) (by omega:l.length - 0 < N)
 rw[show ((0:Nat):Int)=0 from rfl,List.drop_zero] at this
 rw[this]
 cases Fz l <;> simp
theorem JL {h:List Cell} {c:Cell} (hl:h.length≤1048576) (hf:c.fields.length≤1048576) (hF :∀x∈c.fields,Dz x) {N i:Nat} (hi:i≤c.fields.length) (hN:c.fields.length - i < N) :
  Bm h c N i=some (if (c.fields.drop i).all (fun w=>CE h w) then Sum.inr () else Sum.inl false):=by
 refine BH c.fields.length (fun N i=>Bm h c N i=some (if (c.fields.drop i).all (fun w=>CE h w) then Sum.inr () else Sum.inl false)) ?_ ?_ hi hN
 ·intro n
  rw[Bm,if_neg (by simp[Ac])];simp
 ·intro n i hi ih
  obtain⟨x,hx,hxm⟩:=B3 hi
  rw[Bm,if_pos (by simp[Ac];omega),BE hx]
  simp only[Option.bind_some]
  rw[G9 hl (hF x hxm)]
  simp only[Option.bind_some]
  rw[A0 (by omega) (by omega),show ((i:Int) + 1)=((i+1:Nat):Int) from rfl,ih,ER hx]
  cases CE h x <;> simp
theorem Ls {h:List Cell} {c:Cell} (hl:h.length≤1048576) (hf:c.fields.length≤1048576) (hF :∀x∈c.fields,Dz x) {N:Nat} (hN:2000000≤N):Dn N h c=some (E1 h c):=by
 unfold Dn E1
 simp only[GP,Ac,N9 hf hN]
 by_cases h1:3 < (c.fields.length:Int)
 ·simp[h1]
 ·by_cases h2:-1≤c.count
  ·by_cases h3:c.count≤999999
   ·by_cases h4:c.count < 1
    ·by_cases h5:c.tag=0
     ·cases h6:Fz c.fields
      ·simp[h1,h2,h3,h4,h5]
      ·by_cases h7:c.count < 0 <;> simp[h1,h2,h3,h4,h5,h7]
     ·simp[h1,h2,h3,h4,h5]
    ·have:=JL hl hf hF (Nat.zero_le _) (by omega:c.fields.length - 0 < N)
     rw[show ((0:Nat):Int)=0 from rfl,List.drop_zero] at this
     simp only[h1,h2,h3,h4,this]
     cases c.fields.all (fun w=>CE h w) <;> simp
   ·simp[h1,h2,h3]
  ·simp[h1,h2]
def Mg (h:List Cell) (c:Cell) (w:Int):Bool:=CE h w && !(decide (c.count < 0) && !decide (w=0))
theorem JS {h:List Cell} {c:Cell} (hl:h.length≤1048576) (hf:c.fields.length≤1048576) (hF :∀x∈c.fields,Dz x) {N i:Nat} (hi:i≤c.fields.length) (hN:c.fields.length - i < N) :
  Bq h c N i=some (if (c.fields.drop i).all (Mg h c) then Sum.inr () else Sum.inl false):=by
 refine BH c.fields.length (fun N i=>Bq h c N i=some (if (c.fields.drop i).all (Mg h c) then Sum.inr () else Sum.inl false)) ?_ ?_ hi hN
 ·intro n
  rw[Bq,if_neg (by simp[Ac])];simp
 ·intro n i hi ih
  obtain⟨x,hx,hxm⟩:=B3 hi
  rw[Bq,if_pos (by simp[Ac];omega),BE hx]
  simp only[Option.bind_some]
  rw[IH hl (hF x hxm)]
  simp only[Option.bind_some]
  rw[A0 (by omega) (by omega),show ((i:Int) + 1)=((i+1:Nat):Int) from rfl,ih,ER hx]
  unfold Mg
  cases CE h x
  ·simp
  ·by_cases h1:c.count < 0 <;> by_cases h2:x=0 <;> simp[h1,h2]
theorem Lf {h:List Cell} {c:Cell} (hl:h.length≤1048576) (hf:c.fields.length≤1048576) (hF :∀x∈c.fields,Dz x) {N:Nat} (hN:2000000≤N):Dm N h c=some (F4 h c):=by
 have hc:F4 h c=(!(decide (c.count < -1) || decide (c.tag < 0) || decide (99 < c.tag) || decide (3 < (c.fields.length:Int))) &&
   !((decide (c.count < 1) && !decide (c.tag=0)) || (decide (c.count=0) && decide (0 < (c.fields.length:Int)))) && c.fields.all (Mg h c)):=rfl
 rw[hc]
 unfold Dm
 have:=JS hl hf hF (Nat.zero_le _) (by omega:c.fields.length - 0 < N)
 rw[show ((0:Nat):Int)=0 from rfl,List.drop_zero] at this
 simp only[Ac,this]
 have key :∀b:Bool,Sh.cont (some (if b=true then (Sum.inr ():Bool ⊕ Unit) else Sum.inl false)) id (fun _=>some true)=some b:=fun b=>by cases b <;> rfl
 by_cases h1:c.count < -1
 ·simp[h1]
 ·by_cases h2:c.tag < 0
  ·simp[h1,h2]
  ·by_cases h3:99 < c.tag
   ·simp[h1,h2,h3]
   ·by_cases h4:3 < (c.fields.length:Int)
    ·simp[h1,h2,h3,h4]
    ·by_cases h5:c.count < 1
     ·by_cases h6:c.tag=0
      ·by_cases h7:c.count=0
       ·by_cases h8:0 < (c.fields.length:Int)
        ·have h8':0 < c.fields.length:=by omega
         simp[h2,h3,h4,h5,h6,h7,h8']
        ·simp only[h1,h2,h3,h4,h5,h6,h7,h8,key];simp
       ·simp only[h1,h2,h3,h4,h5,h6,h7,key];simp
      ·simp[h1,h2,h3,h4,h5,h6]
     ·have h7:¬ c.count=0:=by omega
      simp only[h1,h2,h3,h4,h5,h7,key];simp
theorem MZ (h:List Cell) (c:Cell):E1 h c=(F4 h c && decide (c.count≤999999)):=by
 unfold E1 F4
 by_cases h4:3 < (c.fields.length:Int)
 ·simp[h4]
 ·by_cases hm:c.count≤999999
  ·by_cases hlo:-1≤c.count
   ·have hlo':¬ c.count < -1:=by omega
    by_cases h5:c.count < 1
    ·by_cases h6:c.tag=0
     ·by_cases h7:c.count=0
      ·by_cases h8:0 < (c.fields.length:Int)
       ·have h9:¬ (c.fields.length:Int)=0:=by omega
        have h8':0 < c.fields.length:=by omega
        have h9':¬ c.fields=[]:=fun e=>by rw[e] at h8';simp at h8'
        simp[h4,h6,h7,h8',h9']
       ·have h9:c.fields=[]:=List.eq_nil_of_length_eq_zero (by omega)
        simp[hm,h7,h6,h9,Fz]
      ·have h8:c.count < 0:=by omega
       simp only[h4,hm,hlo,hlo',h5,h6,h7,h8,Fz]
       simp only[decide_true,decide_false,Bool.not_false,Bool.and_true,Bool.true_and,Bool.or_false,Bool.or_true,Bool.and_self,Bool.not_true,if_true,Bool.false_and,Bool.or_self,Bool.true_or]
       have e :∀l:List Int,(l.all fun w=>decide (w=0))=l.all fun w=>CE h w && !(!decide (w=0)):=fun l=>by
        congr 1
        funext w
        by_cases h0:w=0
        ·subst h0
         have:CE h 0=true:=by simp[CE,Hm]
         simp[this]
        ·simp[h0]
       rw[e]
       simp
     ·have h6':decide (c.tag=0)=false:=by simpa using h6
      simp[h4,hm,hlo,hlo',h5,h6']
    ·have h7:¬ c.count=0:=by omega
     have h8:¬ c.count < 0:=by omega
     by_cases h9:c.tag < 0
     ·have:¬ 0≤c.tag:=by omega
      simp[h4,hm,hlo,hlo',h5,h7,h8,h9,this]
     ·have h9':0≤c.tag:=by omega
      by_cases h10:99 < c.tag
      ·have:¬ c.tag≤99:=by omega
       simp[h4,hm,hlo,hlo',h5,h7,h8,h9,h10,this]
      ·have:c.tag≤99:=by omega
       simp[h4,hm,hlo,hlo',h5,h7,h8,h9,h9',h10,this]
   ·have:c.count < -1:=by omega
    simp[h4,hlo,this]
  ·simp[hm]
end RC


namespace RC
open Go
def rowOf {α:Type} (n:Nat) (f:Nat→α):List α:=(List.range n).map f
theorem CX {α:Type} {n:Nat} {f:Nat→α}:(rowOf n f).length=n:=by simp[rowOf]
theorem Bw {α:Type} {n:Nat} {f:Nat→α} {j:Nat} (h:j < n):(rowOf n f)[j]?=some (f j):=by simp[rowOf,h]
theorem Bd {α:Type} {n:Nat} {f g:Nat→α} (h :∀j,j < n→f j=g j):rowOf n f=rowOf n g:=List.map_congr_left fun j hj=>h j (List.mem_range.1 hj)
theorem FC {α:Type} {n:Nat} {f:Nat→α} {j:Nat} {v:α}:(rowOf n f).set j v=rowOf n (fun k=>if k=j then v else f k):=by
 apply List.ext_getElem?
 intro k
 rw[List.getElem?_set]
 by_cases hk:k < n
 ·rw[Bw hk,Bw hk,CX]
  by_cases e:j=k
  ·subst e;simp[hk]
  ·have e':¬ k=j:=fun h=>e h.symm
   simp[e,e']
 ·rw[List.getElem?_eq_none (by rw[CX];omega),List.getElem?_eq_none (by rw[CX];omega),CX]
  by_cases e:j=k
  ·subst e;simp[hk]
  ·simp[e]
theorem G0 {α:Type} (n:Nat) (x:α):List.replicate n x=rowOf n (fun _=>x):=by
 apply List.ext_getElem?
 intro k
 by_cases hk:k < n
 ·rw[Bw hk];simp[hk]
 ·rw[List.getElem?_eq_none (by simp;omega),List.getElem?_eq_none (by rw[CX];omega)]
def HF (h:List Cell) (j:Nat) (w:Int):Bool:=Cs h w && decide ((w - 1000).toNat=j)
def CF (h:List Cell) (ws:List Int) (j:Nat):Nat:=ws.countP (HF h j)
def Cj (h l:List Cell) (j:Nat):Nat:=(l.map fun c=>CF h c.fields j).sum
theorem I2 (h:List Cell) (j:Nat):CF h [] j=0:=rfl
theorem Pe (h:List Cell) (x:Int) (ws:List Int) (j:Nat):CF h (x :: ws) j=(if HF h j x then 1 else 0) + CF h ws j:=by
 unfold CF;rw[List.countP_cons];omega
theorem Eo {h:List Cell} {ws:List Int} {i:Nat} {x:Int} (hx:ws[i]?=some x) (j:Nat):CF h (ws.drop i) j=(if HF h j x then 1 else 0) + CF h (ws.drop (i+1)) j:=by rw[drop_cons hx,Pe]
theorem NM (h:List Cell) (ws:List Int) (j:Nat):CF h ws j≤ws.length:=List.countP_le_length
theorem Hz {h l:List Cell} {i:Nat} {c:Cell} (hc:l[i]?=some c) (j:Nat):Cj h (l.drop i) j=CF h c.fields j+Cj h (l.drop (i+1)) j:=by rw[drop_cons hc];simp[Cj]
theorem PA (h l:List Cell) (j:Nat):Cj h l j≤CU l:=by
 induction l with
 | nil=>simp[Cj]
 | cons c l ih=>
  have:=NM h c.fields j
  simp only[Cj,CU,List.map_cons,List.sum_cons] at ih ⊢
  omega
theorem Oy {h:List Cell} {j:Nat} {x:Int} (hh:HF h j x=true):Cs h x=true∧(x - 1000).toNat=j:=by
 unfold HF at hh;simpa using hh
theorem Hx {h:List Cell} {j:Nat} {x:Int} (hl:Cs h x=false):HF h j x=false:=by simp[HF,hl]
theorem JI {h:List Cell} {j:Nat} {x:Int} (hl:Cs h x=true):HF h j x=decide ((x - 1000).toNat=j):=by simp[HF,hl]
theorem Ns {h:List Cell} {c:Cell} {i:Nat} (hc:h[i]?=some c) (hl:h.length≤1048576) (hf:c.fields.length≤1048576) (hF :∀x∈c.fields,Dz x) {N k:Nat} (hk:k≤c.fields.length) (hN:c.fields.length - k < N) :
  ∀f:Nat→Int,(∀j,0≤f j∧f j≤1048576+k)→CT i h N k (rowOf h.length f)=some (rowOf h.length fun j=>f j+CF h (c.fields.drop k) j):=by
 refine BH c.fields.length (fun N k=>∀f:Nat→Int,(∀j,0≤f j∧f j≤1048576+k)→CT i h N k (rowOf h.length f)=some (rowOf h.length fun j=>f j+CF h (c.fields.drop k) j)) ?_ ?_ hk hN
 ·intro n f _
  rw[CT,BE hc]
  simp only[Option.bind_some]
  rw[if_neg (by simp[Ac])]
  simp[I2]
 ·intro n k hk ih f hb
  obtain⟨x,hx,hxm⟩:=B3 hk
  rw[CT,BE hc]
  simp only[Option.bind_some]
  rw[if_pos (by simp[Ac];omega),BE hx]
  simp only[Option.bind_some]
  rw[Kw hl (hF x hxm)]
  simp only[Option.bind_some]
  rw[A0 (n:=(k:Int) + 1) (by omega) (by omega),show ((k:Int) + 1)=((k+1:Nat):Int) from rfl]
  cases hlv:Cs h x
  ·simp only[Bool.false_eq_true,if_false,Option.bind_some]
   rw[ih f (fun j=>⟨(hb j).1,by have:=(hb j).2;omega⟩)]
   congr 1
   refine Bd fun j _=>?_
   rw[Eo hx,Hx hlv];simp
  ·obtain⟨q,c',h1,h2,h3,_⟩:=EC hlv
   have e1:x - 1000=(q:Int):=by omega
   simp only[if_true]
   rw[A0 (n:=x - 1000) (by omega) (by omega),e1,BE (Bw h3)]
   simp only[Option.bind_some]
   have hbq:=hb q
   rw[A0 (by omega) (by omega),F5,FC]
   rw[ih _ (fun j=>by
    by_cases e:j=q
    ·simp only[e,if_true];omega
    ·simp only[e,if_false];have:=hb j;omega)]
   congr 1
   refine Bd fun j _=>?_
   rw[Eo hx,JI hlv,h2]
   by_cases e:j=q
   ·subst e;simp;omega
   ·have e':¬ q=j:=fun h=>e h.symm
    simp[e,e']
theorem Nc {h:List Cell} (H:Hp h) {M:Nat} (hM:2000000≤M) {N i:Nat} (hi:i≤h.length) (hN:h.length - i < N) :
  ∀f:Nat→Int,(∀j,0≤f j∧f j+Cj h (h.drop i) j≤1048576)→CQ M h N i (rowOf h.length f)=some (rowOf h.length fun j=>f j+Cj h (h.drop i) j):=by
 have hl:=H.len
 refine BH h.length (fun N i=>∀f:Nat→Int,(∀j,0≤f j∧f j+Cj h (h.drop i) j≤1048576)→CQ M h N i (rowOf h.length f)=some (rowOf h.length fun j=>f j+Cj h (h.drop i) j)) ?_ ?_ hi hN
 ·intro n f _
  rw[CQ,if_neg (by simp[Ac])]
  simp[Cj]
 ·intro n i hi ih f hb
  obtain⟨c,hc,hcm⟩:=B3 hi
  have hfl:=H.HM hcm
  have:=Ns hc hl hfl (H.cells c hcm).fields (Nat.zero_le _) (by omega:c.fields.length - 0 < M) f (fun j=>⟨(hb j).1,by have:=(hb j).2;omega⟩)
  rw[show ((0:Nat):Int)=0 from rfl,List.drop_zero] at this
  rw[CQ,if_pos (by simp[Ac];omega),this]
  simp only[Option.bind_some]
  rw[A0 (by omega) (by omega),show ((i:Int) + 1)=((i+1:Nat):Int) from rfl,ih]
  ·congr 1
   refine Bd fun j _=>?_
   rw[Hz hc];omega
  ·intro j
   have:=hb j
   rw[Hz hc] at this
   omega
def refs (h:List Cell):List Int:=rowOf h.length fun j=>(Cj h h j:Int)
theorem Fs {h:List Cell} (H:Hp h) {N:Nat} (hN:2000000≤N):C3 N h=some (refs h):=by
 have hl:=H.len
 unfold C3
 rw[Ac,My _ h.length 8 (by omega) (by omega),G0]
 simp only[Option.bind_some]
 have:=Nc H hN (Nat.zero_le _) (by omega:h.length - 0 < N) (fun _=>0) (fun j=>⟨by omega,by
  have h1:=PA h (h.drop 0) j
  have h2:=ID h 0
  have h3:=H.size
  unfold Bs at h3;omega⟩)
 rw[show ((0:Nat):Int)=0 from rfl,List.drop_zero] at this
 rw[this]
 simp[refs]
theorem Ot {h:List Cell} {c:Cell} (hl:h.length≤1048576) (hf:c.fields.length≤1048576) (hF :∀x∈c.fields,Dz x) {N k:Nat} (hk:k≤c.fields.length) (hN:c.fields.length - k < N) :
  ∀f:Nat→Int,(∀j,0≤f j∧f j≤1048576+k)→BW c h N k (rowOf h.length f)=some (rowOf h.length fun j=>f j+CF h (c.fields.drop k) j):=by
 refine BH c.fields.length (fun N k=>∀f:Nat→Int,(∀j,0≤f j∧f j≤1048576+k)→BW c h N k (rowOf h.length f)=some (rowOf h.length fun j=>f j+CF h (c.fields.drop k) j)) ?_ ?_ hk hN
 ·intro n f _
  rw[BW,if_neg (by simp[Ac])]
  simp[I2]
 ·intro n k hk ih f hb
  obtain⟨x,hx,hxm⟩:=B3 hk
  rw[BW,if_pos (by simp[Ac];omega),BE hx]
  simp only[Option.bind_some]
  rw[Fk hl (hF x hxm)]
  simp only[Option.bind_some]
  rw[A0 (n:=(k:Int) + 1) (by omega) (by omega),show ((k:Int) + 1)=((k+1:Nat):Int) from rfl]
  cases hlv:Cs h x
  ·simp only[Bool.false_eq_true,if_false,Option.bind_some]
   rw[ih f (fun j=>⟨(hb j).1,by have:=(hb j).2;omega⟩)]
   congr 1
   refine Bd fun j _=>?_
   rw[Eo hx,Hx hlv];simp
  ·obtain⟨q,c',h1,h2,h3,_⟩:=EC hlv
   have e1:x - 1000=(q:Int):=by omega
   simp only[if_true]
   rw[A0 (n:=x - 1000) (by omega) (by omega),e1,BE (Bw h3)]
   simp only[Option.bind_some]
   have hbq:=hb q
   rw[A0 (by omega) (by omega),F5,FC]
   rw[ih _ (fun j=>by
    by_cases e:j=q
    ·simp only[e,if_true];omega
    ·simp only[e,if_false];have:=hb j;omega)]
   congr 1
   refine Bd fun j _=>?_
   rw[Eo hx,JI hlv,h2]
   by_cases e:j=q
   ·subst e;simp;omega
   ·have e':¬ q=j:=fun h=>e h.symm
    simp[e,e']
theorem OP {h:List Cell} (H:Hp h) {M:Nat} (hM:2000000≤M) {N i:Nat} (hi:i≤h.length) (hN:h.length - i < N) :
  ∀f:Nat→Int,(∀j,0≤f j∧f j+Cj h (h.drop i) j≤1048576)→BZ M h N i (rowOf h.length f)=some (if (h.drop i).all (F4 h) then Sum.inr (rowOf h.length fun j=>f j+Cj h (h.drop i) j) else Sum.inl ([],false)):=by
 have hl:=H.len
 refine BH h.length (fun N i=>∀f:Nat→Int,(∀j,0≤f j∧f j+Cj h (h.drop i) j≤1048576)→BZ M h N i (rowOf h.length f)=some (if (h.drop i).all (F4 h) then Sum.inr (rowOf h.length fun j=>f j+Cj h (h.drop i) j) else Sum.inl ([],false))) ?_ ?_ hi hN
 ·intro n f _
  rw[BZ,if_neg (by simp[Ac])]
  simp[Cj]
 ·intro n i hi ih f hb
  obtain⟨c,hc,hcm⟩:=B3 hi
  have hfl:=H.HM hcm
  rw[BZ,if_pos (by simp[Ac];omega),BE hc]
  simp only[Option.bind_some]
  rw[Lf hl hfl (H.cells c hcm).fields hM,ER hc]
  simp only[Option.bind_some]
  cases hv:F4 h c
  ·simp
  ·simp only[Bool.not_true,Bool.false_eq_true,if_false,Bool.true_and]
   have:=Ot hl hfl (H.cells c hcm).fields (Nat.zero_le _) (by omega:c.fields.length - 0 < M) f (fun j=>⟨(hb j).1,by have:=(hb j).2;omega⟩)
   rw[show ((0:Nat):Int)=0 from rfl,List.drop_zero] at this
   rw[this]
   simp only[Option.bind_some]
   rw[A0 (by omega) (by omega),show ((i:Int) + 1)=((i+1:Nat):Int) from rfl,ih]
   ·have e:(rowOf h.length fun j=>f j+(CF h c.fields j:Int) + (Cj h (h.drop (i+1)) j:Int))=rowOf h.length fun j=>f j+(Cj h (h.drop i) j:Int):=Bd fun j _=>by rw[Hz hc];omega
    rw[e]
   ·intro j
    have:=hb j
    rw[Hz hc] at this
    omega
def KQ (p:Nat→Bool):Nat→Nat→Bool
 | 0,_=>true
 | k+1,i=>p i && KQ p k (i+1)
def C9 (p:Nat→Bool) (n i:Nat):Bool:=KQ p (n - i) i
theorem FE (p:Nat→Bool) (n:Nat):C9 p n n=true:=by simp[C9,KQ]
theorem D6 {p:Nat→Bool} {n i:Nat} (h:i < n):C9 p n i=(p i && C9 p n (i+1)):=by
 unfold C9
 obtain⟨k,hk⟩ :∃k,n - i=k+1:=⟨n - i - 1,by omega⟩
 rw[hk,show n - (i+1)=k by omega];rfl
theorem FH {p:Nat→Bool} {n i:Nat} (h:i≤n):C9 p n i=true↔∀j,i≤j→j < n→p j=true:=by
 obtain⟨k,hk⟩ :∃k,n - i=k:=⟨_,rfl⟩
 induction k generalizing i with
 | zero=>
  have:i=n:=by omega
  subst this
  rw[FE]
  simp;intro j h1 h2;omega
 | succ k ih=>
  rw[D6 (by omega),Bool.and_eq_true,ih (by omega) (by omega)]
  constructor
  ·rintro⟨h1,h2⟩ j h3 h4
   rcases Nat.eq_or_lt_of_le h3 with rfl | h5
   ·exact h1
   ·exact h2 j h5 h4
  ·intro h1
   exact⟨h1 i (Nat.le_refl _) (by omega),fun j h2 h3=>h1 j (by omega) h3⟩
def Ko (h:List Cell) (j:Nat):Bool:=match h[j]? with | some c=>!(decide (0 < c.count) && decide (c.count < Cj h h j)) | none=>true
def Md (h:List Cell) (j:Nat):Bool:=match h[j]? with | some c=>!(decide (0 < c.count) && (decide (c.count < Cj h h j) || decide (999999 < c.count))) | none=>true
theorem NC {h:List Cell} (hl:h.length≤1048576) {N i:Nat} (hi:i≤h.length) (hN:h.length - i < N):Bp h (refs h) N i=some (if C9 (Ko h) h.length i then Sum.inr () else Sum.inl false):=by
 refine BH h.length (fun N i=>Bp h (refs h) N i=some (if C9 (Ko h) h.length i then Sum.inr () else Sum.inl false)) ?_ ?_ hi hN
 ·intro n
  rw[Bp,if_neg (by simp[Ac]),FE];rfl
 ·intro n i hi ih
  obtain⟨c,hc,_⟩:=B3 hi
  rw[Bp,if_pos (by simp[Ac];omega),BE hc]
  simp only[Option.bind_some]
  rw[BE (l:=refs h) (Bw hi),A0 (by omega) (by omega),show ((i:Int) + 1)=((i+1:Nat):Int) from rfl,ih,D6 hi]
  unfold Ko
  rw[hc]
  by_cases h1:0 < c.count <;> by_cases h2:c.count < Cj h h i <;> simp[h1,h2]
def DF (l:List Nat):List Int:=List.map (fun n:Nat=>(n:Int)) l
def GX (h:List Cell) (i:Nat):List Nat:=(List.range' i (h.length - i)).filter fun j=>decide (Cj h h j=0)
theorem Oj (h:List Cell):GX h h.length=[]:=by simp[GX]
theorem Nk {h:List Cell} {i:Nat} (hi:i < h.length):GX h i=(if Cj h h i=0 then [i] else []) ++ GX h (i+1):=by
 unfold GX
 obtain⟨k,hk⟩ :∃k,h.length - i=k+1:=⟨h.length - i - 1,by omega⟩
 rw[hk,show h.length - (i+1)=k by omega,List.range'_succ,List.filter_cons]
 by_cases h1:Cj h h i=0 <;> simp[h1]
theorem Oq {h:List Cell} (hl:h.length≤1048576) {N i:Nat} (hi:i≤h.length) (hN:h.length - i < N) :∀ws:List Nat,ws.length≤i→
  BV (refs h) h N i (DF ws)=some (if C9 (Md h) h.length i then Sum.inr (DF (ws ++ GX h i)) else Sum.inl ([],false)):=by
 refine BH h.length (fun N i=>∀ws:List Nat,ws.length≤i→BV (refs h) h N i (DF ws)=some (if C9 (Md h) h.length i then Sum.inr (DF (ws ++ GX h i)) else Sum.inl ([],false))) ?_ ?_ hi hN
 ·intro n ws _
  rw[BV,if_neg (by simp[Ac]),FE,Oj];simp
 ·intro n i hi ih ws hw
  obtain⟨c,hc,_⟩:=B3 hi
  rw[BV,if_pos (by simp[Ac];omega),BE hc]
  simp only[Option.bind_some]
  rw[BE (l:=refs h) (Bw hi),A0 (by omega) (by omega),show ((i:Int) + 1)=((i+1:Nat):Int) from rfl,D6 hi,Nk hi]
  simp only[Option.bind_some]
  have hok:Md h i=!(decide (0 < c.count) && (decide (c.count < Cj h h i) || decide (999999 < c.count))):=by unfold Md;rw[hc]
  rw[hok]
  by_cases hbad:0 < c.count∧(c.count < Cj h h i∨999999 < c.count)
  ·obtain⟨h1,h2⟩:=hbad
   by_cases h3:c.count < Cj h h i
   ·simp[h1,h3]
   ·have h4:999999 < c.count:=by rcases h2 with h | h;exact absurd h h3;exact h
    simp[h1,h3,h4]
  ·have hgood:(decide (0 < c.count) && (decide (c.count < Cj h h i) || decide (999999 < c.count)))=false:=by
    by_cases h1:0 < c.count
    ·have h2:¬ c.count < Cj h h i:=fun h=>hbad ⟨h1,.inl h⟩
     have h3:¬ 999999 < c.count:=fun h=>hbad ⟨h1,.inr h⟩
     simp[h2,h3]
    ·simp[h1]
   rw[hgood]
   have e1:(if decide (0 < c.count)=true then (if decide (c.count < (Cj h h i:Int))=true then some true else some (decide (999999 < c.count))) else some false)=some false:=by
    by_cases h1:0 < c.count
    ·have h2:¬ c.count < Cj h h i:=fun h=>hbad ⟨h1,.inl h⟩
     have h3:¬ 999999 < c.count:=fun h=>hbad ⟨h1,.inr h⟩
     simp[h1,h2,h3]
    ·simp[h1]
   rw[e1]
   simp only[Option.bind_some,Bool.false_eq_true,if_false,Bool.not_false,Bool.true_and]
   by_cases hz:Cj h h i=0
   ·have e2:decide ((Cj h h i:Int)=0)=true:=by simpa using hz
    rw[if_pos e2,EO _ _ _ (by simp[DF];omega) (by simp[DF];omega)]
    simp only[Option.bind_some,Sh.EK]
    have:=ih (ws ++ [i]) (by simp;omega)
    simp only[DF,List.map_append,List.map_cons,List.map_nil] at this ⊢
    rw[this,if_pos hz]
    simp
   ·have e2:decide ((Cj h h i:Int)=0)=false:=by simp;omega
    rw[if_neg (by rw[e2];simp)]
    simp only[Sh.EK]
    rw[ih ws (by omega),if_neg hz]
    simp
end RC


namespace RC
open Go
def WF (h:List Cell):Prop:=∀c∈h,∀w∈c.fields,CE h w=true
def ch (h:List Cell) (i j:Nat):Prop:=∃c w,h[i]?=some c∧w∈c.fields∧Cs h w=true∧(w - 1000).toNat=j
def J8 (h:List Cell):Prop:=∃rk:Nat→Nat,∀i j,ch h i j→rk j < rk i
theorem IM {h:List Cell} {i j:Nat} (hc:ch h i j):i < h.length∧j < h.length:=by
 obtain⟨c,w,h1,_,h3,h4⟩:=hc
 obtain⟨q,_,_,h5,h6,_⟩:=EC h3
 exact⟨(List.getElem?_eq_some_iff.1 h1).1,by omega⟩
theorem KJ {h:List Cell} {i j:Nat} {c:Cell} (hc:h[i]?=some c):0 < CF h c.fields j↔ch h i j:=by
 unfold CF
 rw[List.countP_pos_iff]
 constructor
 ·rintro⟨w,h1,h2⟩
  obtain⟨h3,h4⟩:=Oy h2
  exact⟨c,w,hc,h1,h3,h4⟩
 ·rintro⟨c',w,h1,h2,h3,h4⟩
  rw[hc] at h1;cases h1
  exact⟨w,h2,by simp[HF,h3,h4]⟩
def GJ (m:Nat→Bool) (n:Nat):Nat:=(List.range n).countP m
theorem Gi (m:Nat→Bool) (n:Nat):GJ m n≤n:=by have:=List.countP_le_length (p:=m) (l:=List.range n);simpa [GJ] using this
theorem EA (m:Nat→Bool) (n:Nat):GJ m (n+1)=GJ m n+if m n then 1 else 0:=by
 unfold GJ;rw[List.range_succ,List.countP_append];simp[List.countP_cons]
theorem NT {m m':Nat→Bool} {n:Nat} (h :∀j,j < n→m j=m' j):GJ m n=GJ m' n:=by
 induction n with
 | zero=>rfl
 | succ n ih=>rw[EA,EA,ih (fun j hj=>h j (by omega)),h n (by omega)]
theorem MI {m:Nat→Bool} {n i:Nat} (hi:i < n) (hm:m i=false):GJ (fun k=>if k=i then true else m k) n=GJ m n+1:=by
 induction n with
 | zero=>omega
 | succ n ih=>
  rw[EA,EA]
  by_cases e:i=n
  ·subst e
   rw[NT (m':=m) (fun j hj=>by simp;omega)]
   simp[hm]
  ·rw[ih (by omega)]
   have:¬ n=i:=fun h=>e h.symm
   simp[this];omega
theorem F3 {m:Nat→Bool} {n:Nat}:GJ m n=n↔∀j,j < n→m j=true:=by
 constructor
 ·intro h
  induction n with
  | zero=>intro j hj;omega
  | succ n ih=>
   rw[EA] at h
   have hle:=Gi m n
   have h1:m n=true:=by cases hm:m n <;> simp[hm] at h ⊢;omega
   simp[h1] at h
   intro j hj
   rcases Nat.lt_succ_iff_lt_or_eq.1 hj with h2 | rfl
   ·exact ih h j h2
   ·exact h1
 ·intro h
  induction n with
  | zero=>rfl
  | succ n ih=>rw[EA,ih (fun j hj=>h j (by omega)),h n (by omega)];rfl
def Mc (m:Nat→Bool) (w:Int):Bool:=!(decide (1000≤w)) || m (w - 1000).toNat
theorem Ji {n:Nat} {m:Nat→Bool} {l:List Int} (hn:n≤1048576) (hl:l.length≤1048576) (hw :∀w∈l,1000≤w→w - 1000 < n) {N i:Nat} (hi:i≤l.length) (hN:l.length - i < N) :
  Bo (rowOf n m) l N i=some (if (l.drop i).all (Mc m) then Sum.inr () else Sum.inl false):=by
 refine BH l.length (fun N i=>Bo (rowOf n m) l N i=some (if (l.drop i).all (Mc m) then Sum.inr () else Sum.inl false)) ?_ ?_ hi hN
 ·intro n'
  rw[Bo,if_neg (by simp[Ac])];simp
 ·intro n' i hi ih
  obtain⟨x,hx,hxm⟩:=B3 hi
  rw[Bo,if_pos (by simp[Ac];omega),BE hx]
  simp only[Option.bind_some]
  rw[A0 (n:=(i:Int) + 1) (by omega) (by omega),show ((i:Int) + 1)=((i+1:Nat):Int) from rfl,ih,ER hx]
  unfold BL Mc
  simp only[Option.bind_some]
  by_cases h1:1000≤x
  ·have h2:=hw x hxm h1
   have e1:x - 1000=(((x - 1000).toNat:Nat):Int):=by omega
   rw[A0 (n:=x - 1000) (by omega) (by omega)]
   have e2:Sh.get (rowOf n m) (x - 1000)=some (m (x - 1000).toNat):=by rw[C7 (by omega),Bw (by omega)]
   rw[e2]
   cases m (x - 1000).toNat <;> simp[h1]
  ·simp[h1]
theorem Lt {n:Nat} {m:Nat→Bool} {l:List Int} (hn:n≤1048576) (hl:l.length≤1048576) (hw :∀w∈l,1000≤w→w - 1000 < n) {N:Nat} (hN:2000000≤N):Dj N (rowOf n m) l=some (l.all (Mc m)):=by
 unfold Dj
 have:=Ji (m:=m) hn hl hw (Nat.zero_le _) (by omega:l.length - 0 < N)
 rw[show ((0:Nat):Int)=0 from rfl,List.drop_zero] at this
 rw[this]
 cases l.all (Mc m) <;> rfl
def J (h:List Cell) (m:Nat→Bool) (many:Nat):Prop:=
 (∃rk:Nat→Nat,(∀j,j < h.length→m j=true→rk j < many)∧∀i j,m i=true→ch h i j→m j=true∧rk j < rk i)∧GJ m h.length=many
theorem J.mark {h:List Cell} {m:Nat→Bool} {many i:Nat} (hJ:J h m many) (hi:i < h.length) (hm:m i=false) (hall :∀j,ch h i j→m j=true):J h (fun k=>if k=i then true else m k) (many+1):=by
 obtain⟨⟨rk,h1,h2⟩,h3⟩:=hJ
 refine⟨⟨fun k=>if k=i then many else rk k,fun j hj hmj=>?_,fun a b hma hab=>?_⟩,by rw[MI hi hm,h3]⟩
 ·by_cases e:j=i
  ·simp[e]
  ·simp only[e,if_false] at hmj ⊢
   have:=h1 j hj hmj;omega
 ·have hb:=(IM hab).2
  by_cases ea:a=i
  ·subst ea
   have hmb:=hall b hab
   have eb:¬ b=a:=fun e=>by rw[e,hm] at hmb;cases hmb
   simp only[eb,if_false,if_true]
   exact⟨hmb,h1 b hb hmb⟩
  ·simp only[ea,if_false] at hma
   obtain⟨h4,h5⟩:=h2 a b hma hab
   have eb:¬ b=i:=fun e=>by rw[e,hm] at h4;cases h4
   simp only[ea,eb,if_false]
   exact⟨h4,h5⟩
def Nu (h:List Cell) (m:Nat→Bool) (i:Nat):Prop:=∀j,ch h i j→m j=true
theorem MN {h:List Cell} (hw:WF h) {m:Nat→Bool} {i:Nat} {c:Cell} (hc:h[i]?=some c):c.fields.all (Mc m)=true↔Nu h m i:=by
 rw[List.all_eq_true]
 constructor
 ·rintro h1 j ⟨c',w,h2,h3,h4,h5⟩
  rw[hc] at h2;cases h2
  have:=h1 w h3
  obtain⟨q,_,h6,_⟩:=EC h4
  have h7:1000≤w:=by omega
  simp only[Mc,h7,decide_true,Bool.not_true,Bool.false_or] at this
  rw[← h5];exact this
 ·intro h1 w h2
  unfold Mc
  by_cases h3:1000≤w
  ·have h4:=hw c (List.mem_of_getElem? hc) w h2
   have h5:Hm w=false:=by unfold Hm;simp;omega
   unfold CE at h4
   rw[h5,Bool.or_false] at h4
   have:=h1 _ ⟨c,w,hc,h2,h4,rfl⟩
   simp[this]
  ·simp[h3]
theorem SO {h:List Cell} (hw:WF h) {c:Cell} (hc:c∈h) :∀w∈c.fields,1000≤w→w - 1000 < (h.length:Int):=fun w h2 h3=>by
 have h4:=hw c hc w h2
 have h5:Hm w=false:=by unfold Hm;simp;omega
 unfold CE at h4
 rw[h5,Bool.or_false] at h4
 obtain⟨q,_,h6,_,h7,_⟩:=EC h4
 omega
theorem QH {h:List Cell} (H:Hp h) (hw:WF h) {M:Nat} (hM:2000000≤M) {N i:Nat} (hi:i≤h.length) (hN:h.length - i < N) :∀(m:Nat→Bool) (many:Nat) (more:Bool),J h m many→
  ∃m' many' more',Br M h N (many:Int) more i (rowOf h.length m)=some (((many':Nat):Int),more',rowOf h.length m')∧J h m' many'∧many≤many'∧
   (more'=false→more=false∧(∀j,j < h.length→m' j=m j)∧∀j,i≤j→j < h.length→m j=true∨¬ Nu h m j)∧(more'=true→more=true∨many < many'):=by
 have hl:=H.len
 refine BH h.length (fun N i=>∀(m:Nat→Bool) (many:Nat) (more:Bool),J h m many→
  ∃m' many' more',Br M h N (many:Int) more i (rowOf h.length m)=some (((many':Nat):Int),more',rowOf h.length m')∧J h m' many'∧many≤many'∧
   (more'=false→more=false∧(∀j,j < h.length→m' j=m j)∧∀j,i≤j→j < h.length→m j=true∨¬ Nu h m j)∧(more'=true→more=true∨many < many')) ?_ ?_ hi hN
 ·intro n m many more hJ
  refine⟨m,many,more,?_,hJ,Nat.le_refl _,fun e=>⟨e,fun _ _=>rfl,fun j h1 h2=>by omega⟩,fun e=>.inl e⟩
  rw[Br,if_neg (by simp[Ac])]
 ·intro n i hi ih m many more hJ
  obtain⟨c,hc,hcm⟩:=B3 hi
  have hmany:many≤h.length:=by rw[← hJ.2];exact Gi _ _
  rw[Br,if_pos (by simp[Ac];omega),BE (Bw hi)]
  simp only[Option.bind_some]
  rw[BE hc]
  simp only[Option.bind_some]
  rw[Lt hl (H.HM hcm) (SO hw hcm) hM]
  simp only[Option.bind_some]
  rw[A0 (n:=(i:Int) + 1) (by omega) (by omega),show ((i:Int) + 1)=((i+1:Nat):Int) from rfl]
  cases hmi:m i with
  | true=>
   obtain⟨m',many',more',e1,e2,e3,e4,e5⟩:=ih m many more hJ
   refine⟨m',many',more',by simpa using e1,e2,e3,fun e=>?_,e5⟩
   obtain⟨f1,f2,f3⟩:=e4 e
   refine⟨f1,f2,fun j h1 h2=>?_⟩
   rcases Nat.eq_or_lt_of_le h1 with rfl | h3
   ·exact .inl hmi
   ·exact f3 j h3 h2
  | false=>
   cases ha:c.fields.all (Mc m) with
   | false=>
    obtain⟨m',many',more',e1,e2,e3,e4,e5⟩:=ih m many more hJ
    refine⟨m',many',more',by simpa using e1,e2,e3,fun e=>?_,e5⟩
    obtain⟨f1,f2,f3⟩:=e4 e
    refine⟨f1,f2,fun j h1 h2=>?_⟩
    rcases Nat.eq_or_lt_of_le h1 with rfl | h3
    ·refine .inr fun h4=>?_
     rw[(MN hw hc).2 h4] at ha;cases ha
    ·exact f3 j h3 h2
   | true=>
    have hJ':=hJ.mark hi hmi ((MN hw hc).1 ha)
    obtain⟨m',many',more',e1,e2,e3,e4,e5⟩:=ih _ (many+1) true hJ'
    refine⟨m',many',more',?_,e2,by omega,fun e=>?_,fun e=>.inr (by omega)⟩
    ·have ew:Sh.w ((many:Int) + 1)=((many+1:Nat):Int):=by rw[A0 (by omega) (by omega)];rfl
     simp only[Bool.not_false,if_true,Option.bind_some,ew,F5,FC]
     exact e1
    ·have:=(e4 e).1;cases this
theorem Q1 {h:List Cell} (H:Hp h) (hw:WF h) {M:Nat} (hM:2000000≤M) :∀(d N:Nat) (m:Nat→Bool) (many:Nat),J h m many→h.length - many=d→d+1 < N→
  ∃m' many',Bv M h N (many:Int) true (rowOf h.length m)=some ((many':Nat):Int)∧J h m' many'∧∀j,j < h.length→m' j=true∨¬ Nu h m' j:=by
 have hl:=H.len
 intro d
 induction d using Nat.strongRecOn with
 | _ d ih=>
  intro N m many hJ hd hN
  obtain⟨n,rfl⟩ :∃n,N=n+1:=⟨N - 1,by omega⟩
  have hmany:many≤h.length:=by rw[← hJ.2];exact Gi _ _
  obtain⟨m',many',more',e1,e2,e3,e4,e5⟩:=QH H hw hM (Nat.zero_le _) (by omega:h.length - 0 < M) m many false hJ
  rw[show ((0:Nat):Int)=0 from rfl] at e1
  have hmany':many'≤h.length:=by rw[← e2.2];exact Gi _ _
  rw[Bv,if_pos rfl,e1]
  simp only[Option.bind_some]
  cases more' with
  | true=>
   have h1:many < many':=by rcases e5 rfl with h | h;cases h;exact h
   exact ih (h.length - many') (by omega) n m' many' e2 rfl (by omega)
  | false=>
   obtain⟨_,f2,f3⟩:=e4 rfl
   obtain⟨n',rfl⟩ :∃n',n=n' + 1:=⟨n - 1,by omega⟩
   refine⟨m',many',?_,e2,fun j hj=>?_⟩
   ·rw[Bv,if_neg (by simp)]
   ·rcases f3 j (Nat.zero_le _) hj with h1 | h1
    ·left;rw[f2 j hj];exact h1
    ·right
     intro h2
     exact h1 fun q hq=>by rw[← f2 q (IM hq).2];exact h2 q hq
theorem JY {h:List Cell} {m:Nat→Bool} {many:Nat} (hJ:J h m many) (hc :∀j,j < h.length→m j=true∨¬ Nu h m j):many=h.length↔J8 h:=by
 obtain⟨⟨rk,h1,h2⟩,h3⟩:=hJ
 constructor
 ·intro e
  have hall:=F3.1 (h3.trans e)
  exact⟨rk,fun i j hij=>(h2 i j (hall i (IM hij).1) hij).2⟩
 ·rintro⟨I4,hr⟩
  rw[← h3]
  refine F3.2 fun j hj=>?_
  have key :∀d j,j < h.length→I4 j < d→m j=true:=by
   intro d
   induction d with
   | zero=>intro j _ h4;omega
   | succ d ih=>
    intro j hj hlt
    rcases hc j hj with h4 | h4
    ·exact h4
    ·exact absurd (fun q hq=>ih q (IM hq).2 (by have:=hr j q hq;omega)) h4
  exact key (I4 j+1) j hj (by omega)
theorem Lm {h:List Cell} (H:Hp h) (hw:WF h) {N:Nat} (hN:2000000≤N) :∃b,Dp N h=some b∧(b=true↔J8 h):=by
 have hl:=H.len
 unfold Dp
 rw[Ac,My _ h.length 1 (by omega) (by omega),G0]
 simp only[Option.bind_some]
 have hJ0:J h (fun _=>false) 0:=⟨⟨fun _=>0,fun _ _ h=>(by cases h),fun _ _ h=>(by cases h)⟩,by
  have :∀n,GJ (fun _=>false) n=0:=fun n=>by induction n with
   | zero=>rfl
   | succ n ih=>rw[EA,ih];rfl
  exact this _⟩
 obtain⟨m',many',e1,e2,e3⟩:=Q1 H hw hN _ N _ 0 hJ0 rfl (by omega)
 rw[show ((0:Nat):Int)=0 from rfl] at e1
 rw[e1]
 simp only[Option.bind_some]
 refine⟨_,rfl,?_⟩
 rw[decide_eq_true_eq,← JY e2 e3]
 omega
end RC


namespace RC
open Go
def fl (h:List Cell) (i:Nat):List Int:=match h[i]? with | some c=>c.fields | none=>[]
theorem Jo {h:List Cell} {i:Nat} {c:Cell} (hc:h[i]?=some c):fl h i=c.fields:=by simp[fl,hc]
def Er (h:List Cell) (p:Nat→Bool) (j:Nat):Nat→Nat
 | 0=>0
 | n+1=>Er h p j n+if p n then 0 else CF h (fl h n) j
def un (h:List Cell) (p:Nat→Bool) (j:Nat):Nat:=Er h p j h.length
theorem Kc {h:List Cell} {p:Nat→Bool} {j n:Nat}:Er h p j n=0↔∀i,i < n→p i=false→CF h (fl h i) j=0:=by
 induction n with
 | zero=>simp[Er]
 | succ n ih=>
  unfold Er
  constructor
  ·intro e i hi hp
   rcases Nat.lt_succ_iff_lt_or_eq.1 hi with h1 | rfl
   ·exact ih.1 (by omega) i h1 hp
   ·simp[hp] at e;omega
  ·intro e
   rw[ih.2 fun i hi=>e i (by omega)]
   cases hp:p n with
   | true=>simp
   | false=>simp[e n (by omega) hp]
theorem Nv {h:List Cell} {p p':Nat→Bool} {j n:Nat} (e :∀i,i < n→p i=p' i):Er h p j n=Er h p' j n:=by
 induction n with
 | zero=>rfl
 | succ n ih=>unfold Er;rw[ih fun i hi=>e i (by omega),e n (by omega)]
theorem MU {h:List Cell} {p:Nat→Bool} {j n x:Nat} (hx:x < n) (hp:p x=false):Er h p j n=Er h (fun k=>if k=x then true else p k) j n+CF h (fl h x) j:=by
 induction n with
 | zero=>omega
 | succ n ih=>
  unfold Er
  by_cases e:x=n
  ·subst e
   rw[Nv (p':=fun k=>if k=x then true else p k) (n:=x) (fun i hi=>by
    have:¬ i=x:=by omega
    simp[this])]
   simp[hp]
  ·have e':¬ n=x:=fun h=>e h.symm
   rw[ih (by omega)]
   simp only[e',if_false]
   omega
theorem OX (h:List Cell) (j:Nat) :∀n,n≤h.length→Er h (fun _=>false) j n=Cj h (h.take n) j:=by
 intro n
 induction n with
 | zero=>intro _;simp[Er,Cj]
 | succ n ih=>
  intro hn
  obtain⟨c,hc,_⟩:=B3 (l:=h) (i:=n) (by omega)
  unfold Er
  rw[ih (by omega),Fq hc,Jo hc]
  simp[Cj]
theorem I9 (h:List Cell) (j:Nat):un h (fun _=>false) j=Cj h h j:=by
 unfold un;rw[OX h j _ (Nat.le_refl _),List.take_length]
theorem QO (h:List Cell) (p:Nat→Bool) (j:Nat) :∀n,n≤h.length→Er h p j n≤CU (h.take n):=by
 intro n
 induction n with
 | zero=>intro _;simp[Er]
 | succ n ih=>
  intro hn
  obtain⟨c,hc,_⟩:=B3 (l:=h) (i:=n) (by omega)
  have h1:=ih (by omega)
  have h2:=NM h c.fields j
  unfold Er
  rw[Fq hc,EM,Jo hc]
  have:CU [c]=c.fields.length:=by simp[CU]
  split <;> omega
theorem Ry (h:List Cell) (p:Nat→Bool) (j:Nat):un h p j≤CU h:=by
 have:=QO h p j h.length (Nat.le_refl _)
 rwa [List.take_length] at this
theorem OM {h:List Cell} {c:Cell} (hl:h.length≤1048576) (hf:c.fields.length≤1048576) (hF :∀x∈c.fields,Dz x) {N k:Nat} (hk:k≤c.fields.length) (hN:c.fields.length - k < N) :
  ∀(g:Nat→Nat) (ws:List Nat),(∀j,g j≤1048576)→ws.length≤2097152+k→∃ps:List Nat,BT c h N k (rowOf h.length fun j=>((g j+CF h (c.fields.drop k) j:Nat):Int)) (DF ws)=some (rowOf h.length fun j=>((g j:Nat):Int),DF (ws ++ ps))∧
   ps.Nodup∧ps.length≤c.fields.length - k∧∀j,j∈ps↔g j=0∧0 < CF h (c.fields.drop k) j:=by
 refine BH c.fields.length (fun N k=>∀(g:Nat→Nat) (ws:List Nat),(∀j,g j≤1048576)→ws.length≤2097152+k→∃ps:List Nat,BT c h N k (rowOf h.length fun j=>((g j+CF h (c.fields.drop k) j:Nat):Int)) (DF ws)=some (rowOf h.length fun j=>((g j:Nat):Int),DF (ws ++ ps))∧
   ps.Nodup∧ps.length≤c.fields.length - k∧∀j,j∈ps↔g j=0∧0 < CF h (c.fields.drop k) j) ?_ ?_ hk hN
 ·intro n g ws _ _
  refine⟨[],?_,List.nodup_nil,by simp,fun j=>by simp[I2]⟩
  rw[BT,if_neg (by simp[Ac])]
  simp[I2]
 ·intro n k hk ih g ws hg hws
  obtain⟨x,hx,hxm⟩:=B3 hk
  rw[BT,if_pos (by simp[Ac];omega),BE hx]
  simp only[Option.bind_some]
  rw[Fk hl (hF x hxm)]
  simp only[Option.bind_some]
  rw[A0 (n:=(k:Int) + 1) (by omega) (by omega),show ((k:Int) + 1)=((k+1:Nat):Int) from rfl]
  cases hlv:Cs h x
  ·simp only[Bool.false_eq_true,if_false,Option.bind_some]
   have e:(rowOf h.length fun j=>((g j+CF h (c.fields.drop k) j:Nat):Int))=rowOf h.length fun j=>((g j+CF h (c.fields.drop (k+1)) j:Nat):Int):=Bd fun j _=>by
    rw[Eo hx,Hx hlv];simp
   rw[e]
   obtain⟨ps,h1,h2,h3,h4⟩:=ih g ws hg (by omega)
   refine⟨ps,h1,h2,by omega,fun j=>?_⟩
   rw[h4 j,Eo hx,Hx hlv];simp
  ·obtain⟨q,c',h1,h2,h3,_⟩:=EC hlv
   have e1:x - 1000=(q:Int):=by omega
   have hq:CF h (c.fields.drop k) q=1+CF h (c.fields.drop (k+1)) q:=by rw[Eo hx,JI hlv,h2];simp
   have hne :∀j,¬ j=q→CF h (c.fields.drop k) j=CF h (c.fields.drop (k+1)) j:=fun j e=>by
    have e':¬ q=j:=fun h=>e h.symm
    rw[Eo hx,JI hlv,h2];simp[e']
   have hcb:=NM h (c.fields.drop (k+1)) q
   have hcl:(c.fields.drop (k+1)).length≤c.fields.length:=by simp
   have hgq:=hg q
   simp only[if_true]
   rw[A0 (n:=x - 1000) (by omega) (by omega),e1,BE (Bw h3)]
   simp only[Option.bind_some]
   rw[A0 (n:=((g q+CF h (c.fields.drop k) q:Nat):Int) - 1) (by omega) (by omega),F5,FC]
   have er:(rowOf h.length fun j=>if j=q then ((g q+CF h (c.fields.drop k) q:Nat):Int) - 1 else ((g j+CF h (c.fields.drop k) j:Nat):Int))=rowOf h.length fun j=>((g j+CF h (c.fields.drop (k+1)) j:Nat):Int):=Bd fun j _=>by
    by_cases e:j=q
    ·subst e;simp only[if_true];omega
    ·simp only[e,if_false];rw[hne j e]
   rw[er,BE (Bw h3)]
   simp only[Option.bind_some]
   by_cases hz:g q+CF h (c.fields.drop (k+1)) q=0
   ·have ez:decide (((g q+CF h (c.fields.drop (k+1)) q:Nat):Int)=0)=true:=by simp;omega
    rw[if_pos ez,EO _ _ _ (by simp[DF];omega) (by simp[DF];omega)]
    simp only[Option.bind_some]
    have en:DF ws ++ [(q:Int)]=DF (ws ++ [q]):=by simp[DF]
    rw[en]
    obtain⟨ps,f1,f2,f3,f4⟩:=ih g (ws ++ [q]) hg (by simp;omega)
    refine⟨q :: ps,by rw[f1];simp,List.nodup_cons.2 ⟨fun hm=>?_,f2⟩,by simp;omega,fun j=>?_⟩
    ·have:=(f4 q).1 hm;omega
    ·rw[List.mem_cons,f4 j]
     by_cases e:j=q
     ·subst e;rw[hq];constructor
      ·intro _;omega
      ·intro _;exact .inl rfl
     ·rw[hne j e];simp[e]
   ·have ez:decide (((g q+CF h (c.fields.drop (k+1)) q:Nat):Int)=0)=false:=by simp;omega
    rw[if_neg (by rw[ez];simp)]
    simp only[Option.bind_some]
    obtain⟨ps,f1,f2,f3,f4⟩:=ih g ws hg (by omega)
    refine⟨ps,f1,f2,by omega,fun j=>?_⟩
    rw[f4 j]
    by_cases e:j=q
    ·subst e;rw[hq];constructor
     ·rintro⟨a,b⟩;exact⟨a,by omega⟩
     ·rintro⟨a,b⟩;exact⟨a,by omega⟩
    ·rw[hne j e]
structure KI (h:List Cell) (p:Nat→Bool) (ws:List Nat) (many:Nat):Prop where
 nd:ws.Nodup
 mem :∀x∈ws,x < h.length∧p x=false∧un h p x=0
 all :∀j,j < h.length→un h p j=0→p j=true∨j∈ws
 num:GJ p h.length=many
 tm :∃tm:Nat→Nat,(∀j,j < h.length→p j=true→tm j < many)∧∀i j,ch h i j→p j=true→p i=true∧tm i < tm j
theorem OJ {ws:List Nat} {n:Nat} (hnd:ws.Nodup) (hm :∀x∈ws,x < n):ws.length≤n:=by
 induction n generalizing ws with
 | zero=>
  cases ws with
  | nil=>simp
  | cons x r=>have:=hm x (by simp);omega
 | succ n ih=>
  by_cases h:n∈ws
  ·have h1:=ih (hnd.erase n) fun x hx=>by
    obtain⟨h2,h3⟩:=hnd.mem_erase_iff.1 hx
    have:=hm x h3;omega
   rw[List.length_erase_of_mem h] at h1;omega
  ·have:=ih hnd fun x hx=>by
    have h1:=hm x hx
    have h2:¬ x=n:=fun e=>h (e ▸ hx)
    omega
   omega
theorem SB {h:List Cell} {p:Nat→Bool} {j i:Nat} (hu:un h p j=0) (hc:ch h i j):p i=true:=by
 obtain⟨c,w,h1,h2,h3,h4⟩:=hc
 cases hp:p i with
 | true=>rfl
 | false=>
  have:=Kc.1 hu i (List.getElem?_eq_some_iff.1 h1).1 hp
  rw[Jo h1] at this
  have:=(KJ (j:=j) h1).2 ⟨c,w,h1,h2,h3,h4⟩
  omega
theorem KI.step {h:List Cell} {p:Nat→Bool} {ws ps:List Nat} {many x:Nat} {c:Cell} (hK:KI h p (ws ++ [x]) many) (hc:h[x]?=some c) (hps:ps.Nodup)
  (hmem :∀j,j∈ps↔un h (fun k=>if k=x then true else p k) j=0∧0 < CF h c.fields j):KI h (fun k=>if k=x then true else p k) (ws ++ ps) (many+1):=by
 obtain⟨hx1,hx2,hx3⟩:=hK.mem x (by simp)
 obtain⟨tm,t1,t2⟩:=hK.tm
 have hset :∀j,un h p j=un h (fun k=>if k=x then true else p k) j+CF h c.fields j:=fun j=>by
  have:=MU (h:=h) (j:=j) hx1 hx2
  rwa [Jo hc] at this
 have hnd:=hK.nd
 rw[List.nodup_append] at hnd
 obtain⟨hnd1,_,hnd3⟩:=hnd
 have hfresh :∀j∈ps,j < h.length∧¬ j=x∧p j=false∧0 < un h p j:=fun j hj=>by
  obtain⟨h1,h2⟩:=(hmem j).1 hj
  have hch:=(KJ hc).1 h2
  have hpos:0 < un h p j:=by have:=hset j;omega
  have hjx:¬ j=x:=fun e=>by subst e;omega
  refine⟨(IM hch).2,hjx,?_,hpos⟩
  cases hp:p j with
  | false=>rfl
  | true=>have:=(t2 x j hch hp).1;rw[hx2] at this;cases this
 refine⟨?_,fun y hy=>?_,fun j hj hu=>?_,by rw[MI hx1 hx2,hK.num],⟨fun k=>if k=x then many else tm k,fun j hj hp=>?_,fun i j hij hp=>?_⟩⟩
 ·rw[List.nodup_append]
  refine⟨hnd1,hps,fun a ha b hb e=>?_⟩
  subst e
  have h1:=(hK.mem a (by simp[ha])).2.2
  have h2:=(hfresh a hb).2.2.2
  omega
 ·rcases List.mem_append.1 hy with hy | hy
  ·obtain⟨h1,h2,h3⟩:=hK.mem y (by simp[hy])
   have hyx:¬ y=x:=fun e=>hnd3 y hy x (by simp) e
   have:=hset y
   exact⟨h1,by simp[hyx,h2],by omega⟩
  ·obtain⟨h1,h2,h3,_⟩:=hfresh y hy
   exact⟨h1,by simp[h2,h3],((hmem y).1 hy).1⟩
 ·by_cases hjx:j=x
  ·left;simp[hjx]
  ·have hs:=hset j
   rcases Nat.eq_zero_or_pos (CF h c.fields j) with h0 | h0
   ·rcases hK.all j hj (by omega) with h1 | h1
    ·left;simp[hjx,h1]
    ·right
     rcases List.mem_append.1 h1 with h2 | h2
     ·exact List.mem_append.2 (.inl h2)
     ·simp at h2;exact absurd h2 hjx
   ·right;exact List.mem_append.2 (.inr ((hmem j).2 ⟨hu,h0⟩))
 ·by_cases hjx:j=x
  ·simp[hjx]
  ·simp only[hjx,if_false] at hp ⊢
   have:=t1 j hj hp;omega
 ·by_cases hjx:j=x
  ·subst hjx
   have hpi:=SB hx3 hij
   have hix:¬ i=j:=fun e=>by subst e;rw[hx2] at hpi;cases hpi
   simp only[hix,if_false,if_true]
   exact⟨hpi,t1 i (IM hij).1 hpi⟩
  ·simp only[hjx,if_false] at hp
   obtain⟨h1,h2⟩:=t2 i j hij hp
   have hix:¬ i=x:=fun e=>by subst e;rw[hx2] at h1;cases h1
   simp only[hix,hjx,if_false]
   exact⟨h1,h2⟩
theorem Oe {h:List Cell} (H:Hp h) {M:Nat} (hM:2000000≤M) :∀(d N:Nat) (p:Nat→Bool) (ws:List Nat) (many:Nat),KI h p ws many→h.length - many=d→d < N→
  ∃p' many',BY M h N (many:Int) (rowOf h.length fun j=>((un h p j:Nat):Int)) (DF ws)=some ((many':Nat):Int)∧KI h p' [] many':=by
 have hl:=H.len
 intro d
 induction d with
 | zero=>
  intro N p ws many hK hd hN
  obtain⟨n,rfl⟩ :∃n,N=n+1:=⟨N - 1,by omega⟩
  have hmany:many=h.length:=by have:=Gi p h.length;have:=hK.num;omega
  have hws:ws=[]:=by
   cases ws with
   | nil=>rfl
   | cons x r=>
    obtain⟨h1,h2,_⟩:=hK.mem x (by simp)
    have:=F3.1 (hK.num.trans hmany) x h1
    rw[h2] at this;cases this
  subst hws
  exact⟨p,many,by rw[BY,if_neg (by simp[Ac,DF])],hK⟩
 | succ d ih=>
  intro N p ws many hK hd hN
  obtain⟨n,rfl⟩ :∃n,N=n+1:=⟨N - 1,by omega⟩
  have hmany:many≤h.length:=by have:=Gi p h.length;have:=hK.num;omega
  rcases List.eq_nil_or_concat ws with rfl | ⟨ws,x,rfl⟩
  ·exact⟨p,many,by rw[BY,if_neg (by simp[Ac,DF])],hK⟩
  ·rw[List.concat_eq_append] at hK ⊢
   obtain⟨hx1,hx2,hx3⟩:=hK.mem x (by simp)
   obtain⟨c,hc,hcm⟩:=B3 hx1
   have hwl:=OJ hK.nd (fun y hy=>(hK.mem y hy).1)
   rw[List.length_append,List.length_singleton] at hwl
   have elen:Sh.w (Sh.len (DF (ws ++ [x])) - 1)=(ws.length:Int):=by
    rw[Ac]
    have:(DF (ws ++ [x])).length=ws.length+1:=by simp[DF]
    rw[this,A0 (by omega) (by omega)];omega
   have eget:Sh.get (DF (ws ++ [x])) (ws.length:Int)=some (x:Int):=by
    rw[Kk];simp[DF]
   have ehi:Sh.hi (DF (ws ++ [x])) (ws.length:Int)=some (DF ws):=by
    rw[KK (by simp[DF])]
    congr 1
    simp[DF]
   rw[BY,if_pos (by simp[Ac,DF]),elen,eget]
   simp only[Option.bind_some]
   rw[BE hc,ehi]
   simp only[Option.bind_some]
   have hun :∀j,un h p j=un h (fun k=>if k=x then true else p k) j+CF h c.fields j:=fun j=>by
    have:=MU (h:=h) (j:=j) hx1 hx2
    rwa [Jo hc] at this
   have hfs:=H.size
   obtain⟨ps,f1,f2,f3,f4⟩:=OM hl (H.HM hcm) (H.cells c hcm).fields (Nat.zero_le _) (by have:=H.HM hcm;omega:c.fields.length - 0 < M) (fun j=>un h (fun k=>if k=x then true else p k) j) ws
    (fun j=>by have:=Ry h (fun k=>if k=x then true else p k) j;unfold Bs at hfs;omega) (by omega)
   rw[show ((0:Nat):Int)=0 from rfl,List.drop_zero] at f1
   have er:(rowOf h.length fun j=>((un h p j:Nat):Int))=rowOf h.length fun j=>((un h (fun k=>if k=x then true else p k) j+CF h c.fields j:Nat):Int):=Bd fun j _=>by rw[hun j]
   rw[er,f1]
   simp only[Option.bind_some]
   have ew:Sh.w ((many:Int) + 1)=((many+1:Nat):Int):=by rw[A0 (by omega) (by omega)];rfl
   rw[ew]
   have hK':=hK.step hc f2 (by rw[List.drop_zero] at f4;exact f4)
   exact ih n _ _ (many+1) hK' (by omega) (by omega)
theorem L6 (rk:Nat→Nat) (n:Nat) :∃B,∀j,j < n→rk j≤B:=by
 induction n with
 | zero=>exact⟨0,fun j hj=>by omega⟩
 | succ n ih=>
  obtain⟨B,hB⟩:=ih
  refine⟨max B (rk n),fun j hj=>?_⟩
  rcases Nat.lt_succ_iff_lt_or_eq.1 hj with h1 | rfl
  ·have:=hB j h1;omega
  ·omega
theorem Jb {h:List Cell} {p:Nat→Bool} {many:Nat} (hK:KI h p [] many):many=h.length↔J8 h:=by
 obtain⟨tm,t1,t2⟩:=hK.tm
 constructor
 ·intro e
  have hall:=F3.1 (hK.num.trans e)
  refine⟨fun k=>h.length - tm k,fun i j hij=>?_⟩
  obtain⟨hi,hj⟩:=IM hij
  obtain⟨_,h2⟩:=t2 i j hij (hall j hj)
  have:=t1 j hj (hall j hj)
  show h.length - tm j < h.length - tm i
  omega
 ·rintro⟨rk,hr⟩
  rw[← hK.num]
  obtain⟨B,hB⟩:=L6 rk h.length
  refine F3.2 fun j hj=>?_
  have key :∀d j,j < h.length→B - rk j < d→p j=true:=by
   intro d
   induction d with
   | zero=>intro j _ h4;omega
   | succ d ih=>
    intro j hj hlt
    cases hp:p j with
    | true=>rfl
    | false=>
     have hu:¬ un h p j=0:=fun e=>by
      rcases hK.all j hj e with h1 | h1
      ·rw[hp] at h1;cases h1
      ·simp at h1
     have :∃i,i < h.length∧p i=false∧¬ CF h (fl h i) j=0:=by
      refine Classical.byContradiction fun hno=>hu (Kc.2 fun i hi hpi=>?_)
      refine Classical.byContradiction fun hne=>hno ⟨i,hi,hpi,hne⟩
     obtain⟨i,hi,hpi,hne⟩:=this
     obtain⟨c,hc,_⟩:=B3 hi
     rw[Jo hc] at hne
     have hch:=(KJ (j:=j) hc).1 (by omega)
     have h5:=hr i j hch
     have h6:=hB i hi
     have:=ih i hi (by omega)
     rw[hpi] at this;cases this
  exact key (B - rk j+1) j hj (by omega)
end RC


namespace RC
open Go
def DH (h:List Cell):Bool:=match h[h.length - 1]? with | some c=>decide (c.count=0) | none=>false
structure VH (h:List Cell):Prop where
 last:DH h=false
 cells :∀c∈h,E1 h c=true
 counts :∀j,j < h.length→Ko h j=true
 NJ:J8 h
theorem Nt {h:List Cell} (hl:h.length≤1048576):(if (decide (0 < (Sh.len h)))=true then Option.bind (Sh.get h (Sh.w ((Sh.len h) - 1))) fun c=>some (decide (c.count=0)) else some false)=some (DH h):=by
 rw[Ac]
 unfold DH
 by_cases h0:h.length=0
 ·have:h=[]:=List.eq_nil_of_length_eq_zero h0
  subst this;rfl
 ·obtain⟨c,hc,_⟩:=B3 (l:=h) (i:=h.length - 1) (by omega)
  rw[if_pos (by simp;omega),A0 (by omega) (by omega),show ((h.length:Int) - 1)=((h.length - 1:Nat):Int) by omega,BE hc,hc]
  rfl
theorem R9 {h:List Cell} (hc :∀c∈h,F4 h c=true):WF h:=fun c hcm w hw=>by
 have:=hc c hcm
 unfold F4 at this
 simp only[Bool.and_eq_true] at this
 have h2:=List.all_eq_true.1 this.2 w hw
 simp only[Bool.and_eq_true] at h2
 exact h2.1
theorem LB {h:List Cell} {c:Cell} (hc:E1 h c=true):F4 h c=true∧c.count≤999999:=by
 rw[MZ,Bool.and_eq_true,decide_eq_true_eq] at hc;exact hc
theorem Mx {h:List Cell} (H:Hp h) {M:Nat} (hM:2000000≤M) {N i:Nat} (hi:i≤h.length) (hN:h.length - i < N):Bu M h N i=some (if (h.drop i).all (E1 h) then Sum.inr () else Sum.inl false):=by
 have hl:=H.len
 refine BH h.length (fun N i=>Bu M h N i=some (if (h.drop i).all (E1 h) then Sum.inr () else Sum.inl false)) ?_ ?_ hi hN
 ·intro n
  rw[Bu,if_neg (by simp[Ac])];simp
 ·intro n i hi ih
  obtain⟨c,hc,hcm⟩:=B3 hi
  rw[Bu,if_pos (by simp[Ac];omega),BE hc]
  simp only[Option.bind_some]
  rw[Ls hl (H.HM hcm) (H.cells c hcm).fields hM,A0 (by omega) (by omega),show ((i:Int) + 1)=((i+1:Nat):Int) from rfl,ih,ER hc]
  cases E1 h c <;> simp
theorem OH {h:List Cell} (H:Hp h) {N:Nat} (hN:2000000≤N) :∃b,CA N h=some b∧(b=true↔VH h):=by
 have hl:=H.len
 unfold CA
 rw[Nt hl]
 simp only[Option.bind_some]
 cases h1:DH h with
 | true=>exact⟨false,by simp,(by simp;intro hv;rw[hv.last] at h1;cases h1)⟩
 | false=>
  have e1:=Mx H hN (Nat.zero_le _) (by omega:h.length - 0 < N)
  rw[show ((0:Nat):Int)=0 from rfl,List.drop_zero] at e1
  simp only[Bool.false_eq_true,if_false]
  rw[e1,Fs H hN]
  cases h2:h.all (E1 h) with
  | false=>
   refine⟨false,by simp,?_⟩
   simp only[Bool.false_eq_true,false_iff]
   intro hv
   have:=List.all_eq_true.2 hv.cells
   rw[h2] at this;cases this
  | true=>
   have hcells:=List.all_eq_true.1 h2
   simp only[if_true,Sh.EK,Option.bind_some]
   have e2:=NC hl (Nat.zero_le _) (by omega:h.length - 0 < N)
   rw[show ((0:Nat):Int)=0 from rfl] at e2
   rw[e2]
   cases h3:C9 (Ko h) h.length 0 with
   | false=>
    refine⟨false,by simp,?_⟩
    simp only[Bool.false_eq_true,false_iff]
    intro hv
    have:=(FH (p:=Ko h) (Nat.zero_le _)).2 fun j _ hj=>hv.counts j hj
    rw[h3] at this;cases this
   | true=>
    have hcnt:=(FH (p:=Ko h) (Nat.zero_le _)).1 h3
    obtain⟨b,f1,f2⟩:=Lm H (R9 fun c hc=>(LB (hcells c hc)).1) hN
    simp only[if_true,Sh.EK]
    rw[f1]
    exact⟨b,rfl,f2.trans ⟨fun hr=>⟨h1,hcells,fun j hj=>hcnt j (Nat.zero_le _) hj,hr⟩,fun hv=>hv.NJ⟩⟩
theorem Me {h:List Cell} {j:Nat} {c:Cell} (hc:h[j]?=some c):Md h j=true↔Ko h j=true∧(0 < c.count→c.count≤999999):=by
 unfold Md Ko
 rw[hc]
 by_cases h1:0 < c.count <;> by_cases h2:c.count < Cj h h j <;> by_cases h3:999999 < c.count <;> simp[h1,h2,h3] <;> omega
theorem Je (l:List Int) (hl:l.length≤1048576):B2 l=some l:=by
 unfold B2
 rw[EO _ _ _ (by simp;omega) (by simp;omega)];rfl
theorem OI {h:List Cell} (H:Hp h) {N:Nat} (hN:2000000≤N) :∃r b,CK N h=some (r,b)∧(b=true↔VH h)∧(b=true→r=refs h):=by
 have hl:=H.len
 unfold CK
 rw[Nt hl,Ac,My _ h.length 8 (by omega) (by omega),G0]
 simp only[Option.bind_some]
 have e1:=OP H hN (Nat.zero_le _) (by omega:h.length - 0 < N) (fun _=>0) (fun j=>⟨by omega,by
  have h1:=PA h (h.drop 0) j
  have h2:=ID h 0
  have h3:=H.size
  unfold Bs at h3;omega⟩)
 rw[show ((0:Nat):Int)=0 from rfl,List.drop_zero] at e1
 rw[e1]
 have er:(rowOf h.length fun j=>(0:Int) + (Cj h h j:Int))=refs h:=Bd fun j _=>by omega
 rw[er]
 cases h2:h.all (F4 h) with
 | false=>
  refine⟨[],false,by simp,?_,by simp⟩
  simp only[Bool.false_eq_true,false_iff]
  intro hv
  have:=List.all_eq_true.2 fun c hc=>(LB (hv.cells c hc)).1
  rw[h2] at this;cases this
 | true=>
  have hcells:=List.all_eq_true.1 h2
  simp only[if_true,Sh.EK]
  cases h1:DH h with
  | true=>exact⟨[],false,by simp,(by simp;intro hv;rw[hv.last] at h1;cases h1),by simp⟩
  | false=>
   have hrl:(refs h).length=h.length:=CX
   simp only[Bool.false_eq_true,if_false]
   rw[Je _ (by omega)]
   have e2:=Oq hl (Nat.zero_le _) (by omega:h.length - 0 < N) [] (by simp)
   rw[show ((0:Nat):Int)=0 from rfl,List.nil_append,show DF []=[] from rfl] at e2
   rw[e2]
   simp only[Option.bind_some]
   cases h3:C9 (Md h) h.length 0 with
   | false=>
    refine⟨[],false,by simp,?_,by simp⟩
    simp only[Bool.false_eq_true,false_iff]
    intro hv
    have:=(FH (p:=Md h) (Nat.zero_le _)).2 fun j _ hj=>by
     obtain⟨c,hc,hcm⟩:=B3 hj
     exact (Me hc).2 ⟨hv.counts j hj,fun _=>(LB (hv.cells c hcm)).2⟩
    rw[h3] at this;cases this
   | true=>
    have hcnt:=(FH (p:=Md h) (Nat.zero_le _)).1 h3
    simp only[if_true,Sh.EK]
    have hr0:refs h=rowOf h.length fun j=>((un h (fun _=>false) j:Nat):Int):=Bd fun j _=>by rw[I9]
    have hK0:KI h (fun _=>false) (GX h 0) 0:=by
     have hz :∀x,x∈GX h 0↔x < h.length∧Cj h h x=0:=fun x=>by
      unfold GX
      rw[List.mem_filter,List.mem_range']
      simp
     refine⟨?_,fun x hx=>?_,fun j hj hu=>?_,?_,⟨fun _=>0,fun _ _ h=>(by cases h),fun _ _ _ h=>(by cases h)⟩⟩
     ·exact List.Nodup.sublist List.filter_sublist List.nodup_range'
     ·obtain⟨h4,h5⟩:=(hz x).1 hx
      exact⟨h4,rfl,by rw[I9];exact h5⟩
     ·rw[I9] at hu
      exact .inr ((hz j).2 ⟨hj,hu⟩)
     ·have :∀n,GJ (fun _=>false) n=0:=fun n=>by induction n with
       | zero=>rfl
       | succ n ih=>rw[EA,ih];rfl
      exact this _
    obtain⟨p',many',f1,f2⟩:=Oe H hN h.length N _ _ 0 hK0 (by omega) (by omega)
    rw[show ((0:Nat):Int)=0 from rfl,← hr0] at f1
    rw[f1]
    refine⟨refs h,_,rfl,?_,fun _=>rfl⟩
    rw[decide_eq_true_eq]
    have hm:((many':Nat):Int)=(h.length:Int)↔many'=h.length:=by omega
    rw[hm,Jb f2]
    constructor
    ·intro hr
     refine⟨h1,fun c hc=>?_,fun j hj=>?_,hr⟩
     ·rw[MZ,hcells c hc,Bool.true_and,decide_eq_true_eq]
      obtain⟨j,hj⟩:=List.mem_iff_getElem?.1 hc
      by_cases h4:0 < c.count
      ·exact ((Me hj).1 (hcnt j (Nat.zero_le _) (List.getElem?_eq_some_iff.1 hj).1)).2 h4
      ·omega
     ·obtain⟨c,hc,_⟩:=B3 hj
      exact ((Me hc).1 (hcnt j (Nat.zero_le _) hj)).1
    ·exact fun hv=>hv.NJ
theorem QP {b b':Bool} {p:Prop} (h1:b=true↔p) (h2:b'=true↔p):b=b':=by
 cases b <;> cases b' <;> simp at h1 h2 <;> first | rfl | exact absurd h2 h1 | exact absurd h1 h2
theorem GG {h:List Cell} (H:Hp h) {N:Nat} (hN:2000000≤N) :∃b r,CA N h=some b∧HP N h=some b∧CK N h=some (r,b)∧Ej N h=some b∧(b=true↔VH h)∧(b=true→r=refs h):=by
 obtain⟨b,h1,h2⟩:=OH H hN
 obtain⟨r,b',h3,h4,h5⟩:=OI H hN
 obtain rfl:=QP h2 h4
 exact⟨b,r,h1,by unfold HP;rw[h1];rfl,h3,by unfold Ej;rw[h3];rfl,h2,h5⟩
end RC


namespace RC
open Go
end RC



namespace RC
open Go
def As {α:Type} (x:Option α) (Q:α→Prop):Prop:=∃v,x=some v∧Q v
theorem As.some {α:Type} {v:α} {Q:α→Prop} (h:Q v):As (some v) Q:=⟨v,rfl,h⟩
theorem MG {α:Type} {x:Option α} {v:α} {Q:α→Prop} (e:x=Option.some v) (h:Q v):As x Q:=⟨v,e,h⟩
theorem As.mono {α:Type} {x:Option α} {Q R:α→Prop} (h:As x Q) (g :∀v,Q v→R v):As x R:=
 let ⟨v,e,q⟩:=h;⟨v,e,g v q⟩
theorem As.bind {α β:Type} {x:Option α} {f:α→Option β} {R:α→Prop} {Q:β→Prop} (h:As x R) (k :∀v,R v→As (f v) Q):As (Option.bind x f) Q:=by
 obtain⟨v,rfl,hv⟩:=h;exact k v hv
theorem B5 {α β:Type} {x:Option α} {f:α→Option β} {v:α} {Q:β→Prop} (h:x=Option.some v) (k:As (f v) Q):As (Option.bind x f) Q:=by
 subst h;exact k
theorem D0 {α:Type} {b:Bool} {x y:Option α} {Q:α→Prop} (h1:b=true→As x Q) (h2:b=false→As y Q):As (if b=true then x else y) Q:=by
 cases b
 ·exact h2 rfl
 ·exact h1 rfl
theorem Bi {α:Type} {p:Prop} [Decidable p] {x y:Option α} {Q:α→Prop} (h1:p→As x Q) (h2:¬ p→As y Q):As (if decide p=true then x else y) Q:=by
 by_cases h:p
 ·rw[if_pos (by simpa using h)];exact h1 h
 ·rw[if_neg (by simpa using h)];exact h2 h
theorem As.get {α β:Type} {l:List α} {j:Int} {f:α→Option β} {Q:β→Prop} (h0:0≤j) (h1:j < l.length) (k :∀x,l[j.toNat]?=Option.some x→x∈l→As (f x) Q):As (Option.bind (Sh.get l j) f) Q:=by
 obtain⟨x,e,hx⟩:=Ka h0 h1
 exact B5 e (k x hx (List.mem_of_getElem? hx))
theorem As.app {α β:Type} {l m:List α} {b:Nat} {f:List α→Option β} {Q:β→Prop} (h:(l.length+m.length) * b≤140737488355328) (h2:l.length+m.length≤9223372036854775807) (k:As (f (l ++ m)) Q):As (Option.bind (Sh.app l m b) f) Q:=B5 (EO l m b h h2) k
theorem OZ {n:Int} (h1:-9223372036854775808≤n) (h2:n≤9223372036854775807):Sh.wk .i64 n=n:=Abs.wrap_i64 h1 h2
theorem RE {a b:Int} (ha:0≤a) (ha':a < 4611686018427387904) (hb:0≤b) (hb':b < 4611686018427387904):0≤Sh.xor a b∧Sh.xor a b < 4611686018427387904:=by
 obtain⟨x,rfl⟩:=Int.eq_ofNat_of_zero_le ha
 obtain⟨y,rfl⟩:=Int.eq_ofNat_of_zero_le hb
 have e:Sh.xor (x:Int) (y:Int)=((x ^^^ y:Nat):Int):=by
  unfold Sh.xor
  have h1:(BitVec.ofInt 64 (x:Int) ^^^ BitVec.ofInt 64 (y:Int)).toNat=x ^^^ y:=by
   rw[BitVec.toNat_xor]
   simp only[BitVec.ofInt_natCast,BitVec.toNat_ofNat]
   rw[Nat.mod_eq_of_lt (by omega),Nat.mod_eq_of_lt (by omega)]
  rw[h1]
  have h2:x ^^^ y < 2 ^ 62:=Nat.xor_lt_two_pow (by omega) (by omega)
  exact Abs.wrap_i64 (by omega) (by omega)
 have h2:x ^^^ y < 2 ^ 62:=Nat.xor_lt_two_pow (by omega) (by omega)
 rw[e];omega
end RC



namespace RC
open Go
def cat (h:List Cell) (j:Nat):Cell:=(h[j]?).getD ⟨0,0,[]⟩
def ct (h:List Cell) (j:Nat):Int:=(cat h j).count
theorem Il {h:List Cell} {j:Nat} {c:Cell} (hc:h[j]?=some c):cat h j=c:=by simp[cat,hc]
theorem Cq {h:List Cell} {j:Nat} (hj:j < h.length):h[j]?=some (cat h j):=by
 obtain⟨c,hc,_⟩:=B3 hj
 rw[Il hc];exact hc
theorem Co {h:List Cell} {j:Nat} (hj:h.length≤j):cat h j=⟨0,0,[]⟩:=by simp[cat,List.getElem?_eq_none hj]
theorem DM {h:List Cell} {j:Nat} (hj:j < h.length):cat h j∈h:=List.mem_of_getElem? (Cq hj)
theorem G6 {h:List Cell} {j:Nat} (hj:ct h j≠0):j < h.length:=by
 by_cases h0:j < h.length
 ·exact h0
 ·exact absurd (by unfold ct;rw[Co (by omega)]) hj
theorem B1 (h:List Cell) (j:Nat):fl h j=(cat h j).fields:=by
 unfold fl cat;cases h[j]? <;> rfl
theorem Ic (h:List Cell):rowOf h.length (cat h)=h:=by
 apply List.ext_getElem?
 intro k
 by_cases hk:k < h.length
 ·rw[Bw hk,Cq hk]
 ·rw[List.getElem?_eq_none (by rw[CX];omega),List.getElem?_eq_none (by omega)]
theorem Ih {n:Nat} {f:Nat→Cell} {j:Nat} (hj:j < n):cat (rowOf n f) j=f j:=Il (Bw hj)
def pc (ws:List Int) (j:Nat):Nat:=ws.countP fun w=>decide (w=1000+(j:Int))
theorem Ed (j:Nat):pc [] j=0:=rfl
theorem FG (a b:List Int) (j:Nat):pc (a ++ b) j=pc a j+pc b j:=by simp[pc,List.countP_append]
theorem Gq (w:Int) (j:Nat):pc [w] j=if w=1000+(j:Int) then 1 else 0:=by simp[pc,List.countP_cons]
theorem KV (w:Int) (ws:List Int) (j:Nat):pc (w :: ws) j=(if w=1000+(j:Int) then 1 else 0) + pc ws j:=by
 rw[show w :: ws=[w] ++ ws from rfl,FG,Gq]
theorem Gw {ws:List Int} {j:Nat}:0 < pc ws j↔(1000+(j:Int))∈ws:=by
 unfold pc
 rw[List.countP_pos_iff]
 constructor
 ·rintro⟨w,h1,h2⟩
  rw[decide_eq_true_eq] at h2;subst h2;exact h1
 ·intro h;exact⟨_,h,by simp⟩
def DO (h:List Cell) (p:Nat→Bool) (j:Nat):Nat→Nat
 | 0=>0
 | n+1=>DO h p j n+if p n then pc (fl h n) j else 0
abbrev Em (h:List Cell) (j:Nat):Nat:=DO h (fun _=>true) j h.length
abbrev Is (h:List Cell) (p:Nat→Bool) (j:Nat):Nat:=DO h p j h.length
theorem Ek {h g:List Cell} {p q:Nat→Bool} {j n:Nat} (e :∀i,i < n→(if p i then pc (fl h i) j else 0)=(if q i then pc (fl g i) j else 0)):DO h p j n=DO g q j n:=by
 induction n with
 | zero=>rfl
 | succ n ih=>unfold DO;rw[ih fun i hi=>e i (by omega),e n (by omega)]
theorem OD {h:List Cell} {p:Nat→Bool} {j n x:Nat} (hx:x < n) (hp:p x=false):DO h (fun k=>if k=x then true else p k) j n=DO h p j n+pc (fl h x) j:=by
 induction n with
 | zero=>omega
 | succ n ih=>
  unfold DO
  by_cases e:x=n
  ·subst e
   rw[Ek (g:=h) (q:=p) (n:=x) (fun i hi=>by
    have:¬ i=x:=by omega
    simp[this])]
   simp[hp]
  ·have e':¬ n=x:=fun h=>e h.symm
   rw[ih (by omega)]
   simp only[e',if_false]
   omega
theorem Ml {h:List Cell} {p q:Nat→Bool} {j n:Nat} (e :∀i,i < n→p i=true→q i=true):DO h p j n≤DO h q j n:=by
 induction n with
 | zero=>exact Nat.le_refl _
 | succ n ih=>
  unfold DO
  have h1:=ih fun i hi=>e i (by omega)
  have h2:=e n (by omega)
  cases hp:p n with
  | false=>simp;omega
  | true=>simp[h2 hp];omega
theorem Qd {h:List Cell} {p q:Nat→Bool} {j n:Nat} (e :∀i,i < n→p i=true→q i=false):DO h (fun i=>p i || q i) j n=DO h p j n+DO h q j n:=by
 induction n with
 | zero=>rfl
 | succ n ih=>
  unfold DO
  rw[ih fun i hi=>e i (by omega)]
  have h2:=e n (by omega)
  cases hp:p n with
  | false=>cases hq:q n <;> simp <;> omega
  | true=>simp[h2 hp];omega
theorem JU {h:List Cell} {p:Nat→Bool} {j n:Nat} (e :∀i,i < n→p i=true→pc (fl h i) j=0):DO h p j n=0:=by
 induction n with
 | zero=>rfl
 | succ n ih=>
  unfold DO
  rw[ih fun i hi=>e i (by omega)]
  cases hp:p n with
  | false=>simp
  | true=>simp[e n (by omega) hp]
theorem RD {h:List Cell} {p:Nat→Bool} {j n i:Nat} (hi:i < n) (hp:p i=true):pc (fl h i) j≤DO h p j n:=by
 induction n with
 | zero=>omega
 | succ n ih=>
  unfold DO
  rcases Nat.lt_succ_iff_lt_or_eq.1 hi with h1 | rfl
  ·have:=ih h1;omega
  ·simp[hp]
theorem Pp {h:List Cell} {p:Nat→Bool} {j n m:Nat} (hn:h.length≤n):DO h p j (n+m)=DO h p j n:=by
 induction m with
 | zero=>rfl
 | succ m ih=>
  show DO h p j (n+m) + (if p (n+m) then pc (fl h (n+m)) j else 0)=_
  rw[ih,B1,Co (by omega)]
  simp[Ed]
theorem Gb {h:List Cell} {j:Nat}:Cs h (1000+(j:Int))=decide (0 < ct h j):=by
 unfold Cs ct cat
 rw[show (1000+(j:Int) - 1000).toNat=j by omega]
 have e:decide ((1000:Int)≤1000+(j:Int))=true:=by simp;omega
 rw[e,Bool.true_and]
 cases h[j]? <;> rfl
theorem H6 {w:Int} (hw:1000≤w):w=1000+(((w - 1000).toNat:Nat):Int):=by omega
theorem N8 {h:List Cell} {j:Nat} {w:Int}:HF h j w=(decide (0 < ct h j) && decide (w=1000+(j:Int))):=by
 unfold HF
 by_cases hw:1000≤w
 ·obtain⟨i,hi⟩ :∃i:Nat,w=1000+(i:Int):=⟨_,H6 hw⟩
  subst hi
  rw[Gb,show (1000+(i:Int) - 1000).toNat=i by omega]
  by_cases e:i=j
  ·subst e;simp
  ·have e1:¬ (1000+(i:Int)=1000+(j:Int)):=by omega
   simp[e,e1]
 ·rw[En hw]
  have e1:¬ (w=1000+(j:Int)):=by omega
  simp[e1]
theorem RM (h:List Cell) (ws:List Int) (j:Nat):CF h ws j=if 0 < ct h j then pc ws j else 0:=by
 unfold CF pc
 by_cases hc:0 < ct h j
 ·rw[if_pos hc]
  refine List.countP_congr fun w _=>?_
  rw[N8];simp[hc]
 ·rw[if_neg hc,List.countP_eq_zero]
  intro w _
  rw[N8];simp[hc]
theorem Hj (h:List Cell) (j:Nat):Cj h h j=if 0 < ct h j then Em h j else 0:=by
 rw[← I9]
 unfold un
 have key :∀n,Er h (fun _=>false) j n=if 0 < ct h j then DO h (fun _=>true) j n else 0:=by
  intro n
  induction n with
  | zero=>simp[Er,DO]
  | succ n ih=>
   unfold Er DO
   rw[ih,RM]
   by_cases hc:0 < ct h j <;> simp[hc]
 exact key _
theorem Ew {l:List Int} (hl:l.length≤1048576):Ca l=some l:=by
 unfold Ca
 rw[EO [] l 8 (by simp;omega) (by simp;omega)];rfl
theorem NK {h:List Cell} (H:Hp h) {N i:Nat} (hi:i≤h.length) (hN:h.length - i < N):BN h N i (h.take i)=some h:=by
 have hl:=H.len
 refine BH h.length (fun N i=>BN h N i (h.take i)=some h) ?_ ?_ hi hN
 ·intro n
  rw[BN,if_neg (by simp[Ac]),List.take_length]
 ·intro n i hi ih
  obtain⟨c,hc,hcm⟩:=B3 hi
  rw[BN,if_pos (by simp[Ac];omega),BE hc]
  simp only[Option.bind_some]
  rw[Ew (H.HM hcm)]
  simp only[Option.bind_some]
  rw[EO _ _ 40 (by simp;omega) (by simp;omega),A0 (by omega) (by omega),show ((i:Int) + 1)=((i+1:Nat):Int) by omega]
  simp only[Option.bind_some]
  rw[← Fq hc];exact ih
theorem Ff {h:List Cell} (H:Hp h) {N:Nat} (hN:2000000≤N):B8 N h=some h:=by
 have hl:=H.len
 unfold B8
 have:=NK H (Nat.zero_le _) (by omega:h.length - 0 < N)
 rw[List.take_zero,show ((0:Nat):Int)=0 from rfl] at this
 rw[this];rfl
theorem Lc {h:List Cell} (H:Hp h) {N i:Nat} (hi:i≤h.length) (hN:h.length - i < N):Ci h N i h=some h:=by
 have hl:=H.len
 refine BH h.length (fun N i=>Ci h N i h=some h) ?_ ?_ hi hN
 ·intro n
  rw[Ci,if_neg (by simp[Ac])]
 ·intro n i hi ih
  obtain⟨c,hc,hcm⟩:=B3 hi
  rw[Ci,if_pos (by simp[Ac];omega),BE hc]
  simp only[Option.bind_some]
  rw[Je _ (H.HM hcm)]
  simp only[Option.bind_some]
  rw[A0 (by omega) (by omega),show ((i:Int) + 1)=((i+1:Nat):Int) by omega,F5]
  have:h.set i ⟨c.count,c.tag,c.fields⟩=h:=by
   apply List.ext_getElem?
   intro k
   rw[List.getElem?_set]
   by_cases e:i=k
   ·subst e;rw[if_pos rfl,if_pos hi,hc]
   ·rw[if_neg e]
  rw[this];exact ih
theorem IE {h:List Cell} (H:Hp h) {N:Nat} (hN:2000000≤N):Eh N h=some h:=by
 have hl:=H.len
 unfold Eh BG
 rw[EO [] h 40 (by simp;omega) (by simp;omega)]
 simp only[Option.bind_some,List.nil_append]
 have:=Lc H (Nat.zero_le _) (by omega:h.length - 0 < N)
 rw[show ((0:Nat):Int)=0 from rfl] at this
 rw[this];rfl
def tl (h:List Cell):Nat→Nat
 | 0=>0
 | n+1=>if ct h n=0 then tl h n else n+1
def Ke (h:List Cell):List Cell:=h.take (tl h h.length)
theorem NL (h:List Cell) (n:Nat):tl h n≤n:=by
 induction n with
 | zero=>exact Nat.le_refl _
 | succ n ih=>unfold tl;split <;> omega
theorem Qn (h:List Cell) (n:Nat) :∀j,tl h n≤j→j < n→ct h j=0:=by
 induction n with
 | zero=>intro j _ h2;omega
 | succ n ih=>
  unfold tl
  intro j h1 h2
  split at h1
  ·rename_i h0
   rcases Nat.lt_succ_iff_lt_or_eq.1 h2 with h3 | rfl
   ·exact ih j h1 h3
   ·exact h0
  ·omega
theorem Qq (h:List Cell) (n:Nat):tl h n=0∨ct h (tl h n - 1)≠0:=by
 induction n with
 | zero=>exact .inl rfl
 | succ n ih=>
  unfold tl
  split
  ·exact ih
  ·rename_i h0
   exact .inr (by simpa using h0)
theorem LF (h:List Cell):(Ke h).length=tl h h.length:=by
 unfold Ke;rw[List.length_take];have:=NL h h.length;omega
theorem Jy {h:List Cell} {j:Nat} (hj:j < tl h h.length):cat (Ke h) j=cat h j:=by
 unfold cat Ke
 rw[List.getElem?_take,if_pos hj]
def Zr (h:List Cell):Prop:=∀j,ct h j=0→cat h j=⟨0,0,[]⟩
theorem Qm {h:List Cell} (hz:Zr h) (j:Nat):cat (Ke h) j=cat h j:=by
 by_cases hj:j < tl h h.length
 ·exact Jy hj
 ·rw[Co (by rw[LF];omega)]
  by_cases h2:j < h.length
  ·rw[hz j (Qn h h.length j (by omega) h2)]
  ·rw[Co (by omega)]
theorem JA (h:List Cell):DH h=false↔h.length=0∨ct h (h.length - 1)≠0:=by
 unfold DH ct cat
 by_cases h0:h.length=0
 ·have:h=[]:=List.eq_nil_of_length_eq_zero h0
  subst this;simp
 ·obtain⟨c,hc,_⟩:=B3 (l:=h) (i:=h.length - 1) (by omega)
  rw[hc];simp[h0]
theorem Pm (h:List Cell):DH (Ke h)=false:=by
 rw[JA,LF]
 rcases Qq h h.length with h1 | h1
 ·exact .inl h1
 ·by_cases h0:tl h h.length=0
  ·exact .inl h0
  ·refine .inr ?_
   unfold ct at h1 ⊢
   rwa [Jy (by omega)]
theorem RS {h:List Cell} (hl:DH h=false):Ke h=h:=by
 unfold Ke
 rw[JA] at hl
 rcases hl with hl | hl
 ·have:h=[]:=List.eq_nil_of_length_eq_zero hl
  subst this;rfl
 ·have hn0:h.length≠0:=fun h0=>hl (by unfold ct;rw[Co (by omega)])
  obtain⟨n,hn⟩ :∃n,h.length=n+1:=⟨h.length - 1,by omega⟩
  have:tl h h.length=h.length:=by
   rw[hn] at hl ⊢
   unfold tl
   rw[if_neg (by simpa using hl)]
  rw[this,List.take_length]
theorem Jl {h:List Cell} (hl:h.length≤1048576) :∀(n N:Nat),n≤h.length→n < N→C6 h N (n:Int)=some ((tl h n:Nat):Int):=by
 intro n
 induction n with
 | zero=>
  intro N _ hN
  obtain⟨N',rfl⟩ :∃N',N=N' + 1:=⟨N - 1,by omega⟩
  simp[C6,tl]
 | succ n ih=>
  intro N hn hN
  obtain⟨N',rfl⟩ :∃N',N=N' + 1:=⟨N - 1,by omega⟩
  rw[C6,if_pos (by simp),A0 (by omega) (by omega),show (((n+1:Nat):Int) - 1)=((n:Nat):Int) by omega,BE (Cq (by omega))]
  simp only[Option.bind_some]
  unfold tl
  by_cases h0:(cat h n).count=0
  ·rw[if_pos (by simpa using h0),if_pos (show ct h n=0 from h0)];exact ih N' (by omega) (by omega)
  ·rw[if_neg (by simpa using h0),if_neg (show ¬ ct h n=0 from h0)]
theorem L1 {h:List Cell} (hl:h.length≤1048576) {N:Nat} (hN:2000000≤N):Fo N h=some (Ke h):=by
 unfold Fo
 rw[Ac,Jl hl _ _ (Nat.le_refl _) (by omega)]
 simp only[Option.bind_some]
 rw[KK (NL _ _)];rfl
theorem JZ {h:List Cell} (hl:h.length≤1048576) :∀(n N:Nat),n≤h.length→n < N→DA h N (n:Int)=some ((tl h n:Nat):Int):=by
 intro n
 induction n with
 | zero=>
  intro N _ hN
  obtain⟨N',rfl⟩ :∃N',N=N' + 1:=⟨N - 1,by omega⟩
  simp[DA,tl]
 | succ n ih=>
  intro N hn hN
  obtain⟨N',rfl⟩ :∃N',N=N' + 1:=⟨N - 1,by omega⟩
  rw[DA,if_pos (by simp),A0 (by omega) (by omega),show (((n+1:Nat):Int) - 1)=((n:Nat):Int) by omega,BE (Cq (by omega))]
  simp only[Option.bind_some]
  unfold tl
  by_cases h0:(cat h n).count=0
  ·rw[if_pos (by simpa using h0),if_pos (show ct h n=0 from h0)];exact ih N' (by omega) (by omega)
  ·rw[if_neg (by simpa using h0),if_neg (show ¬ ct h n=0 from h0)]
theorem Ll {h:List Cell} (hl:h.length≤1048576) {N:Nat} (hN:2000000≤N):FT N h=some (Ke h):=by
 unfold FT
 rw[Ac,JZ hl _ _ (Nat.le_refl _) (by omega)]
 simp only[Option.bind_some]
 rw[KK (NL _ _)];rfl
end RC



namespace RC
open Go
structure IB (h:List Cell) (W:List Int):Prop where
 hp:Hp h
 fields :∀i,∀w∈fl h i,1000≤w→0 < ct h (w - 1000).toNat
 words :∀w∈W,1000≤w→0 < ct h (w - 1000).toNat
 wi :∀w∈W,Dz w
 CF :∀j,0 < ct h j→((pc W j+Em h j:Nat):Int)≤ct h j
theorem Hp.PC {h:List Cell} (H:Hp h) (j:Nat):Dz (ct h j):=by
 unfold ct
 by_cases hj:j < h.length
 ·exact (H.cells _ (DM hj)).count
 ·rw[Co (by omega)];exact⟨by decide,by decide⟩
theorem Hp.RL {h:List Cell} (H:Hp h) (j:Nat) :∀w∈fl h j,Dz w:=by
 rw[B1]
 by_cases hj:j < h.length
 ·exact (H.cells _ (DM hj)).fields
 ·rw[Co (by omega)];intro w hw;cases hw
structure DI (h:List Cell) (W t:List Int) (fr:Nat→Bool) (cn:Nat→Int):Prop where
 CF :∀j,cn j=ct h j - (pc W j:Int) - (Is h fr j:Int) + (pc t j:Int)
 A2 :∀j,fr j=true↔(0 < ct h j∧cn j=0)
 tw :∀w∈t,1000≤w→0 < ct h (w - 1000).toNat
 ti :∀w∈t,Dz w
 le :∀j,cn j≤ct h j
 ge :∀j,ct h j≤0→cn j=ct h j
def gg (h:List Cell) (fr:Nat→Bool) (cn:Nat→Int) (j:Nat):Cell:=if fr j then ⟨0,0,[]⟩ else ⟨cn j,(cat h j).tag,(cat h j).fields⟩
theorem Jr {h:List Cell} {W:List Int} (P:IB h W):DI h W W (fun _=>false) (ct h):=by
 refine⟨fun j=>?_,fun j=>?_,P.words,P.wi,fun j=>Int.le_refl _,fun _ _=>rfl⟩
 ·rw[show Is h (fun _=>false) j=0 from JU fun i _ hi=>by cases hi];omega
 ·simp;omega
theorem JX (h:List Cell):rowOf h.length (gg h (fun _=>false) (ct h))=h:=by
 refine Eq.trans ?_ (Ic h)
 refine Bd fun j _=>?_
 simp[gg,ct]
theorem DI.int {h:List Cell} {W t:List Int} {w:Int} {fr:Nat→Bool} {cn:Nat→Int} (D:DI h W (t ++ [w]) fr cn) (hw:¬ 1000≤w):DI h W t fr cn:=by
 refine⟨fun j=>?_,D.A2,fun v hv=>D.tw v (List.mem_append_left _ hv),fun v hv=>D.ti v (List.mem_append_left _ hv),D.le,D.ge⟩
 rw[D.CF j,FG,Gq,if_neg (by omega)];omega
theorem DI.RA {h:List Cell} {W t:List Int} {w:Int} {fr:Nat→Bool} {cn:Nat→Int} (P:IB h W) (D:DI h W (t ++ [w]) fr cn) (hw:1000≤w) :
  0 < ct h (w - 1000).toNat∧(w - 1000).toNat < h.length∧1≤cn (w - 1000).toNat∧fr (w - 1000).toNat=false:=by
 have h1:=D.tw w (by simp) hw
 have h2:=D.CF (w - 1000).toNat
 have h3:=P.CF _ h1
 have h4:Is h fr (w - 1000).toNat≤Em h (w - 1000).toNat:=Ml fun _ _ _=>rfl
 have h5:pc (t ++ [w]) (w - 1000).toNat=pc t (w - 1000).toNat+1:=by rw[FG,Gq,if_pos (by omega)]
 have h6:1≤cn (w - 1000).toNat:=by rw[h5] at h2;omega
 refine⟨h1,G6 (by omega),h6,?_⟩
 cases hf:fr (w - 1000).toNat with
 | false=>rfl
 | true=>have:=((D.A2 _).1 hf).2;omega
theorem DI.dec {h:List Cell} {W t:List Int} {w:Int} {fr:Nat→Bool} {cn:Nat→Int} (P:IB h W) (D:DI h W (t ++ [w]) fr cn) (hw:1000≤w) (hc:cn (w - 1000).toNat - 1≠0) :
  DI h W t fr (fun k=>if k=(w - 1000).toNat then cn k - 1 else cn k):=by
 obtain⟨h1,h2,h3,h4⟩:=D.RA P hw
 refine⟨fun j=>?_,fun j=>?_,fun v hv=>D.tw v (List.mem_append_left _ hv),fun v hv=>D.ti v (List.mem_append_left _ hv),fun j=>?_,fun j hj=>?_⟩
 ·have:=D.CF j
  rw[FG,Gq] at this
  by_cases e:j=(w - 1000).toNat
  ·rw[if_pos (by omega)] at this
   simp only[e,if_true]
   rw[← e];omega
  ·rw[if_neg (by omega)] at this
   simp only[e,if_false];omega
 ·rw[D.A2 j]
  by_cases e:j=(w - 1000).toNat
  ·simp only[e,if_true];omega
  ·simp only[e,if_false]
 ·have:=D.le j
  show (if j=(w - 1000).toNat then cn j - 1 else cn j)≤_
  split <;> omega
 ·have:=D.ge j hj
  by_cases e:j=(w - 1000).toNat
  ·subst e;omega
  ·simp only[e,if_false];exact this
theorem DI.Se {h:List Cell} {W t:List Int} {w:Int} {fr:Nat→Bool} {cn:Nat→Int} (P:IB h W) (D:DI h W (t ++ [w]) fr cn) (hw:1000≤w) (hc:cn (w - 1000).toNat - 1=0) :
  DI h W (t ++ fl h (w - 1000).toNat) (fun k=>if k=(w - 1000).toNat then true else fr k) (fun k=>if k=(w - 1000).toNat then cn k - 1 else cn k):=by
 obtain⟨h1,h2,h3,h4⟩:=D.RA P hw
 refine⟨fun j=>?_,fun j=>?_,fun v hv=>?_,fun v hv=>?_,fun j=>?_,fun j hj=>?_⟩
 ·have:=D.CF j
  have e1:Is h (fun k=>if k=(w - 1000).toNat then true else fr k) j=Is h fr j+pc (fl h (w - 1000).toNat) j:=OD h2 h4
  rw[FG,Gq] at this
  rw[e1,FG]
  by_cases e:j=(w - 1000).toNat
  ·rw[if_pos (by omega)] at this
   simp only[e,if_true]
   rw[← e];omega
  ·rw[if_neg (by omega)] at this
   simp only[e,if_false];omega
 ·by_cases e:j=(w - 1000).toNat
  ·subst e;simp only[if_true];simp;omega
  ·simp only[e,if_false];exact D.A2 j
 ·rcases List.mem_append.1 hv with hv | hv
  ·exact D.tw v (List.mem_append_left _ hv)
  ·exact P.fields _ v hv
 ·rcases List.mem_append.1 hv with hv | hv
  ·exact D.ti v (List.mem_append_left _ hv)
  ·exact P.hp.RL _ v hv
 ·have:=D.le j
  show (if j=(w - 1000).toNat then cn j - 1 else cn j)≤_
  split <;> omega
 ·have:=D.ge j hj
  by_cases e:j=(w - 1000).toNat
  ·subst e;omega
  ·simp only[e,if_false];exact this
def IA (h:List Cell) (fr:Nat→Bool):Nat→Nat
 | 0=>0
 | n+1=>IA h fr n+if fr n then 0 else (fl h n).length
theorem OQ {h:List Cell} {p q:Nat→Bool} {n:Nat} (e :∀i,i < n→p i=q i):IA h p n=IA h q n:=by
 induction n with
 | zero=>rfl
 | succ n ih=>unfold IA;rw[ih fun i hi=>e i (by omega),e n (by omega)]
theorem Nw {h:List Cell} {p:Nat→Bool} {n x:Nat} (hx:x < n) (hp:p x=false):IA h p n=IA h (fun k=>if k=x then true else p k) n+(fl h x).length:=by
 induction n with
 | zero=>omega
 | succ n ih=>
  unfold IA
  by_cases e:x=n
  ·subst e
   rw[OQ (p:=fun k=>if k=x then true else p k) (q:=p) (n:=x) (fun i hi=>by
    have:¬ i=x:=by omega
    simp[this])]
   simp[hp]
  ·have e':¬ n=x:=fun h=>e h.symm
   rw[ih (by omega)]
   simp only[e',if_false]
   omega
theorem PO (h:List Cell) (p:Nat→Bool):IA h p h.length≤CU h:=by
 have key :∀n,n≤h.length→IA h p n≤CU (h.take n):=by
  intro n
  induction n with
  | zero=>intro _;simp[IA]
  | succ n ih=>
   intro hn
   have h1:=ih (by omega)
   have hc:=Cq (h:=h) (j:=n) (by omega)
   unfold IA
   rw[Fq hc,EM,B1]
   have:CU [cat h n]=(cat h n).fields.length:=by simp[CU]
   split <;> omega
 have:=key h.length (Nat.le_refl _)
 rwa [List.take_length] at this
theorem Np {t:List Int} {w:Int} (hl:t.length≤4000000):Sh.get (t ++ [w]) (Sh.w (Sh.len (t ++ [w]) - 1))=some w:=by
 rw[Ac,List.length_append]
 have e:(((t.length + [w].length:Nat):Int) - 1)=(t.length:Int):=by simp
 rw[e,A0 (by omega) (by omega),Kk];simp
theorem O7 {t:List Int} {w:Int} (hl:t.length≤4000000):Sh.hi (t ++ [w]) (Sh.w (Sh.len (t ++ [w]) - 1))=some t:=by
 rw[Ac,List.length_append]
 have e:(((t.length + [w].length:Nat):Int) - 1)=(t.length:Int):=by simp
 rw[e,A0 (by omega) (by omega),KK (by simp)];simp
theorem N4 {t:List Int} {w:Int}:decide (0 < Sh.len (t ++ [w]))=true:=by rw[Ac,List.length_append];simp
theorem Qa {h:List Cell} {fr:Nat→Bool} {cn:Nat→Int} {w:Int} (hw:1000≤w) (hwi:Dz w) (hj:(w - 1000).toNat < h.length) (hf:fr (w - 1000).toNat=false) :
  Sh.get (rowOf h.length (gg h fr cn)) (Sh.w (w - 1000))=some ⟨cn (w - 1000).toNat,(cat h (w - 1000).toNat).tag,(cat h (w - 1000).toNat).fields⟩:=by
 obtain⟨w1,w2⟩:=hwi
 rw[A0 (by omega) (by omega),C7 (by omega),Bw hj]
 simp[gg,hf]
theorem Ix {n:Nat} {f:Nat→Cell} {w:Int} {c:Cell} (hw:1000≤w) (hwi:Dz w):Sh.put (rowOf n f) (Sh.w (w - 1000)) c=rowOf n (fun k=>if k=(w - 1000).toNat then c else f k):=by
 obtain⟨w1,w2⟩:=hwi
 rw[A0 (by omega) (by omega)]
 unfold Sh.put;rw[FC]
theorem OG {n:Nat} {f:Nat→Cell} {w:Int} (hw:1000≤w) (hwi:Dz w) (hj:(w - 1000).toNat < n):Sh.get (rowOf n f) (Sh.w (w - 1000))=some (f (w - 1000).toNat):=by
 obtain⟨w1,w2⟩:=hwi
 rw[A0 (by omega) (by omega),C7 (by omega),Bw hj]
theorem O5 {h:List Cell} {fr:Nat→Bool} {cn:Nat→Int} {x n:Nat} (hf:fr x=false) :
  rowOf n (fun k=>if k=x then (⟨cn x - 1,(cat h x).tag,(cat h x).fields⟩:Cell) else gg h fr cn k)=rowOf n (gg h fr (fun k=>if k=x then cn k - 1 else cn k)):=
 Bd fun j _=>by
  by_cases e:j=x
  ·subst e;simp[gg,hf]
  ·simp[gg,e]
theorem PJ {h:List Cell} {fr:Nat→Bool} {cn:Nat→Int} {x n:Nat} {c:Cell} :
  rowOf n (fun k=>if k=x then (⟨0,0,[]⟩:Cell) else if k=x then c else gg h fr cn k)=rowOf n (gg h (fun k=>if k=x then true else fr k) (fun k=>if k=x then cn k - 1 else cn k)):=
 Bd fun j _=>by
  by_cases e:j=x
  ·subst e;simp[gg]
  ·simp[gg,e]
theorem Lr {h:List Cell} {W:List Int} (P:IB h W) :∀(d N:Nat) (t:List Int) (fr:Nat→Bool) (cn:Nat→Int),DI h W t fr cn→t.length+IA h fr h.length≤d→d≤2000000→d < N→
  ∃fr' cn',DI h W [] fr' cn'∧BO N (rowOf h.length (gg h fr cn)) t=some (rowOf h.length (gg h fr' cn')):=by
 intro d
 induction d with
 | zero=>
  intro N t fr cn D hd _ hN
  obtain⟨N',rfl⟩ :∃N',N=N' + 1:=⟨N - 1,by omega⟩
  have:t=[]:=List.eq_nil_of_length_eq_zero (by omega)
  subst this
  exact⟨fr,cn,D,by rw[BO,if_neg (by simp[Ac])]⟩
 | succ d ih=>
  intro N t fr cn D hd hd2 hN
  obtain⟨N',rfl⟩ :∃N',N=N' + 1:=⟨N - 1,by omega⟩
  rcases List.eq_nil_or_concat t with rfl | ⟨t',w,rfl⟩
  ·exact⟨fr,cn,D,by rw[BO,if_neg (by simp[Ac])]⟩
  ·rw[List.concat_eq_append] at D hd ⊢
   have hl:t'.length≤4000000:=by rw[List.length_append] at hd;omega
   have hwi:=D.ti w (by simp)
   rw[BO,if_pos N4,Np hl,O7 hl]
   simp only[Option.bind_some,BL]
   by_cases hw:1000≤w
   ·obtain⟨h1,h2,h3,h4⟩:=D.RA P hw
    have hci:=P.hp.PC (w - 1000).toNat
    have hle:=D.le (w - 1000).toNat
    obtain⟨c1,c2⟩:=hci
    rw[if_pos (by simpa using hw),Qa hw hwi h2 h4]
    simp only[Option.bind_some]
    rw[Ix hw hwi,A0 (n:=cn (w - 1000).toNat - 1) (by omega) (by omega),OG hw hwi h2]
    simp only[Option.bind_some,if_true]
    by_cases hc:cn (w - 1000).toNat - 1=0
    ·rw[if_pos (by simpa using hc),EO _ _ 8 (by
       have:=P.hp.HM (DM h2);omega) (by have:=P.hp.HM (DM h2);omega)]
     simp only[Option.bind_some]
     rw[Ix hw hwi,PJ,← B1]
     refine ih N' _ _ _ (D.Se P hw hc) ?_ (by omega) (by omega)
     have:=Nw h2 h4 (h:=h)
     rw[List.length_append] at hd ⊢
     simp only[List.length_cons,List.length_nil] at hd
     omega
    ·rw[if_neg (by simpa using hc),O5 h4]
     refine ih N' _ _ _ (D.dec P hw hc) ?_ (by omega) (by omega)
     rw[List.length_append] at hd
     simp only[List.length_cons,List.length_nil] at hd
     omega
   ·rw[if_neg (by simpa using hw)]
    refine ih N' _ _ _ (D.int hw) ?_ (by omega) (by omega)
    rw[List.length_append] at hd
    simp only[List.length_cons,List.length_nil] at hd
    omega
theorem Qv {h:List Cell} {fr:Nat→Bool} {cn:Nat→Int} {j:Nat} (hj:j < h.length) (hf:fr j=false):Cs (rowOf h.length (gg h fr cn)) (1000+(j:Int))=decide (0 < cn j):=by
 rw[Gb]
 unfold ct
 rw[Ih hj];simp[gg,hf]
theorem Li {h:List Cell} {W:List Int} (P:IB h W) :∀(d N:Nat) (t:List Int) (fr:Nat→Bool) (cn:Nat→Int),DI h W t fr cn→t.length+IA h fr h.length≤d→d≤2000000→d < N→
  ∃fr' cn',DI h W [] fr' cn'∧B9 N (rowOf h.length (gg h fr cn)) t=some (rowOf h.length (gg h fr' cn')):=by
 intro d
 induction d with
 | zero=>
  intro N t fr cn D hd _ hN
  obtain⟨N',rfl⟩ :∃N',N=N' + 1:=⟨N - 1,by omega⟩
  have:t=[]:=List.eq_nil_of_length_eq_zero (by omega)
  subst this
  exact⟨fr,cn,D,by rw[B9,if_neg (by simp[Ac])]⟩
 | succ d ih=>
  intro N t fr cn D hd hd2 hN
  obtain⟨N',rfl⟩ :∃N',N=N' + 1:=⟨N - 1,by omega⟩
  rcases List.eq_nil_or_concat t with rfl | ⟨t',w,rfl⟩
  ·exact⟨fr,cn,D,by rw[B9,if_neg (by simp[Ac])]⟩
  ·rw[List.concat_eq_append] at D hd ⊢
   have hl:t'.length≤4000000:=by rw[List.length_append] at hd;omega
   have hwi:=D.ti w (by simp)
   have hlen:=P.hp.len
   rw[B9,if_pos N4,Np hl,O7 hl]
   simp only[Option.bind_some]
   rw[Fk (by rw[CX];exact hlen) hwi]
   simp only[Option.bind_some]
   by_cases hw:1000≤w
   ·obtain⟨h1,h2,h3,h4⟩:=D.RA P hw
    have hci:=P.hp.PC (w - 1000).toNat
    have hle:=D.le (w - 1000).toNat
    obtain⟨c1,c2⟩:=hci
    have hlv:Cs (rowOf h.length (gg h fr cn)) w=true:=by rw[H6 hw,Qv h2 h4];simp;omega
    rw[hlv,if_neg (by simp),Qa hw hwi h2 h4]
    simp only[Option.bind_some]
    rw[Ix hw hwi,A0 (n:=cn (w - 1000).toNat - 1) (by omega) (by omega),OG hw hwi h2]
    simp only[Option.bind_some,if_true]
    by_cases hc:cn (w - 1000).toNat - 1=0
    ·rw[if_pos (by simpa using hc),EO _ _ 8 (by
       have:=P.hp.HM (DM h2);omega) (by have:=P.hp.HM (DM h2);omega)]
     simp only[Option.bind_some]
     rw[Ix hw hwi,PJ,← B1]
     refine ih N' _ _ _ (D.Se P hw hc) ?_ (by omega) (by omega)
     have:=Nw h2 h4 (h:=h)
     rw[List.length_append] at hd ⊢
     simp only[List.length_cons,List.length_nil] at hd
     omega
    ·rw[if_neg (by simpa using hc),O5 h4]
     refine ih N' _ _ _ (D.dec P hw hc) ?_ (by omega) (by omega)
     rw[List.length_append] at hd
     simp only[List.length_cons,List.length_nil] at hd
     omega
   ·rw[En hw,if_pos (by simp)]
    refine ih N' _ _ _ (D.int hw) ?_ (by omega) (by omega)
    rw[List.length_append] at hd
    simp only[List.length_cons,List.length_nil] at hd
    omega
def Dr (h:List Cell) (W:List Int) (g:List Cell):Prop:=∃fr cn,DI h W [] fr cn∧g=Ke (rowOf h.length (gg h fr cn))
theorem DI.dead {h:List Cell} {W t:List Int} {fr:Nat→Bool} {cn:Nat→Int} (D:DI h W t fr cn) {j:Nat} (hj:¬ 0 < ct h j):fr j=false:=by
 cases hf:fr j with
 | false=>rfl
 | true=>exact absurd ((D.A2 j).1 hf).1 hj
theorem DI.unique {h:List Cell} {W:List Int} {fr fr':Nat→Bool} {cn cn':Nat→Int} (rk:Nat→Nat) (hrk :∀i j,0 < ct h j→0 < pc (fl h i) j→rk j < rk i) (D:DI h W [] fr cn) (D':DI h W [] fr' cn') :∀j,fr j=fr' j∧cn j=cn' j:=by
 obtain⟨B,hB⟩:=L6 rk h.length
 have key :∀d j,B - rk j=d→j < h.length→fr j=fr' j∧cn j=cn' j:=by
  intro d
  induction d using Nat.strongRecOn with
  | _ d ih=>
   intro j hd hj
   by_cases hl:0 < ct h j
   ·have e:Is h fr j=Is h fr' j:=Ek fun i hi=>by
     by_cases hp:0 < pc (fl h i) j
     ·have h1:=hrk i j hl hp
      have h2:=hB i hi
      rw[(ih (B - rk i) (by omega) i rfl hi).1]
     ·have:pc (fl h i) j=0:=by omega
      simp[this]
    have hc:cn j=cn' j:=by rw[D.CF,D'.CF,e]
    refine⟨?_,hc⟩
    have h1:=D.A2 j
    have h2:=D'.A2 j
    rw[hc] at h1
    cases hf:fr j <;> cases hf':fr' j <;> simp_all
   ·exact⟨by rw[D.dead hl,D'.dead hl],by rw[D.ge j (by omega),D'.ge j (by omega)]⟩
 intro j
 by_cases hj:j < h.length
 ·exact key _ j rfl hj
 ·have h0:ct h j=0:=by unfold ct;rw[Co (by omega)]
  exact⟨by rw[D.dead (by omega),D'.dead (by omega)],by rw[D.ge j (by omega),D'.ge j (by omega)]⟩
theorem Dr.unique {h:List Cell} {W:List Int} {g g':List Cell} (rk:Nat→Nat) (hrk :∀i j,0 < ct h j→0 < pc (fl h i) j→rk j < rk i) (D:Dr h W g) (D':Dr h W g'):g=g':=by
 obtain⟨fr,cn,h1,rfl⟩:=D
 obtain⟨fr',cn',h2,rfl⟩:=D'
 have e:=h1.unique rk hrk h2
 have e1:fr=fr':=funext fun j=>(e j).1
 have e2:cn=cn':=funext fun j=>(e j).2
 rw[e1,e2]
theorem Fm {h:List Cell} {W:List Int} (P:IB h W) (hW:W.length≤900000) {N:Nat} (hN:2000000≤N) :∃g,Dq N h W=some g∧Dr h W g:=by
 have hf:=PO h (fun _=>false)
 have hs:=P.hp.size
 unfold Bs at hs
 obtain⟨fr,cn,D,e⟩:=Lr P (W.length+IA h (fun _=>false) h.length) N W _ _ (Jr P) (Nat.le_refl _) (by omega) (by omega)
 rw[JX] at e
 refine⟨_,?_,fr,cn,D,rfl⟩
 unfold Dq
 rw[Ew (by omega)]
 simp only[Option.bind_some]
 rw[e]
 simp only[Option.bind_some]
 rw[L1 (by rw[CX];omega) hN];rfl
theorem LZ {h:List Cell} {w:Int} (P:IB h [w]) {N:Nat} (hN:2000000≤N) :∃g,FW N h w=some g∧Dr h [w] g:=by
 have hf:=PO h (fun _=>false)
 have hs:=P.hp.size
 unfold Bs at hs
 obtain⟨fr,cn,D,e⟩:=Li P ([w].length+IA h (fun _=>false) h.length) N [w] _ _ (Jr P) (Nat.le_refl _) (by simp;omega) (by simp;omega)
 rw[JX] at e
 refine⟨_,?_,fr,cn,D,rfl⟩
 unfold FW
 rw[e]
 simp only[Option.bind_some]
 rw[Ll (by rw[CX];omega) hN];rfl
end RC



namespace RC
open Go
theorem El (h:List Cell) (c:Cell):E1 h c=true↔c.fields.length≤3∧-1≤c.count∧c.count≤999999∧(c.count < 1→c.tag=0∧(∀w∈c.fields,w=0)∧(c.count < 0∨c.fields=[]))∧(1≤c.count→(∀w∈c.fields,CE h w=true)∧0≤c.tag∧c.tag≤99):=by
 unfold E1 Fz
 by_cases h1:c.count < 1
 ·have h2:¬ 1≤c.count:=by omega
  simp only[h1,if_true,h2,false_imp_iff,and_true,Bool.and_eq_true,Bool.not_eq_true',Bool.or_eq_false_iff,decide_eq_false_iff_not,decide_eq_true_eq,Bool.or_eq_true,Bool.not_eq_false',List.all_eq_true,forall_const]
  constructor
  ·rintro⟨⟨a,b,d⟩,⟨e,f⟩,g⟩
   refine⟨by omega,b,d,e,f,g.imp id fun g=>List.eq_nil_of_length_eq_zero (by omega)⟩
  ·rintro⟨a,b,d,e,f,g⟩
   exact⟨⟨by omega,b,d⟩,⟨e,f⟩,g.imp id fun g=>by simp[g]⟩
 ·have h2:1≤c.count:=by omega
  simp only[h1,if_false,h2,forall_const,false_imp_iff,true_and,Bool.and_eq_true,Bool.not_eq_true',Bool.or_eq_false_iff,decide_eq_false_iff_not,decide_eq_true_eq,Bool.not_eq_false',List.all_eq_true]
  constructor
  ·rintro⟨⟨a,b,d⟩,e,f,g⟩
   exact⟨by omega,b,d,e,f,g⟩
  ·rintro⟨a,b,d,e,f,g⟩
   exact⟨⟨by omega,b,d⟩,e,f,g⟩
theorem EH {h:List Cell} {w:Int} (hw:1000≤w):CE h w=decide (0 < ct h (w - 1000).toNat):=by
 unfold CE Hm
 have e:decide (w≤999)=false:=by simp;omega
 rw[e,Bool.and_false,Bool.or_false]
 have:=Gb (h:=h) (j:=(w - 1000).toNat)
 rwa [← H6 hw] at this
theorem GA {h:List Cell} {w:Int} (hw:¬ 1000≤w):CE h w=decide (-999≤w):=by
 unfold CE Hm
 have e:decide (w≤999)=true:=by simp;omega
 rw[En hw,e,Bool.and_true,Bool.false_or]
theorem VH.cell {h:List Cell} (V:VH h) (j:Nat):E1 h (cat h j)=true:=by
 by_cases hj:j < h.length
 ·exact V.cells _ (DM hj)
 ·rw[Co (by omega),El];simp
theorem VH.fields {h:List Cell} (V:VH h) :∀i,∀w∈fl h i,1000≤w→0 < ct h (w - 1000).toNat:=fun i w hw h1=>by
 rw[B1] at hw
 obtain⟨_,_,_,a,b⟩:=(El _ _).1 (V.cell i)
 by_cases hc:(cat h i).count < 1
 ·have:=(a hc).2.1 w hw;omega
 ·have:=(b (by omega)).1 w hw
  rw[EH h1] at this;simpa using this
theorem VH.zr {h:List Cell} (V:VH h):Zr h:=fun j hj=>by
 obtain⟨_,_,_,a,_⟩:=(El _ _).1 (V.cell j)
 unfold ct at hj
 obtain⟨h1,_,h3⟩:=a (by omega)
 rcases h3 with h3 | h3
 ·omega
 ·generalize cat h j=c at *
  obtain⟨c1,c2,c3⟩:=c
  simp only at hj h1 h3
  subst hj;subst h1;subst h3;rfl
theorem VH.CF {h:List Cell} (V:VH h) {j:Nat} (hj:0 < ct h j):(Em h j:Int)≤ct h j:=by
 have hl:j < h.length:=G6 (by omega)
 have:=V.counts j hl
 unfold Ko at this
 rw[Cq hl] at this
 simp only at this
 rw[Hj,if_pos hj] at this
 have h2:decide (0 < (cat h j).count)=true:=decide_eq_true (show 0 < (cat h j).count from hj)
 rw[h2] at this
 simp at this
 exact this
theorem VH.rk {h:List Cell} (V:VH h) :∃rk:Nat→Nat,∀i j,0 < ct h j→0 < pc (fl h i) j→rk j < rk i:=by
 obtain⟨rk,h1⟩:=V.NJ
 refine⟨rk,fun i j hj hp=>h1 i j ?_⟩
 have hm:=Gw.1 hp
 have hi:i < h.length:=by
  by_cases hi:i < h.length
  ·exact hi
  ·rw[B1,Co (by omega)] at hm;cases hm
 refine⟨cat h i,_,Cq hi,by rwa [B1] at hm,by rw[Gb];simpa using hj,by omega⟩
theorem VH.of {h:List Cell} (h1:DH h=false) (h2 :∀j,j < h.length→E1 h (cat h j)=true) (h3 :∀j,0 < ct h j→(Em h j:Int)≤ct h j) (rk:Nat→Nat) (h4 :∀i j,0 < ct h j→0 < pc (fl h i) j→rk j < rk i):VH h:=by
 refine⟨h1,fun c hc=>?_,fun j hj=>?_,rk,fun i j ⟨c,w,a1,a2,a3,a4⟩=>?_⟩
 ·obtain⟨j,hj⟩:=List.mem_iff_getElem?.1 hc
  have hl:=(List.getElem?_eq_some_iff.1 hj).1
  have:=h2 j hl
  rwa [Il hj] at this
 ·unfold Ko
  rw[Cq hj]
  simp only
  by_cases hc:0 < ct h j
  ·have:=h3 j hc
   rw[Hj,if_pos hc]
   have e:decide ((cat h j).count < (Em h j:Int))=false:=by simp;exact this
   rw[e];simp
  ·have e:decide (0 < (cat h j).count)=false:=by simpa [ct] using hc
   rw[e];simp
 ·obtain⟨q,c',b1,b2,b3,b4,b5⟩:=EC a3
  have hq:q=j:=by omega
  subst hq
  refine h4 i q (by unfold ct;rw[Il b4];exact b5) (Gw.2 ?_)
  rw[B1,Il a1,← b1];exact a2
theorem Hp.Rv {h:List Cell} {w:Int} (hl:h.length≤1048576) (hw:CE h w=true):Dz w:=by
 by_cases h1:1000≤w
 ·rw[EH h1] at hw
  have:=G6 (h:=h) (j:=(w - 1000).toNat) (by have:0 < ct h (w - 1000).toNat:=(by simpa using hw);omega)
  exact⟨by omega,by omega⟩
 ·rw[GA h1] at hw
  have:-999≤w:=by simpa using hw
  exact⟨by omega,by omega⟩
theorem IB.of {h:List Cell} {W:List Int} (H:Hp h) (V:VH h) (hw :∀w∈W,CE h w=true) (hc :∀j,0 < ct h j→((pc W j+Em h j:Nat):Int)≤ct h j):IB h W:=
 ⟨H,V.fields,fun w h1 h2=>by have:=hw w h1;rw[EH h2] at this;simpa using this,fun w h1=>Hp.Rv H.len (hw w h1),hc⟩
theorem SI {h:List Cell} {W t:List Int} {fr:Nat→Bool} {cn:Nat→Int} (D:DI h W t fr cn) {j:Nat} (hj:h.length≤j):gg h fr cn j=⟨0,0,[]⟩:=by
 have h0:ct h j=0:=by unfold ct;rw[Co hj]
 unfold gg
 rw[D.dead (by omega),D.ge j (by omega),h0,Co hj];rfl
theorem PN {h:List Cell} {W t:List Int} {fr:Nat→Bool} {cn:Nat→Int} (D:DI h W t fr cn) (j:Nat):cat (rowOf h.length (gg h fr cn)) j=gg h fr cn j:=by
 by_cases hj:j < h.length
 ·exact Ih hj
 ·rw[Co (by rw[CX];omega),SI D (by omega)]
theorem SP {h:List Cell} {W t:List Int} {fr:Nat→Bool} {cn:Nat→Int} (Z:Zr h) (D:DI h W t fr cn):Zr (rowOf h.length (gg h fr cn)):=fun j hj=>by
 unfold ct at hj
 rw[PN D] at hj ⊢
 unfold gg at hj ⊢
 cases hf:fr j with
 | true=>rfl
 | false=>
  rw[hf] at hj
  simp only[Bool.false_eq_true,if_false] at hj ⊢
  have h1:¬ 0 < ct h j:=fun h1=>by have:=(D.A2 j).2 ⟨h1,hj⟩;rw[hf] at this;cases this
  have h2:=D.ge j (by omega)
  rw[hj] at h2
  have h3:=Z j h2.symm
  rw[hj,h3]
theorem Dr.cat {h g:List Cell} {W:List Int} (Z:Zr h) (D:Dr h W g) :∃fr cn,DI h W [] fr cn∧(∀j,cat g j=gg h fr cn j)∧DH g=false∧g.length≤h.length:=by
 obtain⟨fr,cn,D,rfl⟩:=D
 refine⟨fr,cn,D,fun j=>?_,Pm _,?_⟩
 ·rw[Qm (SP Z D),PN D]
 ·rw[LF];exact Nat.le_trans (NL _ _) (by rw[CX];exact Nat.le_refl _)
section
variable {h g : List Cell} {W : List Int} {fr : Nat → Bool} {cn : Nat → Int}
theorem R4 (hg :∀j,cat g j=gg h fr cn j) (j:Nat):ct g j=if fr j then 0 else cn j:=by
 unfold ct;rw[hg];unfold gg;cases fr j <;> rfl
theorem Qs (hg :∀j,cat g j=gg h fr cn j) (j:Nat):fl g j=if fr j then [] else fl h j:=by
 rw[B1,B1,hg];unfold gg;cases fr j <;> rfl
theorem Rh (hg :∀j,cat g j=gg h fr cn j) (hl:g.length≤h.length) (j:Nat):Em g j+Is h fr j=Em h j:=by
 have e1:Em g j=DO g (fun _=>true) j h.length:=by
  have:=Pp (h:=g) (p:=fun _=>true) (j:=j) (n:=g.length) (m:=h.length - g.length) (Nat.le_refl _)
  rw[show g.length+(h.length - g.length)=h.length by omega] at this
  exact this.symm
 have e2:DO g (fun _=>true) j h.length=DO h (fun i=>!fr i) j h.length:=Ek fun i _=>by
  rw[Qs hg]
  cases fr i <;> simp[Ed]
 have e3:=Qd (h:=h) (p:=fun i=>!fr i) (q:=fr) (j:=j) (n:=h.length) (fun i _ h1=>by simpa using h1)
 have e4:DO h (fun i=>!fr i || fr i) j h.length=Em h j:=Ek fun i _=>by cases fr i <;> simp
 rw[e1,e2,← e4,e3]
theorem PT (P:IB h W) (D:DI h W [] fr cn) {i j:Nat} (hi:i < h.length) (hf:fr i=false) (hp:0 < pc (fl h i) j):0 < ct h j∧1≤cn j∧fr j=false:=by
 have hm:=Gw.1 hp
 have h1:0 < ct h j:=by
  have:=P.fields i _ hm (by omega)
  rwa [show (1000+(j:Int) - 1000).toNat=j by omega] at this
 have h2:=P.CF j h1
 have h3:=D.CF j
 have h4:Is h (fun k=>if k=i then true else fr k) j=Is h fr j+pc (fl h i) j:=OD hi hf
 have h5:Is h (fun k=>if k=i then true else fr k) j≤Em h j:=Ml fun _ _ _=>rfl
 rw[Ed] at h3
 have h6:1≤cn j:=by omega
 refine⟨h1,h6,?_⟩
 cases hf':fr j with
 | false=>rfl
 | true=>have:=((D.A2 j).1 hf').2;omega
theorem QG (P:IB h W) (D:DI h W [] fr cn) {j:Nat} (hj:0 < ct h j):(Em g j:Int) ≥ 0∧(Em h j:Int) - Is h fr j≤cn j:=by
 have h2:=P.CF j hj
 have h3:=D.CF j
 rw[Ed] at h3
 exact⟨by omega,by omega⟩
theorem SJ (P:IB h W) (V:VH h) (D:DI h W [] fr cn) (hg :∀j,cat g j=gg h fr cn j) (hl:DH g=false) (hlen:g.length≤h.length):VH g:=by
 obtain⟨rk,hrk⟩:=V.rk
 have hct:=R4 hg
 have hfl:=Qs hg
 refine VH.of hl (fun j hj=>?_) (fun j hj=>?_) rk fun i j hj hp=>?_
 ·rw[El,hg]
  unfold gg
  obtain⟨a1,a2,a3,a4,a5⟩:=(El _ _).1 (V.cell j)
  cases hf:fr j with
  | true=>simp
  | false=>
   simp only[Bool.false_eq_true,if_false]
   by_cases h1:0 < ct h j
   ·have h2:=QG (g:=g) P D h1
    have h3:=D.le j
    have h4:cn j≠0:=fun h4=>by have:=(D.A2 j).2 ⟨h1,h4⟩;rw[hf] at this;cases this
    have h5:Is h fr j≤Em h j:=Ml fun _ _ _=>rfl
    have h6:1≤cn j:=by omega
    obtain⟨b1,b2,b3⟩:=a5 (by unfold ct at h1;omega)
    refine⟨a1,by omega,by unfold ct at h3;omega,fun h=>by omega,fun _=>⟨fun w hw=>?_,b2,b3⟩⟩
    by_cases hw1:1000≤w
    ·have hp:0 < pc (fl h j) (w - 1000).toNat:=Gw.2 (by rw[B1,← H6 hw1];exact hw)
     obtain⟨_,c2,c3⟩:=PT P D (G6 (by omega)) hf hp
     rw[EH hw1,hct,c3];simp;omega
    ·rw[GA hw1]
     have:=b1 w hw
     rwa [GA hw1] at this
   ·rw[D.ge j (by omega)]
    refine⟨a1,a2,a3,a4,fun h=>absurd h (by unfold ct at h1 ⊢;omega)⟩
 ·rw[hct] at hj ⊢
  cases hf:fr j with
  | true=>rw[hf] at hj;simp at hj
  | false=>
   rw[hf] at hj
   simp only[Bool.false_eq_true,if_false] at hj ⊢
   have h1:0 < ct h j:=by have:=D.le j;omega
   have h2:=QG (g:=g) P D h1
   have h3:=Rh hg hlen j
   omega
 ·rw[hfl] at hp
  cases hf:fr i with
  | true=>rw[hf] at hp;simp[Ed] at hp
  | false=>
   rw[hf] at hp
   simp only[Bool.false_eq_true,if_false] at hp
   have hi:i < h.length:=by
    by_cases hi:i < h.length
    ·exact hi
    ·rw[B1,Co (by omega)] at hp;simp[Ed] at hp
   exact hrk i j (PT P D hi hf hp).1 hp
end
theorem Dr.VH {h g:List Cell} {W:List Int} (P:IB h W) (V:VH h) (D:Dr h W g):VH g:=by
 obtain⟨fr,cn,D,h1,h2,h3⟩:=D.cat V.zr
 exact SJ P V D h1 h2 h3
theorem Dr.same {h g g':List Cell} {W:List Int} (V:RC.VH h) (D:Dr h W g) (D':Dr h W g'):g=g':=by
 obtain⟨rk,hrk⟩:=V.rk
 exact Dr.unique rk hrk D D'
theorem Dr.len {h g:List Cell} {W:List Int} (Z:Zr h) (D:Dr h W g):g.length≤h.length:=by
 obtain⟨_,_,_,_,_,h3⟩:=D.cat Z;exact h3
theorem Dr.ints {h:List Cell} {W:List Int} (V:RC.VH h) (hw :∀w∈W,¬ 1000≤w):Dr h W h:=by
 refine⟨fun _=>false,ct h,⟨fun j=>?_,fun j=>?_,(fun w hw=>absurd hw (List.not_mem_nil)),(fun w hw=>absurd hw (List.not_mem_nil)),fun j=>Int.le_refl _,fun _ _=>rfl⟩,?_⟩
 ·have e0:Is h (fun _=>false) j=0:=JU fun i _ hi=>absurd hi (by simp)
  have e1:=Ed j
  have:pc W j=0:=by
   unfold pc
   rw[List.countP_eq_zero]
   intro w h1
   have:=hw w h1
   simp;omega
  omega
 ·simp;omega
 ·rw[JX,RS V.last]
theorem PW {h:List Cell} {w:Int} (hw:1000≤w) (hwi:Dz w) (hj:(w - 1000).toNat < h.length):Sh.get (refs h) (Sh.w (w - 1000))=some (Cj h h (w - 1000).toNat:Int):=by
 obtain⟨w1,w2⟩:=hwi
 unfold refs
 rw[A0 (by omega) (by omega),C7 (by omega),Bw hj]
theorem N1 {h:List Cell} {w:Int} (hw:1000≤w) (hwi:Dz w) (hj:(w - 1000).toNat < h.length):Sh.get h (Sh.w (w - 1000))=some (cat h (w - 1000).toNat):=by
 obtain⟨w1,w2⟩:=hwi
 rw[A0 (by omega) (by omega),C7 (by omega),Cq hj]
def Fx (h:List Cell) (w:Int):Prop:=VH h∧CE h w=true∧(1000≤w→(Em h (w - 1000).toNat:Int) < ct h (w - 1000).toNat)
theorem Fx.pre {h:List Cell} {w:Int} (H:Hp h) (M:Fx h w):IB h [w]:=by
 obtain⟨V,h1,h2⟩:=M
 refine IB.of H V (fun v hv=>by rw[List.mem_singleton] at hv;subst hv;exact h1) fun j hj=>?_
 rw[Gq]
 have h3:=V.CF hj
 split
 ·rename_i e
  have h4:=h2 (by omega)
  rw[e,show (1000+(j:Int) - 1000).toNat=j by omega] at h4
  omega
 ·omega
theorem KH {h:List Cell} {w:Int} (H:Hp h) (hw:Dz w) {N:Nat} (hN:2000000≤N) :∃g b,D9 N h w=some (g,b)∧Ht N h w=some (g,b)∧(b=true↔Fx h w)∧(b=true→Dr h [w] g)∧(b=false→g=[]):=by
 have hl:=H.len
 obtain⟨b,r,h1,_,h2,_,h3,h4⟩:=GG H hN
 unfold D9 Ht
 rw[h1,h2]
 simp only[Option.bind_some]
 cases b with
 | false=>exact⟨[],false,by simp,by simp,by simp[Fx];intro hv;exact absurd (h3.2 hv) (by simp),by simp,by simp⟩
 | true=>
  obtain rfl:=h4 rfl
  have V:=h3.1 rfl
  rw[G9 hl hw,IH hl hw]
  simp only[Option.bind_some,Bool.not_true,Bool.false_eq_true,if_false]
  cases hword:CE h w with
  | false=>exact⟨[],false,by simp,by simp,by simp[Fx,hword],by simp,by simp⟩
  | true=>
   simp only[Bool.not_true,Bool.false_eq_true,if_false]
   rw[Ff H hN,IE H hN,Fk hl hw,Fs H hN]
   simp only[Option.bind_some,BL]
   by_cases hp:1000≤w
   ·have hlv:0 < ct h (w - 1000).toNat:=by have:=hword;rw[EH hp] at this;simpa using this
    have hj:(w - 1000).toNat < h.length:=G6 (by omega)
    have hlw:Cs h w=true:=by rw[H6 hp,Gb];simpa using hlv
    rw[if_pos (by simpa using hp),hlw,N1 hp hw hj,PW hp hw hj,Hj,if_pos hlv]
    simp only[Option.bind_some,if_true]
    by_cases he:(cat h (w - 1000).toNat).count=(Em h (w - 1000).toNat:Int)
    ·refine⟨[],false,by simp[he],by simp[he],?_,by simp,by simp⟩
     simp only[Bool.false_eq_true,false_iff]
     intro M
     have:=M.2.2 hp
     unfold ct at this;omega
    ·have M:Fx h w:=⟨V,hword,fun _=>by have:=V.CF hlv;unfold ct at this ⊢;omega⟩
     have P:=M.pre H
     obtain⟨g,e1,D1⟩:=Fm P (by simp) hN
     obtain⟨g',e2,D2⟩:=LZ P hN
     obtain rfl:=D1.same V D2
     refine⟨g,true,by simp[he,e1],by simp[he,e2],by simp[M],fun _=>D1,by simp⟩
   ·have hlw:Cs h w=false:=En hp
    have M:Fx h w:=⟨V,hword,fun h1=>absurd h1 hp⟩
    have P:=M.pre H
    obtain⟨g,e1,D1⟩:=Fm P (by simp) hN
    have e:g=h:=D1.same V (Dr.ints V fun v hv=>by rw[List.mem_singleton] at hv;subst hv;exact hp)
    subst e
    refine⟨g,true,?_,?_,by simp[M],fun _=>D1,by simp⟩
    ·rw[if_neg (by simpa using hp)];simp[e1]
    ·rw[hlw];simp
end RC



namespace RC
open Go
theorem G7 {h:List Cell} {j:Nat} {c:Cell} (hj:j < h.length) (k:Nat):cat (h.set j c) k=if k=j then c else cat h k:=by
 unfold cat
 rw[List.getElem?_set]
 by_cases e:k=j
 ·subst e;simp[hj]
 ·have e':¬ j=k:=fun h=>e h.symm
  simp[e,e']
theorem Qp {h:List Cell} {c:Cell} (k:Nat):cat (h ++ [c]) k=if k=h.length then c else cat h k:=by
 unfold cat
 by_cases e:k=h.length
 ·subst e;simp
 ·rw[if_neg e]
  by_cases h1:k < h.length
  ·rw[List.getElem?_append_left h1]
  ·rw[List.getElem?_append_right (by omega),List.getElem?_eq_none (by simp;omega),List.getElem?_eq_none (by omega)]
theorem P3 {h:List Cell} {j:Nat} {c:Cell} (hj:j < h.length):CU (h.set j c) + (fl h j).length=CU h+c.fields.length:=by
 have e1:h=h.take j ++ cat h j :: h.drop (j+1):=by
  have:=drop_cons (Cq hj)
  rw[← this,List.take_append_drop]
 have e2:h.set j c=h.take j ++ c :: h.drop (j+1):=by rw[List.set_eq_take_append_cons_drop,if_pos hj]
 have e3:CU h=CU (h.take j) + ((cat h j).fields.length+CU (h.drop (j+1))):=by
  conv=>lhs;rw[e1]
  rw[EM];simp[CU]
 rw[e2,EM,B1]
 have e4:CU (c :: h.drop (j+1))=c.fields.length+CU (h.drop (j+1)):=by simp[CU]
 rw[e4];omega
def fst (h:List Cell):Nat→Nat→Nat
 | 0,i=>i
 | k+1,i=>if ct h i=0 then i else fst h k (i+1)
def ff (h:List Cell):Nat:=fst h h.length 0
theorem Pd (h:List Cell) :∀k i,i≤fst h k i∧fst h k i≤i+k∧(∀j,i≤j→j < fst h k i→ct h j≠0)∧(fst h k i < i+k→ct h (fst h k i)=0):=by
 intro k
 induction k with
 | zero=>intro i;exact⟨Nat.le_refl _,Nat.le_refl _,fun j h1 h2=>by simp only[fst] at h2;omega,fun h=>by simp only[fst] at h;omega⟩
 | succ k ih=>
  intro i
  unfold fst
  split
  ·rename_i h0
   exact⟨Nat.le_refl _,by omega,fun j h1 h2=>by omega,fun _=>h0⟩
  ·rename_i h0
   obtain⟨a,b,c,d⟩:=ih (i+1)
   refine⟨by omega,by omega,fun j h1 h2=>?_,fun h=>d (by omega)⟩
   by_cases e:j=i
   ·subst e;exact h0
   ·exact c j (by omega) h2
theorem Kf (h:List Cell):ff h≤h.length:=by have:=(Pd h h.length 0).2.1;unfold ff;omega
theorem Lv {h:List Cell} (hl:h.length≤1048576) {N i:Nat} (hi:i≤h.length) (hN:h.length - i < N):By h N i=some (if fst h (h.length - i) i < h.length then Sum.inl ((fst h (h.length - i) i:Nat):Int) else Sum.inr ()):=by
 refine BH h.length (fun N i=>By h N i=some (if fst h (h.length - i) i < h.length then Sum.inl ((fst h (h.length - i) i:Nat):Int) else Sum.inr ())) ?_ ?_ hi hN
 ·intro n
  rw[By,if_neg (by simp[Ac])]
  simp[fst]
 ·intro n i hi ih
  rw[By,if_pos (by simp[Ac];omega),BE (Cq hi)]
  simp only[Option.bind_some]
  obtain⟨k,hk⟩ :∃k,h.length - i=k+1:=⟨h.length - i - 1,by omega⟩
  rw[hk]
  unfold fst
  by_cases h0:(cat h i).count=0
  ·rw[if_pos (by simpa using h0),if_pos (show ct h i=0 from h0),if_pos hi]
  ·rw[if_neg (by simpa using h0),if_neg (show ¬ ct h i=0 from h0),A0 (by omega) (by omega),show ((i:Int) + 1)=((i+1:Nat):Int) by omega,ih,show h.length - (i+1)=k by omega]
theorem Lh {h:List Cell} (hl:h.length≤1048576) {N:Nat} (hN:2000000≤N):Dl N h=some ((ff h:Nat):Int):=by
 unfold Dl
 have:=Lv hl (Nat.zero_le _) (by omega:h.length - 0 < N)
 rw[show ((0:Nat):Int)=0 from rfl,Nat.sub_zero] at this
 rw[this]
 have hle:=Kf h
 unfold ff at hle ⊢
 by_cases h1:fst h h.length 0 < h.length
 ·rw[if_pos h1];rfl
 ·rw[if_neg h1]
  simp only[Sh.EK,Ac]
  congr 2;omega
theorem Lq {h:List Cell} (hl:h.length≤1048576) {N i:Nat} (hi:i≤h.length) (hN:h.length - i < N):A1 h N i=some (if fst h (h.length - i) i < h.length then Sum.inl ((fst h (h.length - i) i:Nat):Int) else Sum.inr ()):=by
 refine BH h.length (fun N i=>A1 h N i=some (if fst h (h.length - i) i < h.length then Sum.inl ((fst h (h.length - i) i:Nat):Int) else Sum.inr ())) ?_ ?_ hi hN
 ·intro n
  rw[A1,if_neg (by simp[Ac])]
  simp[fst]
 ·intro n i hi ih
  rw[A1,if_pos (by simp[Ac];omega),BE (Cq hi)]
  simp only[Option.bind_some,F8]
  obtain⟨k,hk⟩ :∃k,h.length - i=k+1:=⟨h.length - i - 1,by omega⟩
  rw[hk]
  unfold fst
  by_cases h0:(cat h i).count=0
  ·rw[if_pos (by simpa using h0),if_pos (show ct h i=0 from h0),if_pos hi]
  ·rw[if_neg (by simpa using h0),if_neg (show ¬ ct h i=0 from h0),A0 (by omega) (by omega),show ((i:Int) + 1)=((i+1:Nat):Int) by omega,ih,show h.length - (i+1)=k by omega]
theorem Lx {h:List Cell} (hl:h.length≤1048576) {N:Nat} (hN:2000000≤N):CB N h=some (if ff h < h.length then ((ff h:Nat):Int) else -1):=by
 unfold CB
 have:=Lq hl (Nat.zero_le _) (by omega:h.length - 0 < N)
 rw[show ((0:Nat):Int)=0 from rfl,Nat.sub_zero] at this
 rw[this]
 unfold ff
 by_cases h1:fst h h.length 0 < h.length
 ·rw[if_pos h1,if_pos h1];rfl
 ·rw[if_neg h1,if_neg h1];rfl
def Gn (h:List Cell) (c:Cell):List Cell:=if ff h < h.length then h.set (ff h) c else h ++ [c]
theorem N6 (h:List Cell) (c:Cell) (k:Nat):cat (Gn h c) k=if k=ff h then c else cat h k:=by
 unfold Gn
 split
 ·rename_i h1;exact G7 h1 k
 ·rename_i h1
  have:ff h=h.length:=by have:=Kf h;omega
  rw[this];exact Qp k
theorem Qo (h:List Cell) (c:Cell):(Gn h c).length=if ff h < h.length then h.length else h.length+1:=by unfold Gn;split <;> simp
theorem Hp.Gn {h:List Cell} {c:Cell} (H:Hp h) (hs:Bs h+1+c.fields.length≤1048576) (hc:JD c):Hp (Gn h c):=by
 refine⟨?_,fun d hd=>?_⟩
 ·unfold RC.Gn
  split
  ·rename_i h1
   have:=P3 (c:=c) h1
   unfold Bs at hs ⊢
   rw[List.length_set];omega
  ·unfold Bs at hs ⊢
   rw[EM,List.length_append]
   have:CU [c]=c.fields.length:=by simp[CU]
   rw[this];simp;omega
 ·unfold RC.Gn at hd
  split at hd
  ·rcases List.mem_or_eq_of_mem_set hd with h1 | h1
   ·exact H.cells d h1
   ·rw[h1];exact hc
  ·rcases List.mem_append.1 hd with h1 | h1
   ·exact H.cells d h1
   ·rw[List.mem_singleton] at h1;rw[h1];exact hc
theorem P5 {h:List Cell} {t:Int} {fs:List Int} (hl:h.length≤1048576) (hf:fs.length≤1048576):FJ h ((ff h:Nat):Int) t fs=some (Gn h ⟨1,t,fs⟩):=by
 unfold FJ
 rw[Ew hf,Ac]
 simp only[Option.bind_some]
 have hle:=Kf h
 unfold Gn
 by_cases h1:ff h < h.length
 ·rw[if_neg (by simp;omega),if_pos h1,BE (Cq h1)]
  simp only[Option.bind_some]
  rw[F5]
 ·rw[if_pos (by simp;omega),if_neg h1,EO _ _ 40 (by simp;omega) (by simp;omega)];rfl
theorem Lw {h:List Cell} {t:Int} {fs:List Int} (hl:h.length≤1048576) (hf:fs.length≤1048576) {N:Nat} (hN:2000000≤N):FF N h t fs=some (1000+(ff h:Int),Gn h ⟨1,t,fs⟩):=by
 unfold FF
 rw[Je _ hf,Lx hl hN,Ac]
 simp only[Option.bind_some]
 have hle:=Kf h
 unfold Gn
 by_cases h1:ff h < h.length
 ·rw[if_pos h1,if_neg (by simp),if_pos h1,BE (Cq h1)]
  simp only[Option.bind_some]
  rw[F5,A0 (by omega) (by omega)]
 ·rw[if_neg h1,if_pos (by simp),if_neg h1,EO _ _ 40 (by simp;omega) (by simp;omega)]
  simp only[Option.bind_some]
  rw[A0 (by omega) (by omega),show h.length=ff h by omega]
theorem Pz {h:List Cell} (hl:h.length≤1048576) {fs:List Int} (hf:fs.length≤1048576) (hF :∀x∈fs,Dz x) {N i:Nat} (hi:i≤fs.length) (hN:fs.length - i < N):Bx h fs N i=some (if (fs.drop i).all (CE h) then Sum.inr () else Sum.inl ([],0)):=by
 refine BH fs.length (fun N i=>Bx h fs N i=some (if (fs.drop i).all (CE h) then Sum.inr () else Sum.inl ([],0))) ?_ ?_ hi hN
 ·intro n
  rw[Bx,if_neg (by simp[Ac])];simp
 ·intro n i hi ih
  obtain⟨x,hx,hxm⟩:=B3 hi
  rw[Bx,if_pos (by simp[Ac];omega),BE hx]
  simp only[Option.bind_some]
  rw[G9 hl (hF x hxm),A0 (by omega) (by omega),show ((i:Int) + 1)=((i+1:Nat):Int) by omega,ih,ER hx]
  cases CE h x <;> simp
def Hy (h:List Cell) (t:Int) (fs:List Int):Prop:=VH h∧VH (Gn h ⟨1,t,fs⟩)
theorem NA {h:List Cell} {t:Int} {fs:List Int} (V:VH (Gn h ⟨1,t,fs⟩)) :∀x∈fs,CE h x=true:=fun x hx=>by
 have hc:=N6 h ⟨1,t,fs⟩ (ff h)
 rw[if_pos rfl] at hc
 obtain⟨_,_,_,_,a⟩:=(El _ _).1 (V.cell (ff h))
 rw[hc] at a
 have h1:=(a (by simp)).1 x hx
 by_cases hp:1000≤x
 ·rw[EH hp] at h1 ⊢
  have h2:0 < ct (Gn h ⟨1,t,fs⟩) (x - 1000).toNat:=by simpa using h1
  by_cases e:(x - 1000).toNat=ff h
  ·exfalso
   obtain⟨rk,hrk⟩:=V.rk
   have:=hrk (ff h) (ff h) (by rw[← e];exact h2) (Gw.2 (by rw[B1,hc,← e,← H6 hp];exact hx))
   omega
  ·unfold ct at h2
   rw[N6,if_neg e] at h2
   exact decide_eq_true h2
 ·rw[GA hp] at h1 ⊢;exact h1
theorem J6 {h:List Cell} {t:Int} {fs:List Int} (H:Hp h) (hs:Bs h+1+fs.length≤1048576) (ht:Dz t) (hF :∀x∈fs,Dz x) {N:Nat} (hN:2000000≤N) :
  ∃b:Bool,Dt N h t fs=some (if b then (Gn h ⟨1,t,fs⟩,1000+(ff h:Int)) else ([],0))∧HN N h t fs=some (if b then (Gn h ⟨1,t,fs⟩,1000+(ff h:Int)) else ([],0))∧(b=true↔Hy h t fs):=by
 have hl:=H.len
 have hf:fs.length≤1048576:=by omega
 obtain⟨b,r,h1,_,_,h2,h3,_⟩:=GG H hN
 unfold Dt HN
 rw[h1,h2]
 simp only[Option.bind_some]
 cases b with
 | false=>exact⟨false,by simp,by simp,by simp[Hy];intro hv;exact absurd (h3.2 hv) (by simp)⟩
 | true=>
  have V:=h3.1 rfl
  have Ha:Hp (Gn h ⟨1,t,fs⟩):=H.Gn hs ⟨⟨by show (-9223372036854775808:Int)≤1;decide,by show (1:Int)≤9223372036854775807;decide⟩,ht,hF,by show fs.length≤9223372036854775807;omega⟩
  obtain⟨b',r',g1,_,_,g2,g3,_⟩:=GG Ha hN
  have hL:=Pz hl hf hF (Nat.zero_le _) (by omega:fs.length - 0 < N)
  rw[show ((0:Nat):Int)=0 from rfl,List.drop_zero] at hL
  have hle:=Kf h
  rw[Lh hl hN,Ff H hN,IE H hN]
  simp only[Option.bind_some,Bool.not_true,Bool.false_eq_true,if_false]
  rw[hL,P5 hl hf,Lw hl hf hN]
  simp only[Option.bind_some]
  rw[g1,g2,A0 (by omega) (by omega)]
  simp only[Option.bind_some]
  cases b' with
  | false=>
   refine⟨false,?_,by simp,by simp[Hy];intro _ hv;exact absurd (g3.2 hv) (by simp)⟩
   cases fs.all (CE h) <;> simp
  | true=>
   have Va:=g3.1 rfl
   have hall:fs.all (CE h)=true:=List.all_eq_true.2 (NA Va)
   exact⟨true,by simp[hall],by simp,by simp[Hy,V,Va]⟩
end RC



namespace RC
open Go
def mk (m:Nat→Bool) (n i:Nat):List Nat:=(List.range' i (n - i)).filter m
end RC



namespace RC
open Go
structure Lz (z:BK):Prop where
 size:Bs z.cells+z.pending.length≤1048576
 cells :∀c∈z.cells,JD c
 HH :∀x∈z.pending,Dz x
theorem Lz.hp {z:BK} (L:Lz z):Hp z.cells:=⟨by have:=L.size;omega,L.cells⟩
theorem Lz.MP {z:BK} (L:Lz z):z.pending.length≤1048576:=by have:=L.size;omega
theorem Lp {l:List Int} {x:Int} (hl:l.length≤1048576) {N i:Nat} (hi:i≤l.length) (hN:l.length - i < N):Cm l x N i=some (if x∈l.drop i then Sum.inl true else Sum.inr ()):=by
 refine BH l.length (fun N i=>Cm l x N i=some (if x∈l.drop i then Sum.inl true else Sum.inr ())) ?_ ?_ hi hN
 ·intro n
  rw[Cm,if_neg (by simp[Ac])];simp
 ·intro n i hi ih
  obtain⟨y,hy,_⟩:=B3 hi
  rw[Cm,if_pos (by simp[Ac];omega),BE hy]
  simp only[Option.bind_some]
  rw[A0 (by omega) (by omega),show ((i:Int) + 1)=((i+1:Nat):Int) by omega,ih,drop_cons hy]
  by_cases e:y=x
  ·subst e;simp
  ·have e':¬ x=y:=fun h=>e h.symm
   simp[e,e']
theorem L4 {l:List Int} {x:Int} (hl:l.length≤1048576) {N:Nat} (hN:2000000≤N):FD N l x=some (decide (x∈l)):=by
 unfold FD
 have:=Lp (x:=x) hl (Nat.zero_le _) (by omega:l.length - 0 < N)
 rw[show ((0:Nat):Int)=0 from rfl,List.drop_zero] at this
 rw[this]
 by_cases h:x∈l <;> simp[h]
def gd (h:List Cell) (P:List Int) (k:Nat):Bool:=match P[k]? with
 | some x=>decide (0≤x) && decide (x < h.length) && decide (ct h x.toNat=0) && !decide (x∈P.take k)
 | none=>true
theorem It {h:List Cell} {P:List Int} {k:Nat} {x:Int} (hx:P[k]?=some x):gd h P k=true↔0≤x∧x < h.length∧ct h x.toNat=0∧x ∉ P.take k:=by
 unfold gd;rw[hx];simp[and_assoc]
theorem Qk {l:List Int} {i:Nat} (hi:i≤l.length):Sh.sl l 0 (i:Int)=some (l.take i):=by
 unfold Sh.sl
 rw[if_pos ⟨by omega,by omega,by omega⟩];simp
theorem Qe {z:BK} (L:Lz z) {M:Nat} (hM:2000000≤M) {N i:Nat} (hi:i≤z.pending.length) (hN:z.pending.length - i < N) :
  BQ M z N i=some (if C9 (gd z.cells z.pending) z.pending.length i then Sum.inr () else Sum.inl false):=by
 have hl:=L.MP
 have hc:=L.hp.len
 refine BH z.pending.length (fun N i=>BQ M z N i=some (if C9 (gd z.cells z.pending) z.pending.length i then Sum.inr () else Sum.inl false)) ?_ ?_ hi hN
 ·intro n
  rw[BQ,if_neg (by simp[Ac]),FE];rfl
 ·intro n i hi ih
  obtain⟨x,hx,hxm⟩:=B3 hi
  obtain⟨x1,x2⟩:=L.HH x hxm
  have hg:=It (h:=z.cells) hx
  rw[BQ,if_pos (by simp[Ac];omega),BE hx]
  simp only[Option.bind_some]
  rw[GP,Ac,A0 (by omega) (by omega),A0 (n:=(i:Int) + 1) (by omega) (by omega),show ((i:Int) + 1)=((i+1:Nat):Int) by omega,ih,D6 hi,Qk (by omega)]
  simp only[Option.bind_some]
  rw[L4 (by simp;omega) hM]
  simp only[Option.bind_some]
  by_cases h1:0≤x∧x < z.cells.length
  ·have e1:(decide (0≤x) && decide (x≤(z.cells.length:Int) - 1))=true:=by simp;omega
   have hxn:x.toNat < z.cells.length:=by omega
   rw[e1,C7 h1.1,Cq hxn]
   simp only[Option.bind_some,Bool.not_true,Bool.false_eq_true,if_false]
   by_cases h2:ct z.cells x.toNat=0
   ·have h2':(cat z.cells x.toNat).count=0:=h2
    by_cases h3:x∈z.pending.take i
    ·have:gd z.cells z.pending i=false:=by
      cases hgd:gd z.cells z.pending i with
      | false=>rfl
      | true=>exact absurd h3 (hg.1 hgd).2.2.2
     simp[h2',h3,this]
    ·have:gd z.cells z.pending i=true:=hg.2 ⟨h1.1,h1.2,h2,h3⟩
     simp[h2',h3,this]
   ·have h2':¬ (cat z.cells x.toNat).count=0:=h2
    have:gd z.cells z.pending i=false:=by
     cases hgd:gd z.cells z.pending i with
     | false=>rfl
     | true=>exact absurd (hg.1 hgd).2.2.1 h2
    simp[h2',this]
  ·have e1:(decide (0≤x) && decide (x≤(z.cells.length:Int) - 1))=false:=by simp;omega
   have:gd z.cells z.pending i=false:=by
    cases hgd:gd z.cells z.pending i with
    | false=>rfl
    | true=>exact absurd ⟨(hg.1 hgd).1,(hg.1 hgd).2.1⟩ h1
   rw[e1];simp[this]
def FI (l:List Cell):Bool:=l.all fun c=>decide (0≤c.count)
theorem Q4 {z:BK} (hl:z.cells.length≤1048576) {N i:Nat} (hi:i≤z.cells.length) (hN:z.cells.length - i < N) :
  BS z N i=some (if FI (z.cells.drop i) then Sum.inr () else Sum.inl false):=by
 refine BH z.cells.length (fun N i=>BS z N i=some (if FI (z.cells.drop i) then Sum.inr () else Sum.inl false)) ?_ ?_ hi hN
 ·intro n
  rw[BS,if_neg (by simp[Ac])];simp[FI]
 ·intro n i hi ih
  obtain⟨c,hc,_⟩:=B3 hi
  rw[BS,if_pos (by simp[Ac];omega),BE hc]
  simp only[Option.bind_some]
  rw[A0 (by omega) (by omega),show ((i:Int) + 1)=((i+1:Nat):Int) by omega,ih]
  unfold FI
  rw[ER hc]
  by_cases h1:c.count < 0
  ·have h2:¬ 0≤c.count:=by omega
   simp[h1,h2]
  ·have h2:0≤c.count:=by omega
   simp[h1,h2]
theorem Ld {h:List Cell} (hl:h.length≤1048576) {N i:Nat} (hi:i≤h.length) (hN:h.length - i < N) :
  BX h N i=some (if FI (h.drop i) then Sum.inr () else Sum.inl ([],false)):=by
 refine BH h.length (fun N i=>BX h N i=some (if FI (h.drop i) then Sum.inr () else Sum.inl ([],false))) ?_ ?_ hi hN
 ·intro n
  rw[BX,if_neg (by simp[Ac])];simp[FI]
 ·intro n i hi ih
  obtain⟨c,hc,_⟩:=B3 hi
  rw[BX,if_pos (by simp[Ac];omega),BE hc]
  simp only[Option.bind_some]
  rw[A0 (by omega) (by omega),show ((i:Int) + 1)=((i+1:Nat):Int) by omega,ih]
  unfold FI
  rw[ER hc]
  by_cases h1:c.count < 0
  ·have h2:¬ 0≤c.count:=by omega
   simp[h1,h2]
  ·have h2:0≤c.count:=by omega
   simp[h1,h2]
def Ib (h:List Cell) (Q:List Int) (j:Nat):Cell:=if (j:Int)∈Q then ⟨1,(cat h j).tag,(cat h j).fields⟩ else cat h j
def rs (h:List Cell) (Q:List Int):List Cell:=rowOf h.length (Ib h Q)
theorem PL (h:List Cell):rs h []=h:=by
 unfold rs
 refine Eq.trans (Bd fun j _=>?_) (Ic h)
 simp[Ib]
theorem GF (h:List Cell) (Q:List Int):(rs h Q).length=h.length:=CX
theorem Mo {h:List Cell} {Q:List Int} {j:Nat} (hj:j < h.length):cat (rs h Q) j=Ib h Q j:=Ih hj
theorem QW (h:List Cell) (Q:List Int) (j:Nat):(cat (rs h Q) j).fields=(cat h j).fields:=by
 by_cases hj:j < h.length
 ·rw[Mo hj];unfold Ib;split <;> rfl
 ·rw[Co (by rw[GF];omega),Co (by omega)]
theorem Nr (n:Nat) (f g:Nat→Cell) (e :∀j,j < n→(f j).fields=(g j).fields):CU (rowOf n f)=CU (rowOf n g):=by
 unfold CU rowOf
 rw[List.map_map,List.map_map]
 congr 1
 refine List.map_congr_left fun j hj=>?_
 have:=e j (by simpa using hj)
 simp[this]
theorem Q3 {h:List Cell} (H:Hp h) (Q:List Int):Hp (rs h Q):=by
 refine⟨?_,fun c hc=>?_⟩
 ·have e:CU (rs h Q)=CU h:=by
   conv=>rhs;rw[← Ic h]
   exact Nr _ _ _ fun j _=>by unfold Ib;split <;> rfl
  have:=H.size
  unfold Bs at *
  rw[e,GF];exact this
 ·unfold rs rowOf at hc
  obtain⟨j,hj,rfl⟩:=List.mem_map.1 hc
  have hj':j < h.length:=by simpa using hj
  have C:=H.cells _ (DM hj')
  unfold Ib
  split
  ·exact⟨⟨by show (_:Int)≤1;decide,by show (1:Int)≤_;decide⟩,C.tag,C.L7⟩
  ·exact C
theorem Ng {h:List Cell} {P:List Int} {i:Nat} {x:Int} (hx:P[i]?=some x) (h0:0≤x) (h1:x < h.length) (hn:x ∉ P.take i) :
  Sh.get (rs h (P.take i)) x=some (cat h x.toNat)∧Sh.put (rs h (P.take i)) x ⟨1,(cat h x.toNat).tag,(cat h x.toNat).fields⟩=rs h (P.take (i+1)):=by
 have hxn:x.toNat < h.length:=by omega
 have e:(x.toNat:Int)=x:=by omega
 constructor
 ·rw[C7 h0]
  unfold rs
  rw[Bw hxn]
  unfold Ib
  rw[e,if_neg hn]
 ·unfold Sh.put rs
  rw[FC,Fq hx]
  refine Bd fun j _=>?_
  unfold Ib
  by_cases hj:j=x.toNat
  ·subst hj
   rw[if_pos rfl,e,if_pos (by simp)]
  ·rw[if_neg hj]
   have:((j:Int)∈P.take i ++ [x])↔(j:Int)∈P.take i:=by
    simp only[List.mem_append,List.mem_singleton]
    constructor
    ·rintro (h | h)
     ·exact h
     ·exact absurd (by omega) hj
    ·exact .inl
   by_cases h2:(j:Int)∈P.take i
   ·rw[if_pos h2,if_pos (this.2 h2)]
   ·rw[if_neg h2,if_neg fun h=>h2 (this.1 h)]
theorem Of {z:BK} (L:Lz z) {N i:Nat} (hi:i≤z.pending.length) (hN:z.pending.length - i < N):C9 (gd z.cells z.pending) z.pending.length i=true→
  Bz z N i (rs z.cells (z.pending.take i))=some (rs z.cells z.pending):=by
 have hl:=L.MP
 refine BH z.pending.length (fun N i=>C9 (gd z.cells z.pending) z.pending.length i=true→Bz z N i (rs z.cells (z.pending.take i))=some (rs z.cells z.pending)) ?_ ?_ hi hN
 ·intro n _
  rw[Bz,if_neg (by simp[Ac]),List.take_length]
 ·intro n i hi ih hall
  obtain⟨x,hx,_⟩:=B3 hi
  rw[D6 hi,Bool.and_eq_true] at hall
  obtain⟨g1,g2,g3,g4⟩:=(It hx).1 hall.1
  obtain⟨e1,e2⟩:=Ng hx g1 g2 g4
  rw[Bz,if_pos (by simp[Ac];omega),BE hx]
  simp only[Option.bind_some]
  rw[e1]
  simp only[Option.bind_some]
  rw[e2,A0 (by omega) (by omega),show ((i:Int) + 1)=((i+1:Nat):Int) by omega]
  exact ih hall.2
theorem Kl {z:BK} (L:Lz z) (hall:C9 (gd z.cells z.pending) z.pending.length 0=true) {N:Nat} (hN:2000000≤N):C2 N z=some (rs z.cells z.pending):=by
 have hl:=L.MP
 unfold C2
 rw[Ff L.hp hN]
 have:=Of L (Nat.zero_le _) (by omega:z.pending.length - 0 < N) hall
 rw[List.take_zero,PL,show ((0:Nat):Int)=0 from rfl] at this
 simp only[Option.bind_some]
 rw[this];rfl
theorem Lk {z:BK} (L:Lz z) {N i:Nat} (hi:i≤z.pending.length) (hN:z.pending.length - i < N) :
  BU z N i (rs z.cells (z.pending.take i))=some (if C9 (gd z.cells z.pending) z.pending.length i then Sum.inr (rs z.cells z.pending) else Sum.inl ([],false)):=by
 have hl:=L.MP
 have hc:=L.hp.len
 refine BH z.pending.length (fun N i=>BU z N i (rs z.cells (z.pending.take i))=some (if C9 (gd z.cells z.pending) z.pending.length i then Sum.inr (rs z.cells z.pending) else Sum.inl ([],false))) ?_ ?_ hi hN
 ·intro n
  rw[BU,if_neg (by simp[Ac]),List.take_length,FE];rfl
 ·intro n i hi ih
  obtain⟨x,hx,_⟩:=B3 hi
  have hg:=It (h:=z.cells) hx
  rw[BU,if_pos (by simp[Ac];omega),BE hx]
  simp only[Option.bind_some]
  rw[Ac,GF,D6 hi]
  by_cases h0:x < 0
  ·have:gd z.cells z.pending i=false:=by
    cases hgd:gd z.cells z.pending i with
    | false=>rfl
    | true=>have:=(hg.1 hgd).1;omega
   simp[h0,this]
  ·by_cases h1:(z.cells.length:Int)≤x
   ·have:gd z.cells z.pending i=false:=by
     cases hgd:gd z.cells z.pending i with
     | false=>rfl
     | true=>have:=(hg.1 hgd).2.1;omega
    simp[h0,h1,this]
   ·have hxn:x.toNat < z.cells.length:=by omega
    have e:(x.toNat:Int)=x:=by omega
    have hget:Sh.get (rs z.cells (z.pending.take i)) x=some (Ib z.cells (z.pending.take i) x.toNat):=by
     rw[C7 (by omega)];unfold rs;rw[Bw hxn]
    rw[hget,if_neg (by simpa using h0),if_neg (by simpa using h1)]
    simp only[Option.bind_some]
    by_cases h2:x∈z.pending.take i
    ·have hr:Ib z.cells (z.pending.take i) x.toNat=⟨1,(cat z.cells x.toNat).tag,(cat z.cells x.toNat).fields⟩:=by unfold Ib;rw[e,if_pos h2]
     have:gd z.cells z.pending i=false:=by
      cases hgd:gd z.cells z.pending i with
      | false=>rfl
      | true=>exact absurd h2 (hg.1 hgd).2.2.2
     rw[hr];simp[this]
    ·have hr:Ib z.cells (z.pending.take i) x.toNat=cat z.cells x.toNat:=by unfold Ib;rw[e,if_neg h2]
     rw[hr]
     by_cases h3:ct z.cells x.toNat=0
     ·have h3':(cat z.cells x.toNat).count=0:=h3
      have hgd:gd z.cells z.pending i=true:=hg.2 ⟨by omega,by omega,h3,h2⟩
      obtain⟨_,e2⟩:=Ng (h:=z.cells) hx (by omega) (by omega) h2
      rw[e2,A0 (by omega) (by omega),show ((i:Int) + 1)=((i+1:Nat):Int) by omega,ih]
      simp[h3',hgd]
     ·have h3':¬ (cat z.cells x.toNat).count=0:=h3
      have:gd z.cells z.pending i=false:=by
       cases hgd:gd z.cells z.pending i with
       | false=>rfl
       | true=>exact absurd (hg.1 hgd).2.2.1 h3
      simp[h3',this]
def zr (h:List Cell) (P:List Int) (k:Nat):Bool:=match P[k]? with | some x=>decide (Cj h h x.toNat=0) | none=>true
theorem LQ {h:List Cell} {x:Int} (h0:0≤x) (h1:x < h.length):Sh.get (refs h) x=some (Cj h h x.toNat:Int):=by
 unfold refs
 rw[C7 h0,Bw (by omega)]
theorem Qw {z:BK} {h:List Cell} (L:Lz z) (hin :∀x∈z.pending,0≤x∧x < h.length) {N i:Nat} (hi:i≤z.pending.length) (hN:z.pending.length - i < N) :
  Bn z (refs h) N i=some (if C9 (zr h z.pending) z.pending.length i then Sum.inr () else Sum.inl false):=by
 have hl:=L.MP
 refine BH z.pending.length (fun N i=>Bn z (refs h) N i=some (if C9 (zr h z.pending) z.pending.length i then Sum.inr () else Sum.inl false)) ?_ ?_ hi hN
 ·intro n
  rw[Bn,if_neg (by simp[Ac]),FE];rfl
 ·intro n i hi ih
  obtain⟨x,hx,hxm⟩:=B3 hi
  obtain⟨x0,x1⟩:=hin x hxm
  have hz:zr h z.pending i=decide (Cj h h x.toNat=0):=by unfold zr;rw[hx]
  rw[Bn,if_pos (by simp[Ac];omega),BE hx]
  simp only[Option.bind_some]
  rw[LQ x0 x1,A0 (by omega) (by omega),show ((i:Int) + 1)=((i+1:Nat):Int) by omega,ih,D6 hi,hz]
  simp only[Option.bind_some]
  by_cases h2:Cj h h x.toNat=0
  ·simp[h2]
  ·simp[h2]
theorem Mp {P:List Int} {h:List Cell} (hl:P.length≤1048576) (hin :∀x∈P,0≤x∧x < h.length) {N i:Nat} (hi:i≤P.length) (hN:P.length - i < N) :
  ∃r,A4 (refs h) P N i=some r∧(C9 (zr h P) P.length i=true→r=Sum.inr ())∧(C9 (zr h P) P.length i=false→∃k:Nat,r=Sum.inl (k:Int)):=by
 refine BH P.length (fun N i=>∃r,A4 (refs h) P N i=some r∧(C9 (zr h P) P.length i=true→r=Sum.inr ())∧(C9 (zr h P) P.length i=false→∃k:Nat,r=Sum.inl (k:Int))) ?_ ?_ hi hN
 ·intro n
  rw[A4,if_neg (by simp[Ac]),FE]
  exact⟨_,rfl,fun _=>rfl,fun h=>by cases h⟩
 ·intro n i hi ih
  obtain⟨x,hx,hxm⟩:=B3 hi
  obtain⟨x0,x1⟩:=hin x hxm
  have hz:zr h P i=decide (Cj h h x.toNat=0):=by unfold zr;rw[hx]
  rw[A4,if_pos (by simp[Ac];omega),BE hx]
  simp only[Option.bind_some,DV]
  rw[LQ x0 x1,A0 (by omega) (by omega),show ((i:Int) + 1)=((i+1:Nat):Int) by omega,D6 hi,hz]
  simp only[Option.bind_some]
  by_cases h2:Cj h h x.toNat=0
  ·rw[if_neg (by simp;omega)]
   simpa [h2] using ih
  ·rw[if_pos (by simp;omega)]
   exact⟨_,rfl,fun h=>by simp[h2] at h,fun _=>⟨i,rfl⟩⟩
def LV (z:BK):Prop:=C9 (gd z.cells z.pending) z.pending.length 0=true∧FI z.cells=true∧VH (rs z.cells z.pending)∧C9 (zr (rs z.cells z.pending) z.pending) z.pending.length 0=true
theorem RZ {h:List Cell} {P:List Int} (ha:C9 (gd h P) P.length 0=true) :∀x∈P,0≤x∧x < h.length:=fun x hx=>by
 obtain⟨k,hk⟩:=List.mem_iff_getElem?.1 hx
 have hkl:=(List.getElem?_eq_some_iff.1 hk).1
 have:=(FH (Nat.zero_le _)).1 ha k (Nat.zero_le _) hkl
 obtain⟨a,b,_⟩:=(It hk).1 this
 exact⟨a,b⟩
theorem HO {z:BK} (L:Lz z) {N:Nat} (hN:2000000≤N) :∃b,Cw N z=some b∧Di N z=some b∧(b=true↔LV z):=by
 have hl:=L.MP
 have H:=L.hp
 have hc:=H.len
 have p1:=Qe L hN (Nat.zero_le _) (by omega:z.pending.length - 0 < N)
 have p2:=Q4 (z:=z) hc (Nat.zero_le _) (by omega:z.cells.length - 0 < N)
 have q1:=Ld (h:=z.cells) hc (Nat.zero_le _) (by omega:z.cells.length - 0 < N)
 have q2:=Lk L (Nat.zero_le _) (by omega:z.pending.length - 0 < N)
 rw[show ((0:Nat):Int)=0 from rfl] at p1 p2 q1 q2
 rw[List.drop_zero] at p2 q1
 rw[List.take_zero,PL] at q2
 unfold Cw Cx Dg Di Dx BG
 rw[EO [] z.cells 40 (by simp;omega) (by simp;omega)]
 simp only[Option.bind_some,List.nil_append]
 rw[p1,p2,q1,q2]
 unfold LV
 cases h2:FI z.cells with
 | false=>
  refine⟨false,?_,by simp,by simp⟩
  cases C9 (gd z.cells z.pending) z.pending.length 0 <;> simp
 | true=>
  cases h1:C9 (gd z.cells z.pending) z.pending.length 0 with
  | false=>exact⟨false,by simp,by simp,by simp⟩
  | true=>
   have Hr:=Q3 H z.pending
   obtain⟨b,r,v1,_,v2,_,v3,v4⟩:=GG Hr hN
   simp only[if_true,Sh.EK,Option.bind_some,Bool.not_true,Bool.false_eq_true,if_false]
   rw[Kl L h1 hN]
   simp only[Option.bind_some]
   rw[v1,v2]
   simp only[Option.bind_some]
   cases b with
   | false=>exact⟨false,by simp,by simp,by simp;intro hv;exact absurd (v3.2 hv) (by simp)⟩
   | true=>
    obtain rfl:=v4 rfl
    have V:=v3.1 rfl
    have hin:=RZ h1
    have hin' :∀x∈z.pending,0≤x∧x < (rs z.cells z.pending).length:=by rw[GF];exact hin
    have l1:=Qw L hin' (Nat.zero_le _) (by omega:z.pending.length - 0 < N)
    obtain⟨r,c1,c2,c3⟩:=Mp hl hin' (Nat.zero_le _) (by omega:z.pending.length - 0 < N)
    rw[show ((0:Nat):Int)=0 from rfl] at l1 c1
    rw[Fs Hr hN]
    simp only[Option.bind_some,Bool.not_true,Bool.false_eq_true,if_false]
    unfold CR Cf
    rw[l1,c1]
    cases h3:C9 (zr (rs z.cells z.pending) z.pending) z.pending.length 0 with
    | true=>
     rw[c2 h3]
     exact⟨true,by simp,by simp,by simp[V]⟩
    | false=>
     obtain⟨k,hk⟩:=c3 h3
     rw[hk]
     exact⟨false,by simp,by simp,by simp⟩
end RC



namespace RC
open Go
structure Bk (b:List Int):Prop where
 u8 :∀x∈b,U8 x
 len:b.length≤2000
def At (p K:Int):Prop:=0≤p∧p≤K
theorem Km {code:List Int} (h8 :∀x∈code,U8 x) (hl:code.length≤1048576):As (Ds code) fun q=>Bk q.1∧q.2=0:=by
 unfold Ds
 refine As.bind (R:=fun b=>Bk b) (Bi (fun h=>?_) fun h=>?_) fun b hb=>As.some ⟨hb,rfl⟩
 ·rw[Ac] at h
  have e:Sh.sl code 0 2000=some (code.take 2000):=by
   unfold Sh.sl
   rw[if_pos ⟨by decide,by decide,by omega⟩];rfl
  exact B5 e (As.some ⟨fun x hx=>h8 x (List.mem_of_mem_take hx),by simp;omega⟩)
 ·rw[Ac] at h
  exact As.some ⟨h8,by omega⟩
theorem H4 {a n:Int} (ha:0≤a) (hn:1≤n):0≤a.tmod n∧a.tmod n < n∧a.tmod n≤a:=by
 rw[Int.tmod_eq_emod_of_nonneg ha]
 refine⟨Int.emod_nonneg _ (by omega),Int.emod_lt_of_pos _ (by omega),?_⟩
 have:=Int.mul_ediv_add_emod a n
 have h2:0≤n * (a / n):=Int.mul_nonneg (by omega) (Int.ediv_nonneg ha (by omega))
 omega
theorem MC {a n:Int} (ha:0≤a) (hn:1≤n):0≤a.tdiv n∧a.tdiv n≤a:=by
 rw[Int.tdiv_eq_ediv_of_nonneg ha]
 exact⟨Int.ediv_nonneg ha (by omega),Int.ediv_le_self _ ha⟩
theorem J9 {a n:Int} (hn:n≠0):Sh.rem a n=some (a.tmod n):=by unfold Sh.rem;rw[if_neg hn]
theorem RO {a n:Int} (hn:n≠0):Sh.quo a n=some (Sh.w (a.tdiv n)):=by unfold Sh.quo;rw[if_neg hn]
structure Pk (n p:Int) (q:Int×Int):Prop where
 pos:q.2=p+1
 nn:0≤q.1
 lt:1≤n→q.1 < n
 zero:n < 1→q.1=0
theorem CC {b:List Int} (B:Bk b) {p n:Int} (hp:At p 1000000):As (Aq b p n) (Pk n p):=by
 obtain⟨p0,p1⟩:=hp
 have hlen:=B.len
 have ew:Sh.w (p+1)=p+1:=A0 (by omega) (by omega)
 have ew2:Sh.w (p+1 - 1)=p:=by rw[A0 (by omega) (by omega)];omega
 unfold Aq
 rw[ew,ew2,Ac]
 refine As.bind (R:=fun t=>t=true↔n < 1∨b.length=0) (Bi (fun h=>As.some (by simp[h])) fun h=>As.some (by simp[h])) fun t ht=>?_
 refine D0 (fun h=>?_) fun h=>?_
 ·refine As.some ⟨rfl,by show (0:Int)≤0;decide,fun h1=>?_,fun _=>rfl⟩
  show (0:Int) < n
  omega
 ·have hn:¬ (n < 1∨b.length=0):=fun h1=>by rw[ht.2 h1] at h;cases h
  have hn1:1≤n:=by omega
  have hb1:1≤b.length:=by omega
  refine Bi (fun h1=>?_) fun h1=>?_
  ·refine As.get p0 h1 fun c _ hc=>?_
   obtain⟨c0,c1⟩:=B.u8 c hc
   rw[OZ (by omega) (by omega)]
   obtain⟨m0,m1,_⟩:=H4 c0 hn1
   exact B5 (J9 (by omega)) (As.some ⟨rfl,m0,fun _=>m1,fun h=>absurd h (by omega)⟩)
  ·have k1:(1:Int)≤b.length:=by omega
   obtain⟨a0,a1,_⟩:=H4 p0 k1
   have e7:Sh.w (p * 7)=p * 7:=A0 (by omega) (by omega)
   have e73:Sh.w (p * 7+3)=p * 7+3:=A0 (by omega) (by omega)
   obtain⟨d0,d1,_⟩:=H4 (a:=p * 7+3) (by omega) k1
   obtain⟨f0,f1⟩:=MC p0 k1
   rw[e7,e73]
   refine B5 (J9 (by omega)) ?_
   refine As.get a0 a1 fun c _ hc=>?_
   obtain⟨c0,c1⟩:=B.u8 c hc
   refine B5 (J9 (by omega)) ?_
   refine As.get d0 d1 fun c' _ hc'=>?_
   obtain⟨c0',c1'⟩:=B.u8 c' hc'
   refine B5 (RO (by omega)) ?_
   rw[OZ (n:=c) (by omega) (by omega),OZ (n:=c') (by omega) (by omega),A0 (n:=p.tdiv b.length) (by omega) (by omega),A0 (n:=c * 131) (by omega) (by omega),A0 (n:=c' * 1117) (by omega) (by omega),
    A0 (n:=c * 131+c' * 1117) (by omega) (by omega),A0 (n:=p * 29) (by omega) (by omega),A0 (n:=c * 131+c' * 1117+p * 29) (by omega) (by omega),A0 (n:=p.tdiv b.length * 53) (by omega) (by omega),
    A0 (n:=c * 131+c' * 1117+p * 29+p.tdiv b.length * 53) (by omega) (by omega)]
   obtain⟨x,hx⟩ :∃x,x=c * 131+c' * 1117+p * 29+p.tdiv b.length * 53:=⟨_,rfl⟩
   rw[← hx]
   have x0:0≤x:=by omega
   have x1:x≤1000000000000:=by omega
   obtain⟨y0,y1⟩:=MC x0 (by decide:(1:Int)≤64)
   rw[A0 (n:=x.tdiv 64) (by omega) (by omega)]
   obtain⟨z0,z1⟩:=RE x0 (by omega) y0 (by omega)
   obtain⟨m0,m1,_⟩:=H4 z0 hn1
   exact B5 (J9 (by omega)) (As.some ⟨rfl,m0,fun _=>m1,fun h=>absurd h (by omega)⟩)
structure On (l:List Int) (p:Int) (q:Int×Int):Prop where
 pos:q.2=p+1
 mem:q.1∈l
theorem KM {b:List Int} (B:Bk b) {p:Int} {l:List Int} (hp:At p 1000000) (hl:1≤l.length) (hl2:l.length≤1000):As (Cl b p l) (On l p):=by
 unfold Cl
 rw[Ac]
 refine As.bind (CC B hp) fun q ⟨h1,h2,h3,_⟩=>?_
 exact As.get h2 (h3 (by omega)) fun x _ hx=>As.some ⟨h1,hx⟩
def Mu (n:Int):Prop:=-1099511627776≤n∧n≤1099511627776
structure P0 (B:Int) (c:Cell):Prop where
 fl:c.fields.length≤3
 fi :∀x∈c.fields,Mu x
 lo:-1000000 - B≤c.count
 hi:c.count≤1000000+B
 tag:Mu c.tag
structure Sm (n:Nat) (B:Int) (h:List Cell):Prop where
 len:h.length≤n
 cells :∀c∈h,P0 B c
theorem P0.up {B B':Int} {c:Cell} (h:P0 B c) (hB:B≤B'):P0 B' c:=⟨h.fl,h.fi,by have:=h.lo;omega,by have:=h.hi;omega,h.tag⟩
theorem Sm.up {n n':Nat} {B B':Int} {h:List Cell} (S:Sm n B h) (hn:n≤n') (hB:B≤B'):Sm n' B' h:=⟨by have:=S.len;omega,fun c hc=>(S.cells c hc).up hB⟩
theorem Sm.CU {n:Nat} {B:Int} {h:List Cell} (S:Sm n B h):CU h≤3 * h.length:=by
 have hc:=S.cells
 clear S
 induction h with
 | nil=>simp[RC.CU]
 | cons c h ih=>
  have h1:=ih fun d hd=>hc d (List.mem_cons_of_mem _ hd)
  have h2:=(hc c (List.mem_cons_self ..)).fl
  simp only[RC.CU,List.map_cons,List.sum_cons,List.length_cons] at h1 ⊢
  omega
theorem Sm.hp {n:Nat} {B:Int} {h:List Cell} (S:Sm n B h) (hn:n≤10000) (hB:B≤1000000000):Hp h:=by
 refine⟨?_,fun c hc=>?_⟩
 ·have:=S.CU;have:=S.len;unfold Bs;omega
 ·obtain⟨a,b,l,u,t⟩:=S.cells c hc
  exact⟨⟨by omega,by omega⟩,⟨by have:=t.1;omega,by have:=t.2;omega⟩,fun x hx=>⟨by have:=(b x hx).1;omega,by have:=(b x hx).2;omega⟩,by omega⟩
theorem Sm.size {n:Nat} {B:Int} {h:List Cell} (S:Sm n B h):Bs h≤4 * n:=by
 have:=S.CU;have:=S.len;unfold Bs;omega
theorem Sm.set {n:Nat} {B:Int} {h:List Cell} (S:Sm n B h) {j:Nat} {c:Cell} (hc:P0 B c):Sm n B (h.set j c):=
 ⟨by rw[List.length_set];exact S.len,fun d hd=>by
  rcases List.mem_or_eq_of_mem_set hd with h1 | h1
  ·exact S.cells d h1
  ·rw[h1];exact hc⟩
theorem Sm.app {n:Nat} {B:Int} {h:List Cell} (S:Sm n B h) {c:Cell} (hc:P0 B c):Sm (n+1) B (h ++ [c]):=
 ⟨by have:=S.len;simp;omega,fun d hd=>by
  rcases List.mem_append.1 hd with h1 | h1
  ·exact S.cells d h1
  ·rw[List.mem_singleton] at h1;rw[h1];exact hc⟩
theorem VH.sm {h:List Cell} (V:VH h) {n:Nat} (hn:h.length≤n) (hn2:n≤10000):Sm n 0 h:=by
 refine⟨hn,fun c hc=>?_⟩
 obtain⟨a1,a2,a3,a4,a5⟩:=(El _ _).1 (V.cells c hc)
 refine⟨by omega,fun x hx=>?_,by omega,by omega,?_⟩
 ·by_cases h1:c.count < 1
  ·have:=(a4 h1).2.1 x hx;exact⟨by omega,by omega⟩
  ·have h2:=(a5 (by omega)).1 x hx
   by_cases hp:1000≤x
   ·rw[EH hp] at h2
    have:=G6 (h:=h) (j:=(x - 1000).toNat) (by have:0 < ct h (x - 1000).toNat:=(by simpa using h2);omega)
    exact⟨by omega,by omega⟩
   ·rw[GA hp] at h2
    have:-999≤x:=(by simpa using h2)
    exact⟨by omega,by omega⟩
 ·by_cases h1:c.count < 1
  ·have:=(a4 h1).1;exact⟨by omega,by omega⟩
  ·have h2:=(a5 (by omega)).2;exact⟨by omega,by omega⟩
end RC



namespace RC
open Go
theorem i40 {n:Int} (h1:-1000000000000≤n) (h2:n≤1000000000000):Mu n:=⟨by omega,by omega⟩
theorem O8 {n:Int} (h1:-1000000000000≤n) (h2:n≤1000000000000):Mu (Sh.w n):=by rw[A0 (by omega) (by omega)];exact i40 h1 h2
theorem Mu.i64 {n:Int} (h:Mu n):Dz n:=⟨by have:=h.1;omega,by have:=h.2;omega⟩
theorem JK {b:List Int} (Bb:Bk b) {M:Nat} (hM:2000000≤M) :∀(K N:Nat) (f F B:Int) (n:Nat) (h:List Cell) (fs:List Int),K < N→At f F→F+5 * K≤1000000→0≤B→B+K≤1000000→n≤1000→Sm n B h→fs.length+K≤10→(∀x∈fs,Mu x)→
  As (CL M b N (K:Int) f h fs) fun q=>At q.1 (F+5 * K)∧Sm n (B+K) q.2.1∧q.2.2.length≤fs.length+K∧∀x∈q.2.2,Mu x:=by
 intro K
 induction K with
 | zero=>
  intro N f F B n h fs hN hf hF _ _ _ S hl hI
  obtain⟨N',rfl⟩ :∃N',N=N' + 1:=⟨N - 1,by omega⟩
  rw[CL,if_neg (by simp)]
  exact As.some ⟨⟨hf.1,by have:=hf.2;omega⟩,S.up (Nat.le_refl _) (by omega),Nat.le_refl _,hI⟩
 | succ K ih=>
  intro N f F B n h fs hN hf hF hB0 hB hn S hl hI
  obtain⟨N',rfl⟩ :∃N',N=N' + 1:=⟨N - 1,by omega⟩
  obtain⟨f0,f1⟩:=hf
  have H:=S.hp (by omega) (by omega)
  have hlen:=S.len
  rw[CL,if_pos (by simp)]
  refine As.bind (CC Bb ⟨f0,by omega⟩) fun q73 ⟨a1,a2,a3,_⟩=>?_
  refine As.bind (R:=fun q=>Mu q.1∧At q.2.1 (F+5)∧Sm n (B+1) q.2.2) ?_ ?_
  ·refine As.bind (R:=fun q=>At q.2 (F+2)∧(q.1=true→0 < h.length)) (Bi (fun h0=>?_) fun h0=>As.some ⟨⟨by show 0≤q73.2;omega,by show q73.2≤_;omega⟩,fun h=>absurd h (by simp)⟩) ?_
   ·refine As.bind (CC Bb ⟨by omega,by omega⟩) fun q101 ⟨b1,_,_,_⟩=>As.some ⟨⟨by show 0≤q101.2;omega,by show q101.2≤_;omega⟩,fun _=>by rw[Ac] at h0;omega⟩
   ·rintro⟨t,f'⟩ ⟨⟨g0,g1⟩,g2⟩
    dsimp only at g0 g1 g2 ⊢
    refine D0 (fun ht=>?_) fun ht=>As.some ⟨O8 (by omega) (by have:=a3 (by decide);omega),⟨g0,by show f'≤_;omega⟩,S.up (Nat.le_refl _) (by omega)⟩
    have hpos:=g2 ht
    refine As.bind (CC Bb ⟨g0,by omega⟩) fun q86 ⟨b1,b2,b3,_⟩=>?_
    rw[Ac] at b3
    have b4:=b3 (by omega)
    refine As.get b2 b4 fun c88 hc hcm=>?_
    have C:=S.cells c88 hcm
    refine Bi (fun hct=>?_) fun hct=>As.some ⟨O8 (by omega) (by have:=a3 (by decide);omega),⟨by show 0≤q86.2;omega,by show q86.2≤_;omega⟩,S.up (Nat.le_refl _) (by omega)⟩
    refine As.bind (R:=fun q=>At q.2 (F+4)) ?_ ?_
    ·refine B5 (Fs H hM) (As.get b2 (by unfold refs;rw[CX];exact b4) fun c97 _ _=>?_)
     refine Bi (fun _=>As.some ⟨by show 0≤q86.2;omega,by show q86.2≤_;omega⟩) fun _=>?_
     exact As.bind (CC Bb ⟨by omega,by omega⟩) fun q99 ⟨d1,_,_,_⟩=>As.some ⟨by show 0≤q99.2;omega,by show q99.2≤_;omega⟩
    ·rintro⟨t2,f2⟩ ⟨e0,e1⟩
     dsimp only at e0 e1 ⊢
     refine D0 (fun _=>As.some ⟨O8 (by omega) (by omega),⟨e0,by show f2≤_;omega⟩,?_⟩) fun _=>As.some ⟨O8 (by omega) (by omega),⟨e0,by show f2≤_;omega⟩,S.up (Nat.le_refl _) (by omega)⟩
     have l:=C.lo
     have u:=C.hi
     refine (S.up (Nat.le_refl _) (by omega)).set ⟨C.fl,C.fi,?_,?_,C.tag⟩
     ·show _≤Sh.w (c88.count+1);rw[A0 (by omega) (by omega)];omega
     ·show Sh.w (c88.count+1)≤_;rw[A0 (by omega) (by omega)];omega
  ·rintro⟨w75,f76,l77⟩ ⟨c1,⟨c2,c3⟩,c4⟩
   dsimp only at c1 c2 c3 c4 ⊢
   refine As.app (by simp;omega) (by simp;omega) ?_
   rw[A0 (by omega) (by omega),show (((K+1:Nat):Int) - 1)=(K:Int) by omega]
   refine (ih N' f76 (F+5) (B+1) n l77 (fs ++ [w75]) (by omega) ⟨c2,c3⟩ (by omega) (by omega) (by omega) hn c4 (by simp;omega) (fun x hx=>?_)).mono fun q ⟨r1,r2,r3,r4⟩=>⟨⟨r1.1,by have:=r1.2;omega⟩,r2.up (Nat.le_refl _) (by omega),by simp at r3;omega,r4⟩
   rcases List.mem_append.1 hx with h1 | h1
   ·exact hI x h1
   ·rw[List.mem_singleton] at h1;rw[h1];exact c1
theorem NZ {a b c d p:Int} {q:Int×Int} (h:On [a,b,c,d] p q) {l u:Int} (ha:l≤a∧a≤u) (hb:l≤b∧b≤u) (hc:l≤c∧c≤u) (hd:l≤d∧d≤u):l≤q.1∧q.1≤u:=by
 have:=h.mem
 simp only[List.mem_cons,List.not_mem_nil,or_false] at this
 rcases this with h | h | h | h <;> omega
theorem Jf {b:List Int} (Bb:Bk b) {M:Nat} (hM:2000000≤M) :∀(K N:Nat) (f F:Int) (n:Nat) (h:List Cell),K < N→At f F→F+30 * K≤900000→n+K≤500→Sm n (10 * n) h→
  As (CI M b N (K:Int) f h) fun q=>At q.1 (F+30 * K)∧Sm (n+K) (10 * (n+K:Nat)) q.2:=by
 intro K
 induction K with
 | zero=>
  intro N f F n h hN hf hF hn S
  obtain⟨N',rfl⟩ :∃N',N=N' + 1:=⟨N - 1,by omega⟩
  rw[CI,if_neg (by simp)]
  exact As.some ⟨⟨hf.1,by have:=hf.2;omega⟩,S.up (by omega) (by omega)⟩
 | succ K ih=>
  intro N f F n h hN hf hF hn S
  obtain⟨N',rfl⟩ :∃N',N=N' + 1:=⟨N - 1,by omega⟩
  obtain⟨f0,f1⟩:=hf
  rw[CI,if_pos (by simp)]
  refine As.bind (R:=fun q=>At q.1 (F+30)∧Sm (n+1) (10 * (n+1:Nat)) q.2) ?_ ?_
  ·refine As.bind (CC Bb ⟨f0,by omega⟩) fun q37 ⟨a1,a2,a3,_⟩=>?_
   have a4:=a3 (by decide)
   obtain⟨k,hk⟩:=Int.eq_ofNat_of_zero_le a2
   rw[hk]
   refine As.bind (JK Bb hM k M q37.2 (F+1) (10 * n) n h [] (by omega) ⟨by omega,by omega⟩ (by omega) (by omega) (by omega) (by omega) S (by simp;omega) (fun x hx=>absurd hx (List.not_mem_nil))) ?_
   rintro⟨f42,l43,l44⟩ ⟨⟨c1,c2⟩,c3,c4,c5⟩
   dsimp only at c1 c2 c3 c4 c5 ⊢
   refine As.bind (CC Bb ⟨c1,by omega⟩) fun q47 ⟨d1,d2,d3,_⟩=>?_
   have d4:=d3 (by decide)
   refine As.bind (CC Bb ⟨by omega,by omega⟩) fun q48 ⟨e1,e2,e3,_⟩=>?_
   have e4:=e3 (by decide)
   refine As.bind (KM Bb ⟨by omega,by omega⟩ (by simp) (by simp)) fun q49 O=>?_
   have g1:=O.pos
   have g2:=NZ O (l:=0) (u:=99) ⟨by omega,by omega⟩ ⟨by omega,by omega⟩ ⟨by omega,by omega⟩ ⟨by omega,by omega⟩
   have S1:Sm n (10 * (n:Int) + 3) l43:=c3.up (Nat.le_refl _) (by omega)
   have H1:=S1.hp (by omega) (by omega)
   have hz:=S1.size
   obtain⟨bb,r1,_,r3⟩:=J6 (t:=q49.1) (fs:=l44) H1 (by simp at c4;omega) ⟨by omega,by omega⟩ (fun x hx=>(c5 x hx).i64) hM
   refine B5 r1 ?_
   refine As.bind (R:=fun l=>Sm (n+1) (10 * (n+1:Nat)) l) ?_ fun l52 S2=>?_
   ·cases bb with
    | false=>exact Bi (fun h=>absurd h (by simp)) fun _=>As.some (S1.up (by omega) (by omega))
    | true=>
     have V:=(r3.1 rfl).2
     refine Bi (fun _=>As.some ?_) fun h=>absurd h (by simp;omega)
     have hln:(Gn l43 ⟨1,q49.1,l44⟩).length≤n+1:=by rw[Qo];have:=S1.len;split <;> omega
     exact (V.sm hln (by omega)).up (Nat.le_refl _) (by omega)
   ·have H2:=S2.hp (by omega) (by omega)
    have hl2:=S2.len
    refine As.bind (R:=fun q=>At q.2 (F+27)∧(q.1=true→0 < l52.length)) (Bi (fun h0=>?_) fun h0=>As.some ⟨⟨by show 0≤q49.2;omega,by show q49.2≤_;omega⟩,fun h=>absurd h (by simp)⟩) ?_
    ·exact As.bind (CC Bb ⟨by omega,by omega⟩) fun q65 ⟨b1,_,_,_⟩=>As.some ⟨⟨by show 0≤q65.2;omega,by show q65.2≤_;omega⟩,fun _=>by rw[Ac] at h0;omega⟩
    ·rintro⟨t55,f56⟩ ⟨⟨i0,i1⟩,i2⟩
     dsimp only at i0 i1 i2 ⊢
     refine D0 (fun ht=>?_) fun _=>As.some ⟨⟨i0,by show f56≤_;omega⟩,S2⟩
     have hpos:=i2 ht
     refine As.bind (CC Bb ⟨i0,by omega⟩) fun q60 ⟨j1,j2,j3,_⟩=>?_
     rw[Ac] at j3
     have j4:=j3 (by omega)
     have ew:Sh.w (1000+q60.1)=1000+q60.1:=A0 (by omega) (by omega)
     rw[ew]
     obtain⟨g,b2,s1,_,s3,s4,_⟩:=KH (w:=1000+q60.1) H2 ⟨by omega,by omega⟩ hM
     refine B5 s1 ?_
     refine D0 (fun hb=>As.some ⟨⟨by show 0≤q60.2;omega,by show q60.2≤_;omega⟩,?_⟩) fun _=>As.some ⟨⟨by show 0≤q60.2;omega,by show q60.2≤_;omega⟩,S2⟩
     have hb':b2=true:=hb
     have MD:=s3.1 hb'
     have D:=s4 hb'
     have V2:=D.VH (MD.pre H2) MD.1
     have hle:=D.len MD.1.zr
     exact (V2.sm (n:=n+1) (by omega) (by omega)).up (Nat.le_refl _) (by omega)
  ·rintro⟨f31,l32⟩ ⟨⟨c1,c2⟩,c3⟩
   dsimp only at c1 c2 c3 ⊢
   rw[A0 (by omega) (by omega),show (((K+1:Nat):Int) - 1)=(K:Int) by omega]
   exact (ih N' f31 (F+30) (n+1) l32 (by omega) ⟨c1,c2⟩ (by omega) (by omega) c3).mono fun q ⟨r1,r2⟩=>⟨⟨r1.1,by have:=r1.2;omega⟩,r2.up (by omega) (by omega)⟩
theorem Lo {b:List Int} (Bb:Bk b) {M:Nat} (hM:2000000≤M) {p:Int} (hp:At p 1000) (kept:Bool):As (D4 M b p kept) fun q=>Sm 18 1000 q.1∧At q.2 3000:=by
 obtain⟨p0,p1⟩:=hp
 unfold D4
 refine As.bind (CC Bb ⟨p0,by omega⟩) fun q5 ⟨a1,a2,a3,_⟩=>?_
 have a4:=a3 (by decide)
 obtain⟨k,hk⟩:=Int.eq_ofNat_of_zero_le (by omega:0≤3+q5.1)
 rw[A0 (by omega) (by omega),hk]
 refine As.bind (Jf Bb hM k M q5.2 (p+1) 0 [] (by omega) ⟨by omega,by omega⟩ (by omega) (by omega) ⟨by simp,by simp⟩) ?_
 rintro⟨f9,l10⟩ ⟨⟨c1,c2⟩,c3⟩
 dsimp only at c1 c2 c3 ⊢
 have S:Sm 17 1000 l10:=c3.up (by omega) (by omega)
 have hl:=S.len
 refine As.bind (R:=fun q=>At q.1 3000∧Sm 18 1000 q.2) ?_ ?_
 ·refine As.bind (R:=fun q=>At q.2 2000) (D0 (fun _=>?_) fun _=>As.some ⟨c1,by show f9≤_;omega⟩) ?_
  ·exact As.bind (CC Bb ⟨by omega,by omega⟩) fun q26 ⟨b1,_,_,_⟩=>As.some ⟨by show 0≤q26.2;omega,by show q26.2≤_;omega⟩
  ·rintro⟨t18,f19⟩ ⟨d0,d1⟩
   dsimp only at d0 d1 ⊢
   refine D0 (fun _=>?_) fun _=>As.some ⟨⟨d0,by show f19≤_;omega⟩,S.up (by omega) (by omega)⟩
   refine As.bind (CC Bb ⟨d0,by omega⟩) fun q22 ⟨e1,e2,e3,_⟩=>?_
   have e4:=e3 (by decide)
   obtain⟨z,hz⟩:=Int.eq_ofNat_of_zero_le e2
   refine As.bind (R:=fun q=>q=List.replicate z 0) ?_ fun q23 hq=>?_
   ·unfold GQ
    rw[hz]
    exact B5 (My 0 z 8 (by omega) (by omega)) (As.some rfl)
   ·subst hq
    refine As.app (by simp;omega) (by simp;omega) (As.some ⟨⟨by show 0≤q22.2;omega,by show q22.2≤_;omega⟩,?_⟩)
    exact S.app ⟨by simp;omega,fun x hx=>by rw[List.eq_of_mem_replicate hx];exact i40 (by decide) (by decide),by show _≤(-1:Int);omega,by show (-1:Int)≤_;omega,i40 (n:=0) (by decide) (by decide)⟩
 ·rintro⟨f13,l14⟩ ⟨d1,d2⟩
  exact As.some ⟨d2,d1⟩
theorem TB (n:Nat):(if ((n:Int) > 1) then (n:Int) else 1)=((max n 1:Nat):Int):=by
 split <;> omega
end RC



namespace RC
open Go
structure WZ (h:List Cell) (P R:List Int):Prop where
 HH :∀x∈P,0≤x∧x < h.length∧ct h x.toNat=0
 CF :∀j,((pc R j+Em h j:Nat):Int)≤ct h j
theorem WZ.skip {h:List Cell} {P R:List Int} {w:Int} (W:WZ h P (w :: R)):WZ h P R:=
 ⟨W.HH,fun j=>by have:=W.CF j;rw[KV] at this;split at this <;> omega⟩
theorem WZ.at {h:List Cell} {P R:List Int} {w:Int} (W:WZ h P (w :: R)) (hw:1000≤w):(w - 1000).toNat < h.length∧1≤ct h (w - 1000).toNat:=by
 have:=W.CF (w - 1000).toNat
 rw[KV,if_pos (by omega)] at this
 have h1:1≤ct h (w - 1000).toNat:=by omega
 exact⟨G6 (by omega),h1⟩
theorem JN {h g:List Cell} (hl:g.length=h.length) (hf :∀k,fl g k=fl h k) (j:Nat):Em g j=Em h j:=by
 show DO g _ j g.length=DO h _ j h.length
 rw[hl]
 exact Ek fun i _=>by rw[hf]
theorem WZ.lower {h:List Cell} {P R:List Int} {w:Int} (W:WZ h P (w :: R)) (hw:1000≤w) :
  WZ (h.set (w - 1000).toNat ⟨ct h (w - 1000).toNat - 1,(cat h (w - 1000).toNat).tag,(cat h (w - 1000).toNat).fields⟩) (if ct h (w - 1000).toNat - 1=0 then P ++ [w - 1000] else P) R:=by
 obtain⟨h1,h2⟩:=W.at hw
 have hc :∀k,ct (h.set (w - 1000).toNat ⟨ct h (w - 1000).toNat - 1,(cat h (w - 1000).toNat).tag,(cat h (w - 1000).toNat).fields⟩) k=if k=(w - 1000).toNat then ct h k - 1 else ct h k:=fun k=>by
  unfold ct
  rw[G7 h1]
  by_cases e:k=(w - 1000).toNat
  ·subst e;simp only[if_true]
  ·simp only[e,if_false]
 have hf :∀k,fl (h.set (w - 1000).toNat ⟨ct h (w - 1000).toNat - 1,(cat h (w - 1000).toNat).tag,(cat h (w - 1000).toNat).fields⟩) k=fl h k:=fun k=>by
  rw[B1,B1,G7 h1]
  by_cases e:k=(w - 1000).toNat
  ·subst e;simp only[if_true]
  ·simp only[e,if_false]
 refine⟨fun x hx=>?_,fun j=>?_⟩
 ·have DB :∀y∈P,0≤y∧y < (h.set (w - 1000).toNat ⟨ct h (w - 1000).toNat - 1,(cat h (w - 1000).toNat).tag,(cat h (w - 1000).toNat).fields⟩).length∧ct (h.set (w - 1000).toNat ⟨ct h (w - 1000).toNat - 1,(cat h (w - 1000).toNat).tag,(cat h (w - 1000).toNat).fields⟩) y.toNat=0:=fun y hy=>by
   obtain⟨a,b,c⟩:=W.HH y hy
   rw[hc,List.length_set]
   refine⟨a,b,?_⟩
   rw[if_neg (fun e=>by rw[e] at c;omega)];exact c
  by_cases e:ct h (w - 1000).toNat - 1=0
  ·rw[if_pos e] at hx
   rcases List.mem_append.1 hx with h | h
   ·exact DB x h
   ·rw[List.mem_singleton] at h
    subst h
    rw[hc,if_pos rfl,List.length_set]
    exact⟨by omega,by omega,e⟩
  ·rw[if_neg e] at hx;exact DB x hx
 ·have:=W.CF j
  rw[KV] at this
  rw[hc,JN (List.length_set) hf]
  by_cases e:j=(w - 1000).toNat
  ·rw[if_pos (by omega)] at this;rw[if_pos e];omega
  ·rw[if_neg (by omega)] at this;rw[if_neg e];omega
theorem P4 {h:List Cell} {x j:Nat} {p:Nat→Bool} (hx:x < h.length) :∀n,x < n→p x=true→DO (h.set x ⟨0,0,[]⟩) p j n+pc (fl h x) j=DO h p j n:=by
 intro n
 induction n with
 | zero=>intro h0;omega
 | succ n ih=>
  intro h0 hp
  unfold DO
  by_cases e:x=n
  ·subst e
   rw[Ek (g:=h) (q:=p) (n:=x) (fun i hi=>by
    have:¬ i=x:=by omega
    rw[B1,B1,G7 hx,if_neg this]),B1,G7 hx,if_pos rfl,if_pos hp,if_pos hp]
   simp[Ed]
  ·have:=ih (by omega) hp
   have e':¬ n=x:=fun h=>e h.symm
   have e2:fl (h.set x ⟨0,0,[]⟩) n=fl h n:=by rw[B1,B1,G7 hx,if_neg e']
   rw[e2];omega
theorem WZ.free {h:List Cell} {P:List Int} {x:Int} (W:WZ h (x :: P) []):WZ (h.set x.toNat ⟨0,0,[]⟩) P (fl h x.toNat):=by
 obtain⟨h0,h1,h2⟩:=W.HH x (List.mem_cons_self ..)
 have hx:x.toNat < h.length:=by omega
 have hc :∀k,ct (h.set x.toNat ⟨0,0,[]⟩) k=ct h k:=fun k=>by
  unfold ct at *
  rw[G7 hx]
  by_cases e:k=x.toNat
  ·subst e;simp only[if_true];exact h2.symm
  ·simp only[e,if_false]
 refine⟨fun y hy=>?_,fun j=>?_⟩
 ·obtain⟨a,b,c⟩:=W.HH y (List.mem_cons_of_mem _ hy)
  rw[hc,List.length_set];exact⟨a,b,c⟩
 ·have:=W.CF j
  rw[Ed] at this
  have e:=P4 (h:=h) (x:=x.toNat) (j:=j) (p:=fun _=>true) hx h.length hx rfl
  rw[hc]
  show ((pc (fl h x.toNat) j+DO (h.set x.toNat ⟨0,0,[]⟩) (fun _=>true) j (h.set x.toNat ⟨0,0,[]⟩).length:Nat):Int)≤ct h j
  rw[List.length_set]
  have e2:Em h j=DO h (fun _=>true) j h.length:=rfl
  omega
theorem JP {h:List Cell} {n j:Nat} (hj:j < n):cat (h.take n) j=cat h j:=by
 unfold cat
 rw[List.getElem?_take,if_pos hj]
theorem Pf {h:List Cell} {p:Nat→Bool} {j n:Nat} :∀m,m≤n→DO (h.take n) p j m=DO h p j m:=by
 intro m hm
 refine Ek fun i hi=>?_
 rw[B1,B1,JP (by omega)]
theorem P1 {h:List Cell} {p:Nat→Bool} {j n:Nat} :∀m,DO h p j n≤DO h p j (n+m):=by
 intro m
 induction m with
 | zero=>exact Nat.le_refl _
 | succ m ih=>
  show _≤DO h p j (n+m) + _
  omega
theorem WZ.cut {h:List Cell} {P R:List Int} (W:WZ h P R) {n:Nat} (hn:n≤h.length) (hz :∀k,n≤k→ct h k=0) (hp :∀x∈P,x < n):WZ (h.take n) P R:=by
 refine⟨fun x hx=>?_,fun j=>?_⟩
 ·obtain⟨a,b,c⟩:=W.HH x hx
  have:=hp x hx
  refine⟨a,by rw[List.length_take];omega,?_⟩
  unfold ct at *
  rw[JP (by omega)];exact c
 ·have h1:=W.CF j
  have h2:Em (h.take n) j≤Em h j:=by
   show DO (h.take n) _ j (h.take n).length≤DO h _ j h.length
   rw[List.length_take,Nat.min_eq_left hn,Pf _ (Nat.le_refl _)]
   have e:h.length=n+(h.length - n):=by omega
   rw[e]
   exact P1 _
  by_cases hj:j < n
  ·have:ct (h.take n) j=ct h j:=by unfold ct;rw[JP hj]
   omega
  ·have h3:=hz j (by omega)
   have:ct (h.take n) j=0:=by unfold ct;rw[Co (by rw[List.length_take];omega)]
   omega
theorem LV.wz {z:BK} (V:LV z):WZ z.cells z.pending []:=by
 obtain⟨h1,h2,h3,h4⟩:=V
 have hgd :∀x∈z.pending,0≤x∧x < z.cells.length∧ct z.cells x.toNat=0∧Cj (rs z.cells z.pending) (rs z.cells z.pending) x.toNat=0:=fun x hx=>by
  obtain⟨k,hk⟩:=List.mem_iff_getElem?.1 hx
  have hkl:=(List.getElem?_eq_some_iff.1 hk).1
  have a:=(FH (Nat.zero_le _)).1 h1 k (Nat.zero_le _) hkl
  have b:=(FH (Nat.zero_le _)).1 h4 k (Nat.zero_le _) hkl
  obtain⟨a1,a2,a3,_⟩:=(It hk).1 a
  unfold zr at b
  rw[hk] at b
  exact⟨a1,a2,a3,by simpa using b⟩
 have hin :∀j,Em (rs z.cells z.pending) j=Em z.cells j:=JN (GF _ _) fun k=>by rw[B1,B1,QW]
 have hnn :∀j,0≤ct z.cells j:=fun j=>by
  by_cases hj:j < z.cells.length
  ·have:=List.all_eq_true.1 h2 _ (DM hj)
   rw[decide_eq_true_eq] at this
   exact this
  ·unfold ct;rw[Co (by omega)];exact Int.le_refl _
 have hct :∀j,ct (rs z.cells z.pending) j=if (j:Int)∈z.pending then 1 else ct z.cells j:=fun j=>by
  by_cases hj:j < z.cells.length
  ·unfold ct;rw[Mo hj];unfold Ib;split <;> rfl
  ·have hj':¬ (j:Int)∈z.pending:=fun h=>by have:=(hgd _ h).2.1;omega
   rw[if_neg hj']
   unfold ct;rw[Co (by rw[GF];omega),Co (by omega)]
 refine⟨fun x hx=>⟨(hgd x hx).1,(hgd x hx).2.1,(hgd x hx).2.2.1⟩,fun j=>?_⟩
 rw[Ed,Nat.zero_add,← hin]
 by_cases hj:(j:Int)∈z.pending
 ·have h5:=(hgd _ hj).2.2.2
  rw[Int.toNat_natCast,Hj,hct,if_pos hj,if_pos (by omega)] at h5
  have:=hnn j
  omega
 ·by_cases hc:0 < ct (rs z.cells z.pending) j
  ·have:=h3.CF hc
   rw[hct,if_neg hj] at this;exact this
  ·have h6:Em (rs z.cells z.pending) j=0:=JU fun i _ _=>by
    cases h7:pc (fl (rs z.cells z.pending) i) j with
    | zero=>rfl
    | succ m=>
     have:=h3.fields i _ (Gw.1 (by omega:0 < pc (fl (rs z.cells z.pending) i) j)) (by omega)
     rw[show (1000+(j:Int) - 1000).toNat=j by omega] at this
     exact absurd this hc
   have:=hnn j
   omega
end RC



namespace RC
open Go
structure GZ (n:Nat) (h:List Cell) (P:List Int):Prop where
 sm:Sm 18 1000 h
 pl:P.length≤n
 ok:P=[]∨WZ h P []
theorem GZ.up {n m:Nat} {h:List Cell} {P:List Int} (G:GZ n h P) (hm:n≤m):GZ m h P:=⟨G.sm,by have:=G.pl;omega,G.ok⟩
theorem GZ.pi {n:Nat} {h:List Cell} {P:List Int} (G:GZ n h P) :∀x∈P,Dz x:=fun x hx=>by
 rcases G.ok with rfl | W
 ·cases hx
 ·obtain⟨a,b,_⟩:=W.HH x hx
  have:=G.sm.len
  exact⟨by omega,by omega⟩
theorem GZ.lz {n:Nat} {h:List Cell} {P:List Int} (G:GZ n h P) (hn:n≤1000):Lz ⟨h,P⟩:=by
 have H:=G.sm.hp (by omega) (by omega)
 exact⟨by show Bs h+P.length≤1048576;have:=G.sm.size;have:=G.pl;omega,H.cells,G.pi⟩
theorem Mm {h:List Cell} {P:List Int} (H:Hp h) (hP:P.length≤1048576) {N:Nat} (hN:2000000≤N):EF N h P=some ⟨h,P⟩:=by
 unfold EF
 rw[Ff H hN,Ew hP];rfl
theorem Nh (z:BK) :∀n i l,Cb z.pending n i l=Bz z n i l:=by
 intro n
 induction n with
 | zero=>intro i l;rfl
 | succ n ih=>
  intro i l
  rw[Cb,Bz]
  simp only[ih]
theorem NW (z:BK) (N:Nat):DD N z.cells z.pending=C2 N z:=by
 unfold DD C2
 simp only[Nh]
theorem LV.gd {z:BK} (V:LV z) :∀x∈z.pending,0≤x∧x < z.cells.length∧ct z.cells x.toNat=0:=V.wz.HH
theorem LV.Cj {z:BK} (V:LV z) {j:Nat} (hj:0 < ct z.cells j):Cj (rs z.cells z.pending) (rs z.cells z.pending) j=Em z.cells j:=by
 have hn:¬ (j:Int)∈z.pending:=fun h=>by
  have:=(V.gd _ h).2.2
  rw[Int.toNat_natCast] at this;omega
 have hl:=G6 (h:=z.cells) (j:=j) (by omega)
 have hc:ct (rs z.cells z.pending) j=ct z.cells j:=by
  unfold ct;rw[Mo hl];unfold Ib;rw[if_neg hn]
 rw[Hj,hc,if_pos hj]
 exact JN (GF _ _) (fun k=>by rw[B1,B1,QW]) j
def MK (h:List Cell) (w:Int):List Cell:=h.set (w - 1000).toNat ⟨ct h (w - 1000).toNat - 1,(cat h (w - 1000).toNat).tag,(cat h (w - 1000).toNat).fields⟩
def MR (h:List Cell) (P:List Int) (w:Int):List Int:=if ct h (w - 1000).toNat - 1=0 then P ++ [w - 1000] else P
theorem Ja (h:List Cell) (P:List Int) (w:Int):(MR h P w).length≤P.length+1:=by
 unfold MR;split
 ·simp
 ·omega
theorem Nj {h:List Cell} {P R:List Int} {w:Int} (S:Sm 18 1000 h) (W:WZ h P (w :: R)) (hw:1000≤w):Sm 18 1000 (MK h w):=by
 obtain⟨h1,h2⟩:=W.at hw
 obtain⟨a,b,l,u,t⟩:=S.cells _ (DM h1)
 exact S.set ⟨a,b,by show _≤ct h (w - 1000).toNat - 1;omega,by show ct h (w - 1000).toNat - 1≤_;have:ct h (w - 1000).toNat≤1000000+1000:=u;omega,t⟩
theorem MV {h:List Cell} {P R:List Int} {w:Int} (S:Sm 18 1000 h) (W:WZ h P (w :: R)) (hw:1000≤w) (hP:P.length≤1000):Eu h P w=some ⟨MK h w,MR h P w⟩:=by
 obtain⟨h1,h2⟩:=W.at hw
 have hl:=S.len
 have u:(cat h (w - 1000).toNat).count≤1000000+1000:=(S.cells _ (DM h1)).hi
 have h2':1≤(cat h (w - 1000).toNat).count:=h2
 unfold Eu
 rw[A0 (n:=w - 1000) (by omega) (by omega),C7 (by omega),Cq h1]
 simp only[Option.bind_some]
 rw[A0 (n:=(cat h (w - 1000).toNat).count - 1) (by omega) (by omega)]
 have hput:Sh.put h (w - 1000) ⟨(cat h (w - 1000).toNat).count - 1,(cat h (w - 1000).toNat).tag,(cat h (w - 1000).toNat).fields⟩=MK h w:=rfl
 have hget:Sh.get (MK h w) (w - 1000)=some ⟨(cat h (w - 1000).toNat).count - 1,(cat h (w - 1000).toNat).tag,(cat h (w - 1000).toNat).fields⟩:=by
  rw[C7 (by omega)]
  unfold MK
  rw[List.getElem?_set_self h1];rfl
 rw[hput,hget]
 simp only[Option.bind_some]
 unfold MR
 by_cases e:ct h (w - 1000).toNat - 1=0
 ·have e':(cat h (w - 1000).toNat).count - 1=0:=e
  rw[if_pos (by simpa using e'),EO _ _ 8 (by simp;omega) (by simp;omega),if_pos e];rfl
 ·have e':¬ (cat h (w - 1000).toNat).count - 1=0:=e
  rw[if_neg (by simpa using e'),if_neg e];rfl
theorem Kj (c:Cell) (hc:c.fields.length≤3) :∀(K N k:Nat) (h:List Cell) (P:List Int),c.fields.length - k≤K→K < N→k≤c.fields.length→Sm 18 1000 h→WZ h P (c.fields.drop k)→P.length+K≤1000→
  As (CS c N (k:Int) h P) fun q=>Sm 18 1000 q.1∧WZ q.1 q.2 []∧q.2.length≤P.length+K:=by
 intro K
 induction K with
 | zero=>
  intro N k h P hk hN hk2 S W hP
  obtain⟨N',rfl⟩ :∃N',N=N' + 1:=⟨N - 1,by omega⟩
  rw[CS,if_neg (by simp[Ac];omega)]
  rw[List.drop_eq_nil_of_le (by omega)] at W
  exact As.some ⟨S,W,by show P.length≤_;omega⟩
 | succ K ih=>
  intro N k h P hk hN hk2 S W hP
  obtain⟨N',rfl⟩ :∃N',N=N' + 1:=⟨N - 1,by omega⟩
  by_cases hlt:k < c.fields.length
  ·obtain⟨x,hx,_⟩:=B3 hlt
   rw[drop_cons hx] at W
   rw[CS,if_pos (by simp[Ac];omega),BE hx]
   simp only[Option.bind_some,BL]
   rw[A0 (by omega) (by omega),show ((k:Int) + 1)=((k+1:Nat):Int) by omega]
   by_cases hp:1000≤x
   ·rw[if_pos (by simpa using hp),MV S W hp (by omega)]
    simp only[Option.bind_some]
    refine (ih N' (k+1) (MK h x) (MR h P x) (by omega) (by omega) (by omega) (Nj S W hp) (W.lower hp) (by have:=Ja h P x;omega)).mono fun q ⟨a,b,d⟩=>⟨a,b,by have:=Ja h P x;omega⟩
   ·rw[if_neg (by simpa using hp)]
    simp only[Option.bind_some]
    exact (ih N' (k+1) h P (by omega) (by omega) (by omega) S W.skip (by omega)).mono fun q ⟨a,b,d⟩=>⟨a,b,by omega⟩
  ·rw[CS,if_neg (by simp[Ac];omega)]
   rw[List.drop_eq_nil_of_le (by omega)] at W
   exact As.some ⟨S,W,by show P.length≤_;omega⟩
theorem NH {h:List Cell} {P:List Int} (hl:h.length≤1000) (hP:P.length≤1048576) {M:Nat} (hM:2000000≤M) :∀(n N:Nat),n < N→n≤h.length→(∀k,n≤k→ct h k=0∧(k < h.length→¬ (k:Int)∈P))→
  As (CG M h P N (n:Int)) fun v=>∃m:Nat,v=(m:Int)∧m≤h.length∧∀k,m≤k→ct h k=0∧(k < h.length→¬ (k:Int)∈P):=by
 intro n
 induction n with
 | zero=>
  intro N hN hn hk
  obtain⟨N',rfl⟩ :∃N',N=N' + 1:=⟨N - 1,by omega⟩
  rw[CG]
  exact As.some ⟨0,rfl,by omega,hk⟩
 | succ n ih=>
  intro N hN hn hk
  obtain⟨N',rfl⟩ :∃N',N=N' + 1:=⟨N - 1,by omega⟩
  rw[CG,if_pos (by simp),A0 (by omega) (by omega),show (((n+1:Nat):Int) - 1)=(n:Int) by omega,BE (Cq (by omega:n < h.length)),L4 hP hM]
  simp only[Option.bind_some]
  by_cases h1:(cat h n).count=0
  ·rw[if_pos (by simpa using h1)]
   by_cases h2:(n:Int)∈P
   ·simp only[h2,decide_true,Bool.not_true,Option.bind_some,Bool.false_eq_true,if_false]
    exact As.some ⟨n+1,rfl,hn,hk⟩
   ·simp only[h2,decide_false,Bool.not_false,Option.bind_some,if_true]
    refine ih N' (by omega) (by omega) fun k hk2=>?_
    by_cases e:k=n
    ·subst e;exact⟨h1,fun _=>h2⟩
    ·exact hk k (by omega)
  ·rw[if_neg (by simpa using h1)]
   simp only[Option.bind_some,Bool.false_eq_true,if_false]
   exact As.some ⟨n+1,rfl,hn,hk⟩
theorem Lu {h:List Cell} {P:List Int} {n:Nat} (G:GZ n h P) (hn:n≤1000) {M:Nat} (hM:2000000≤M):As (D5 M h P) fun g=>GZ n g P:=by
 have hl:=G.sm.len
 have hpl:=G.pl
 unfold D5
 rw[Ac]
 refine As.bind (NH (h:=h) (P:=P) (by omega) (by omega) hM h.length M (by omega) (Nat.le_refl _) fun k hk=>⟨by unfold ct;rw[Co hk],fun h=>by omega⟩) ?_
 rintro v ⟨m,rfl,hm,hz⟩
 refine B5 (KK hm) (As.some ⟨⟨by rw[List.length_take];omega,fun c hc=>G.sm.cells c (List.mem_of_mem_take hc)⟩,hpl,?_⟩)
 rcases G.ok with h1 | W
 ·exact .inl h1
 ·refine .inr (W.cut hm (fun k hk=>(hz k hk).1) fun x hx=>?_)
  obtain⟨a,b,_⟩:=W.HH x hx
  by_cases e:x < m
  ·exact e
  ·have:=(hz x.toNat (by omega)).2 (by omega)
   rw[show ((x.toNat:Nat):Int)=x by omega] at this
   exact absurd hx this
theorem N0 {h:List Cell} {P:List Int} {n:Nat} (G:GZ n h P) (hn:n≤500) {M:Nat} (hM:2000000≤M):As (Ey M h P 1) fun q=>GZ (n+3) q.cells q.pending:=by
 unfold Ey
 obtain⟨M',rfl⟩ :∃M',M=M' + 2:=⟨M - 2,by omega⟩
 have hpl:=G.pl
 have hl:=G.sm.len
 refine As.bind (R:=fun q=>GZ (n+3) q.1 q.2) ?_ fun q G2=>?_
 ·rw[Cy,if_pos (by decide),Ac]
  simp only[Option.bind_some]
  cases P with
  | nil=>
   rw[if_neg (by simp)]
   exact As.some (G.up (by omega))
  | cons x P=>
   have W:WZ h (x :: P) []:=by
    rcases G.ok with h1 | W
    ·cases h1
    ·exact W
   obtain⟨x0,x1,x2⟩:=W.HH x (List.mem_cons_self ..)
   have hx:x.toNat < h.length:=by omega
   simp only[List.length_cons] at hpl
   rw[if_pos (by simp),show Sh.get (x :: P) 0=some x from rfl]
   simp only[Option.bind_some]
   rw[C7 x0,Cq hx]
   simp only[Option.bind_some]
   have hsl:Sh.sl (x :: P) 1 (((x :: P).length:Nat):Int)=some P:=by
    unfold Sh.sl
    rw[if_pos ⟨by omega,by simp;omega,by simp⟩];simp
   rw[hsl]
   simp only[Option.bind_some]
   rw[Ew (by omega)]
   simp only[Option.bind_some]
   have hput:Sh.put h x ⟨0,0,[]⟩=h.set x.toNat ⟨0,0,[]⟩:=rfl
   have hfl:=(G.sm.cells _ (DM hx)).fl
   have W2:=W.free
   rw[B1] at W2
   have t:=Kj (cat h x.toNat) hfl 3 (M' + 2) 0 (h.set x.toNat ⟨0,0,[]⟩) P (by omega) (by omega) (by omega) (G.sm.set ⟨by simp,fun x hx=>(by cases hx),by show (_:Int)≤0;decide,by show (0:Int)≤_;decide,⟨by show (_:Int)≤0;decide,by show (0:Int)≤_;decide⟩⟩) (by rw[List.drop_zero];exact W2) (by omega)
   rw[hput]
   refine As.bind t ?_
   rintro⟨g,Q⟩ ⟨a,b,d⟩
   dsimp only at a b d ⊢
   rw[Cy,if_neg (by decide)]
   simp only[Option.bind_some,Bool.false_eq_true,if_false]
   exact As.some ⟨a,by show Q.length≤_;omega,.inr b⟩
 ·obtain⟨g,Q⟩:=q
  dsimp only at G2 ⊢
  exact As.bind (Lu G2 (by omega) (by omega)) fun q11 G3=>As.some G3
end RC



namespace RC
open Go
abbrev Rb:List Int→Prop:=H5 U8
theorem As.true {x:Option Bool} (h:As x (·=Bool.true)):x=Option.some Bool.true:=by obtain⟨v,e,rfl⟩:=h;exact e
def sm (f:Nat→Nat):Nat→Nat
 | 0=>0
 | n+1=>sm f n+f n
theorem NB {l:List Int} {x:Int} (hl:l.length≤1048576) {N i:Nat} (hi:i≤l.length) (hN:l.length - i < N):Cp l x N i=some (if x∈l.drop i then Sum.inl true else Sum.inr ()):=by
 refine BH l.length (fun N i=>Cp l x N i=some (if x∈l.drop i then Sum.inl true else Sum.inr ())) ?_ ?_ hi hN
 ·intro n
  rw[Cp,if_neg (by simp[Ac])];simp
 ·intro n i hi ih
  obtain⟨y,hy,_⟩:=B3 hi
  rw[Cp,if_pos (by simp[Ac];omega),BE hy]
  simp only[Option.bind_some]
  rw[A0 (by omega) (by omega),show ((i:Int) + 1)=((i+1:Nat):Int) by omega,ih,drop_cons hy]
  by_cases e:y=x
  ·subst e;simp
  ·have e':¬ x=y:=fun h=>e h.symm
   simp[e,e']
theorem QZ {l:List Int} {x:Int} (hl:l.length≤1048576) {N:Nat} (hN:2000000≤N):Fw N l x=some (decide (x∈l)):=by
 unfold Fw
 have:=NB (x:=x) hl (Nat.zero_le _) (by omega:l.length - 0 < N)
 rw[show ((0:Nat):Int)=0 from rfl,List.drop_zero] at this
 rw[this]
 by_cases h:x∈l <;> simp[h]
end RC



namespace RC
open Go
theorem Lj {h:List Cell} {P:List Int} {n:Nat} {w:Int} (G:GZ n h P) (hn:n≤500) (hw:Dz w) {M:Nat} (hM:2000000≤M):As (EG M h P w) fun q=>q.2=true→GZ (n+1) q.1.cells q.1.pending:=by
 have L:=G.lz (by omega)
 have hpl:=G.pl
 have hl:=G.sm.len
 have H:=L.hp
 obtain⟨b,e1,_,e3⟩:=HO L hM
 have e2:Cx M ⟨h,P⟩=some b:=by
  unfold Cw at e1
  cases hq:Cx M ⟨h,P⟩ with
  | none=>rw[hq] at e1;cases e1
  | some v=>rw[hq] at e1;exact e1
 unfold EG
 rw[e2]
 simp only[Option.bind_some]
 cases b with
 | false=>
  simp only[Bool.not_false,if_true,Option.bind_some]
  exact As.some fun h=>by cases h
 | true=>
  have V:=e3.1 rfl
  have W:WZ h P []:=V.wz
  simp only[Bool.not_true,Bool.false_eq_true,if_false]
  rw[G9 H.len hw]
  simp only[Option.bind_some]
  cases hword:CE h w with
  | false=>
   simp only[Bool.not_false,if_true]
   exact As.some fun h=>by cases h
  | true=>
   simp only[Bool.not_true,Bool.false_eq_true,if_false]
   rw[Mm H (by omega) hM]
   simp only[Option.bind_some,BL]
   by_cases hp:1000≤w
   ·have hlv:0 < ct h (w - 1000).toNat:=by have:=hword;rw[EH hp] at this;simpa using this
    have hj:(w - 1000).toNat < h.length:=G6 (by omega)
    rw[if_pos (by simpa using hp),N1 hp hw hj]
    have hr:DD M h P=some (rs h P):=by
     have:=NW ⟨h,P⟩ M
     rw[show DD M h P=C2 M ⟨h,P⟩ from this]
     exact Kl L V.1 hM
    simp only[Option.bind_some]
    rw[hr]
    simp only[Option.bind_some]
    rw[Fs (Q3 H P) hM]
    simp only[Option.bind_some]
    have hwb:=hw
    rw[A0 (by omega) (by omega),LQ (by omega) (by rw[GF];omega)]
    simp only[Option.bind_some]
    rw[show Cj (rs h P) (rs h P) (w - 1000).toNat=Em h (w - 1000).toNat from V.Cj hlv]
    by_cases he:(cat h (w - 1000).toNat).count=(Em h (w - 1000).toNat:Int)
    ·rw[if_pos (by simpa using he)]
     exact As.some fun h=>by cases h
    ·rw[if_neg (by simpa using he)]
     have W1:WZ h P [w]:=⟨W.HH,fun j=>by
      have h1:=W.CF j
      rw[Ed] at h1
      rw[Gq]
      split
      ·rename_i e
       have ej:j=(w - 1000).toNat:=by omega
       subst ej
       have:ct h (w - 1000).toNat≠(Em h (w - 1000).toNat:Int):=he
       omega
      ·omega⟩
     rw[MV G.sm W1 hp (by omega)]
     simp only[Option.bind_some]
     exact As.some fun _=>⟨Nj G.sm W1 hp,by have:=Ja h P w;show (MR h P w).length≤_;omega,.inr (W1.lower hp)⟩
   ·rw[if_neg (by simpa using hp)]
    exact As.some fun _=>⟨G.sm,by show P.length≤_;omega,.inr W⟩
theorem JW {b:List Int} (Bb:Bk b) {M:Nat} (hM:2000000≤M) :∀(K N:Nat) (f F:Int) (n:Nat) (h:List Cell) (P:List Int),K < N→At f F→F+5 * K≤900000→n+10 * K≤200→GZ n h P→
  As (CH M b N (K:Int) f h P) fun q=>At q.1 (F+5 * K)∧GZ (n+10 * K) q.2.1 q.2.2:=by
 intro K
 induction K with
 | zero=>
  intro N f F n h P hN hf hF hn G
  obtain⟨N',rfl⟩ :∃N',N=N' + 1:=⟨N - 1,by omega⟩
  rw[CH,if_neg (by simp)]
  exact As.some ⟨⟨hf.1,by have:=hf.2;show f≤_;omega⟩,G⟩
 | succ K ih=>
  intro N f F n h P hN hf hF hn G
  obtain⟨N',rfl⟩ :∃N',N=N' + 1:=⟨N - 1,by omega⟩
  obtain⟨f0,f1⟩:=hf
  have hl:=G.sm.len
  rw[CH,if_pos (by simp),Ac]
  simp only[Option.bind_some]
  refine Bi (fun h0=>?_) fun _=>As.some ⟨⟨f0,by show f≤_;omega⟩,G.up (by omega)⟩
  refine As.bind (R:=fun q=>At q.1 (F+5)∧GZ (n+10) q.2.1 q.2.2) ?_ ?_
  ·refine As.bind (CC Bb ⟨f0,by omega⟩) fun q27 ⟨a1,a2,a3,_⟩=>?_
   have a4:=a3 (by omega)
   rw[A0 (by omega) (by omega)]
   refine As.bind (Lj (w:=1000+q27.1) G (by omega) ⟨by omega,by omega⟩ hM) fun q28 hq28=>?_
   refine As.bind (R:=fun q=>GZ (n+1) q.1 q.2) (D0 (fun e=>As.some (hq28 e)) fun _=>As.some (G.up (by omega))) ?_
   rintro⟨l31,l32⟩ G2
   dsimp only at G2 ⊢
   refine As.bind (CC Bb ⟨by omega,by omega⟩) fun q35 ⟨b1,b2,b3,_⟩=>?_
   refine Bi (fun _=>?_) fun _=>As.some ⟨⟨by show 0≤q35.2;omega,by show q35.2≤_;omega⟩,G2.up (by omega)⟩
   exact As.bind (N0 G2 (by omega) hM) fun q37 G3=>As.some ⟨⟨by show 0≤q35.2;omega,by show q35.2≤_;omega⟩,G3.up (by omega)⟩
  ·rintro⟨f22,l23,l24⟩ ⟨⟨c1,c2⟩,c3⟩
   dsimp only at c1 c2 c3 ⊢
   rw[A0 (by omega) (by omega),show (((K+1:Nat):Int) - 1)=(K:Int) by omega]
   exact (ih N' f22 (F+5) (n+10) l23 l24 (by omega) ⟨c1,c2⟩ (by omega) (by omega) c3).mono fun q ⟨r1,r2⟩=>⟨⟨r1.1,by have:=r1.2;omega⟩,r2.up (by omega)⟩
theorem Ly {b:List Int} (Bb:Bk b) {M:Nat} (hM:2000000≤M) {p:Int} (hp:At p 1000):As (D8 M b p) fun q=>GZ 60 q.1.cells q.1.pending∧At q.2 4000:=by
 unfold D8
 refine As.bind (Lo Bb hM hp false) ?_
 rintro q3 ⟨S,g0,g1⟩
 refine As.bind (CC Bb ⟨g0,by omega⟩) fun q6 ⟨a1,a2,a3,_⟩=>?_
 have a4:=a3 (by decide)
 obtain⟨k,hk⟩:=Int.eq_ofNat_of_zero_le a2
 rw[hk]
 refine As.bind (JW Bb hM k M q6.2 3001 0 q3.1 [] (by omega) ⟨by omega,by omega⟩ (by omega) (by omega) ⟨S,by simp,.inl rfl⟩) ?_
 rintro⟨f11,l12,l13⟩ ⟨⟨c1,c2⟩,c3⟩
 dsimp only at c1 c2 c3 ⊢
 exact As.some ⟨c3.up (by omega),c1,by show f11≤_;omega⟩
structure LD (z:BK):Prop where
 sm:Sm 18 1001 z.cells
 pl:z.pending.length≤100
 pi :∀x∈z.pending,Dz x
theorem LD.lz {z:BK} (D:LD z):Lz z:=by
 have H:=D.sm.hp (by omega) (by omega)
 exact⟨by have:=D.sm.size;have:=D.pl;omega,H.cells,D.pi⟩
theorem Mw {b:List Int} (Bb:Bk b) {M:Nat} (hM:2000000≤M) {p:Int} (hp:At p 1000):As (EX M b p) fun q=>LD q.1:=by
 unfold EX
 refine As.bind (Ly Bb hM hp) ?_
 rintro q3 ⟨G,g0,g1⟩
 have hl:=G.sm.len
 have hpl:=G.pl
 have S:=G.sm.up (Nat.le_refl _) (show (1000:Int)≤1001 by omega)
 refine As.bind (R:=fun q=>LD ⟨q.2.2,q.2.1⟩) ?_ ?_
 ·refine As.bind (CC Bb ⟨g0,by omega⟩) fun q12 ⟨a1,a2,a3,_⟩=>?_
  rw[Ac,TB]
  refine Bi (fun _=>?_) fun _=>Bi (fun _=>?_) fun _=>Bi (fun _=>?_) fun _=>As.some ⟨S,by show q3.1.pending.length≤100;omega,G.pi⟩
  ·refine As.bind (CC Bb ⟨by omega,by omega⟩) fun q15 ⟨b1,b2,b3,_⟩=>?_
   have b4:=b3 (by omega)
   refine As.bind (KM Bb ⟨by omega,by omega⟩ (by simp) (by simp)) fun q16 O=>?_
   have g2:=NZ O (l:=-1) (u:=100) ⟨by omega,by omega⟩ ⟨by omega,by omega⟩ ⟨by omega,by omega⟩ ⟨by omega,by omega⟩
   refine As.app (by simp;omega) (by simp;omega) (As.some ⟨S,by simp;omega,fun x hx=>?_⟩)
   rcases List.mem_append.1 hx with h1 | h1
   ·exact G.pi x h1
   ·rw[List.mem_singleton] at h1;rw[h1];exact⟨by omega,by omega⟩
  ·rw[Ac]
   refine Bi (fun h0=>?_) fun _=>As.some ⟨S,by show q3.1.pending.length≤100;omega,G.pi⟩
   have hsl:Sh.sl q3.1.pending 1 (q3.1.pending.length:Int)=some (q3.1.pending.drop 1):=by
    unfold Sh.sl
    rw[if_pos ⟨by omega,by omega,by omega⟩];simp
   exact B5 hsl (As.some ⟨S,by simp;omega,fun x hx=>G.pi x (List.mem_of_mem_drop hx)⟩)
  ·refine Bi (fun h0=>?_) fun _=>As.some ⟨S,by show q3.1.pending.length≤100;omega,G.pi⟩
   refine As.bind (CC Bb ⟨by omega,by omega⟩) fun q29 ⟨b1,b2,b3,_⟩=>?_
   have b4:=b3 (by omega)
   refine As.get b2 (by omega) fun c30 _ hc=>?_
   obtain⟨d1,d2,d3,d4,d5⟩:=G.sm.cells c30 hc
   refine As.bind (KM Bb ⟨by omega,by omega⟩ (by simp) (by simp)) fun q31 O=>?_
   have hm:=O.mem
   simp only[List.mem_cons,List.not_mem_nil,or_false] at hm
   refine As.some ⟨S.set ⟨d1,d2,?_,?_,d5⟩,by show q3.1.pending.length≤100;omega,G.pi⟩
   ·show _≤Sh.w (c30.count+q31.1);rw[A0 (by omega) (by omega)];omega
   ·show Sh.w (c30.count+q31.1)≤_;rw[A0 (by omega) (by omega)];omega
 ·rintro⟨f6,f7,l8⟩ D
  exact As.some D
theorem IU {code:List Int} (h8 :∀x∈code,U8 x) (hl:code.length≤1048576) {M:Nat} (hM:2000000≤M):As (C0 M code) LD:=by
 unfold C0
 refine As.bind (Km h8 hl) fun q3 ⟨B,h0⟩=>?_
 rw[h0]
 exact As.bind (Mw B hM ⟨by omega,by omega⟩) fun q4 D=>As.some D
end RC

