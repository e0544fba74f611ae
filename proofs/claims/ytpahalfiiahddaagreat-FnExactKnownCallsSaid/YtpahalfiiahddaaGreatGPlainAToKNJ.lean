import Derived.Test.YtpahalfiiahddaaGreatGAbsXToSSDefs
import Derived.Test.YtpahalfiiahddaaGreatGHADefsToKCDefs

namespace RC
open Go
theorem BQ {n:Int} (h1:-9223372036854775808≤n) (h2:n≤9223372036854775807):Sh.w n=n:=Abs.wrap_i64 h1 h2
theorem AT {α:Type} (l:List α):Sh.len l=(l.length:Int):=rfl
theorem Mb {α:Type} (l:List α) (i:Nat):Sh.get l (i:Int)=l[i]?:=by
 unfold Sh.get;rw[if_pos (Int.natCast_nonneg i)];simp
theorem BJ {α:Type} {l:List α} {i:Nat} {x:α} (h:l[i]?=some x):Sh.get l (i:Int)=some x:=by rw[Mb,h]
theorem RQ {α:Type} {l:List α} {j:Int} (h0:0≤j) (h1:j < l.length) :∃x,Sh.get l j=some x∧l[j.toNat]?=some x:=by
 have h:l[j.toNat]?=some (l[j.toNat]'(by omega)):=List.getElem?_eq_getElem (by omega)
 exact⟨_,by unfold Sh.get;rw[if_pos h0,h],h⟩
theorem Sq {α:Type} {l:List α} {j:Int} (h0:0≤j):Sh.get l j=l[j.toNat]?:=by unfold Sh.get;rw[if_pos h0]
theorem HX {α:Type} (l:List α) (i:Nat) (x:α):Sh.put l (i:Int) x=l.set i x:=by simp[Sh.put]
theorem Jz {α:Type} (x:α) (n b:Nat) (h:n * b≤281474976710656) (h2:n≤9223372036854775807):Sh.mk x (n:Int) b=some (List.replicate n x):=by
 unfold Sh.mk
 rw[if_pos ⟨by omega,by rw[← Int.natCast_mul];omega,by omega⟩];simp
theorem DX {α:Type} (l m:List α) (b:Nat) (h:(l.length+m.length) * b≤140737488355328) (h2:l.length+m.length≤9223372036854775807):Sh.app l m b=some (l ++ m):=by
 unfold Sh.app;rw[if_pos ⟨h,h2⟩]
theorem Zz {α:Type} {l:List α} {j:Nat} (h:j≤l.length):Sh.hi l (j:Int)=some (l.take j):=by
 unfold Sh.hi;rw[if_pos ⟨by omega,by omega⟩];simp
theorem B7 (len:Nat) (P:Nat→Nat→Prop) (h0 :∀n,P (n+1) len) (hs :∀n i,i < len→P n (i+1)→P (n+1) i) :∀{N i:Nat},i≤len→len - i < N→P N i:=by
 intro N i hi hN
 obtain⟨k,hk⟩ :∃k,len - i=k:=⟨_,rfl⟩
 induction k generalizing N i with
 | zero=>
  obtain⟨n,rfl⟩ :∃n,N=n+1:=⟨N - 1,by omega⟩
  have:i=len:=by omega
  subst this;exact h0 n
 | succ k ih=>
  obtain⟨n,rfl⟩ :∃n,N=n+1:=⟨N - 1,by omega⟩
  exact hs n i (by omega) (ih (by omega) (by omega) (by omega))
theorem B3 {α:Type} {l:List α} {i:Nat} (h:i < l.length) :∃x,l[i]?=some x∧x∈l:=⟨l[i],List.getElem?_eq_getElem h,List.getElem_mem h⟩
theorem Cn {α:Type} {l:List α} {j:Nat} {x:α} (h:l[j]?=some x):l.take (j+1)=l.take j ++ [x]:=by rw[List.take_add_one,h];rfl
theorem drop_cons {α:Type} {l:List α} {j:Nat} {x:α} (h:l[j]?=some x):l.drop j=x :: l.drop (j+1):=by
 obtain⟨hj,rfl⟩:=List.getElem?_eq_some_iff.1 h
 exact List.drop_eq_getElem_cons hj
def XS (h:List Cell):Nat:=(h.map fun c=>c.fields.length).sum
def E7 (h:List Cell):Nat:=h.length+XS h
structure Hp (h:List Cell):Prop where
 size:E7 h≤1048576
 cells :∀c∈h,Sy c
theorem Wq {h:List Cell} {c:Cell} (hc:c∈h):c.fields.length≤XS h:=by
 induction h with
 | nil=>cases hc
 | cons d h ih=>
  simp only[XS,List.map_cons,List.sum_cons] at ih ⊢
  rcases List.mem_cons.1 hc with rfl | hc
  ·omega
  ·have:=ih hc;omega
theorem Hp.len {h:List Cell} (H:Hp h):h.length≤1048576:=by have:=H.size;unfold E7 at this;omega
theorem Hp.Mr {h:List Cell} (H:Hp h) {c:Cell} (hc:c∈h):c.fields.length≤1048576:=by have:=H.size;have:=Wq hc;unfold E7 at *;omega
end RC



namespace RC
open Go
def ER {α:Type} (f:Nat→α→Bool):Nat→List α→Bool
 | _,[]=>true
 | k,x :: r=>f k x && ER f (k+1) r
theorem O7 {α:Type} {f g:Nat→α→Bool} :∀(l:List α) (k:Nat),(∀(i:Nat) x,l[i]?=some x→f (k+i) x=g (k+i) x)→ER f k l=ER g k l
 | [],_,_=>rfl
 | x :: r,k,h=>by
  have h0:=h 0 x rfl
  rw[Nat.add_zero] at h0
  have h1:=O7 r (k+1) fun i y hy=>(show k+(i+1)=k+1+i by omega) ▸ h (i+1) y hy
  rw[ER,ER,h0,h1]
theorem Df {α:Type} {p:α→Bool} :∀(l:List α) (k:Nat),ER (fun _ x=>p x) k l=l.all p
 | [],_=>rfl
 | x :: r,k=>by rw[ER,Df r (k+1),List.all_cons]
theorem C8 {α:Type} {l:List α} (L:Nat→Int→Option (Bool ⊕ Unit)) (f:Nat→α→Bool) (h0 :∀n,L (n+1) (l.length:Int)=some (.inr ()))
  (hs :∀n (i:Nat) x,l[i]?=some x→L (n+1) (i:Int)=if f i x=true then L n ((i+1:Nat):Int) else some (.inl false)) {N:Nat} (hN:l.length < N) :
  L N 0=some (if ER f 0 l=true then .inr () else .inl false):=by
 have key :∀{N i:Nat},i≤l.length→l.length - i < N→L N (i:Int)=some (if ER f i (l.drop i)=true then .inr () else .inl false):=by
  intro N i hi hN
  refine B7 l.length (fun N i=>L N (i:Int)=some (if ER f i (l.drop i)=true then .inr () else .inl false)) ?_ ?_ hi hN
  ·intro n;rw[h0 n];simp[ER]
  ·intro n i hi ih
   obtain⟨x,hx,_⟩:=B3 hi
   rw[hs n i x hx,ih,drop_cons hx,ER]
   cases h:f i x <;> simp
 have:=key (Nat.zero_le _) (by omega:l.length - 0 < N)
 simpa using this
theorem EK {β:Type} {b:Bool} {g:Bool→β} {K:Unit→Option β}:Sh.cont (some (if b=true then Sum.inr () else Sum.inl false)) g K=if b=true then K () else some (g false):=by
 cases b <;> rfl
theorem T0 {α:Type} {l:List α} {j:Nat} (h:j≤l.length) (h2:l.length≤9223372036854775807):Sh.sl l 0 (j:Int)=some (l.take j):=by
 unfold Sh.sl
 rw[if_pos ⟨by omega,by omega,by omega⟩];simp
end RC


namespace RC
open Go
theorem Q2 {l:List Int} {left:Int} (h0:0≤left) (h1:left≤1048576) (hl:l.length≤9223372036854775807):HD l left=some (if left - l.length < 0 then -1 else left - l.length):=by
 unfold HD
 rw[AT,BQ (by omega) (by omega)]
 by_cases h:left - l.length < 0 <;> simp[h]
theorem SE {l:List Int} (hl:l.length≤1048576) {N i:Nat} (hi:i≤l.length) (hN:l.length - i < N) :∀m:List Int,m.length=l.length→m.take i=l.take i→Dz l N i m=some l:=by
 refine B7 l.length (fun N i=>∀m:List Int,m.length=l.length→m.take i=l.take i→Dz l N i m=some l) ?_ ?_ hi hN
 ·intro n m hm ht
  rw[Dz,if_neg (by simp[AT])]
  rw[List.take_of_length_le (by omega),List.take_length] at ht
  rw[ht]
 ·intro n i hi ih m hm ht
  obtain⟨x,hx,_⟩:=B3 hi
  obtain⟨y,hy,_⟩:=B3 (l:=m) (i:=i) (by omega)
  rw[Dz,if_pos (by simp[AT];omega),BJ hx]
  simp only[Option.bind_some]
  rw[BJ hy]
  simp only[Option.bind_some]
  rw[BQ (by omega) (by omega),HX,show ((i:Int) + 1)=((i+1:Nat):Int) by omega]
  refine ih _ (by simp[hm]) ?_
  rw[Cn hx,Cn (x:=x) (by rw[List.getElem?_set];simp;omega),List.take_set_of_le (Nat.le_refl _),ht]
theorem Rs {l:List Int} (hl:l.length≤1048576) {N:Nat} (hN:2000000≤N):HC N l=some l:=by
 unfold HC
 rw[AT,Jz 0 l.length 8 (by omega) (by omega)]
 simp only[Option.bind_some]
 have:=SE hl (Nat.zero_le _) (by omega:l.length - 0 < N) (List.replicate l.length 0) (by simp) (by simp)
 rw[show ((0:Nat):Int)=0 from rfl] at this
 rw[this];rfl
theorem R4 {l:List Int} (hl:l.length≤1048576) {N i:Nat} (hi:i≤l.length) (hN:l.length - i < N):D2 l l N i=some (Sum.inr ()):=by
 refine B7 l.length (fun N i=>D2 l l N i=some (Sum.inr ())) ?_ ?_ hi hN
 ·intro n
  rw[D2,if_neg (by simp[AT])]
 ·intro n i hi ih
  obtain⟨x,hx,_⟩:=B3 hi
  rw[D2,if_pos (by simp[AT];omega),BJ hx]
  simp only[Option.bind_some]
  rw[BQ (by omega) (by omega),show ((i:Int) + 1)=((i+1:Nat):Int) by omega]
  simpa using ih
theorem Q7 {l:List Int} (hl:l.length≤1048576) {N:Nat} (hN:2000000≤N):HH N l l=some true:=by
 unfold HH
 have:=R4 hl (Nat.zero_le _) (by omega:l.length - 0 < N)
 rw[show ((0:Nat):Int)=0 from rfl] at this
 simp[this]
end RC


namespace RC
open Go
def Zp (h:List Cell) (w:Int):Bool:=decide (1000≤w) && (match h[(w - 1000).toNat]? with | some c=>decide (0 < c.count) | none=>false)
theorem EB (a b c:Int):CJ a b c=some (decide (b≤a) && decide (a≤c)):=by
 unfold CJ
 by_cases h:b≤a <;> simp[h]
end RC



namespace RC
open Go
def DW (D:List Ah) (t:Int):Bool:=decide (0≤t) && decide (t≤(D.length:Int))
theorem KW {D:List Ah} {x:Int}:CJ x 0 (Sh.len D)=some (DW D x):=by rw[EB];rfl
theorem KT {D:List Ah} {l:List Int} (hl:l.length≤1048576) {N:Nat} (hN:l.length < N):F7 N D l=some (l.all (DW D)):=by
 unfold F7
 rw[C8 (l:=l) (Dk D l) (fun _ x=>DW D x) (fun n=>by rw[Dk,if_neg (by simp[AT])]) (fun n i x hx=>?_) hN,EK,Df]
 ·cases l.all (DW D) <;> rfl
 ·have hi:=(List.getElem?_eq_some_iff.1 hx).1
  rw[Dk,if_pos (by simp[AT];omega),BJ hx]
  simp only[Option.bind_some]
  rw[KW,BQ (by omega) (by omega),show ((i:Int) + 1)=((i+1:Nat):Int) by omega]
  simp only[Option.bind_some]
  cases DW D x <;> rfl
theorem Hl {D:List Ah} {t:Int}:Fe D t=some (DW D t):=by
 unfold Fe DW
 by_cases h:0≤t <;> by_cases h2:t≤(D.length:Int) <;> simp[h,h2,AT]
theorem H4 {D:List Ah} {l:List Int} (hl:l.length≤1048576) {N:Nat} (hN:l.length < N):FN N D l=some (l.all (DW D)):=by
 unfold FN
 rw[C8 (l:=l) (Dg D l) (fun _ x=>DW D x) (fun n=>by rw[Dg,if_neg (by simp[AT])]) (fun n i x hx=>?_) hN,EK,Df]
 ·cases l.all (DW D) <;> rfl
 ·have hi:=(List.getElem?_eq_some_iff.1 hx).1
  rw[Dg,if_pos (by simp[AT];omega),BJ hx]
  simp only[Option.bind_some]
  rw[Hl,BQ (by omega) (by omega),show ((i:Int) + 1)=((i+1:Nat):Int) by omega]
  simp only[Option.bind_some]
  cases DW D x <;> rfl
def Nd (D:List Ah) (c:Ba):Bool:=decide (c.fields.length≤3) && c.fields.all (DW D)
def Fv (a b:Ah):Bool:=decide (a.cons.length=0) && (decide (a.from_=b.from_) && decide (a.to=b.to))
def JP (D:List Ah) (i:Nat) (d:Ah):Bool:=
 if 0 < d.cons.length then (decide (d.cons.length≤3) && (decide (d.from_=0) && decide (d.to=0))) && d.cons.all (Nd D)
 else (D.take i).all (fun e=>!Fv e d) && (DW D d.from_ && DW D d.to)
def Py (D:List Ah) (i:Nat) (d:Ah):Bool:=
 ((DW D d.from_ && (DW D d.to && (decide (d.cons.length≤3) && (!(decide (0 < d.cons.length) && (!decide (d.from_=0) || !decide (d.to=0))))))) && d.cons.all (Nd D)) && (D.take i).all (fun e=>!(decide (d.cons.length=0) && Fv e d))
theorem Vj (D:List Ah) (i:Nat) (d:Ah):Py D i d=JP D i d:=by
 unfold Py JP
 by_cases h:0 < d.cons.length
 ·have h0:¬ d.cons.length=0:=by omega
  have ha:(D.take i).all (fun e=>!(decide (d.cons.length=0) && Fv e d))=true:=by simp[h0]
  rw[if_pos h,ha]
  by_cases h1:d.from_=0 <;> by_cases h2:d.to=0 <;> simp[h,h1,h2,DW]
 ·have h0:d.cons.length=0:=by omega
  have hc:d.cons=[]:=List.eq_nil_of_length_eq_zero h0
  rw[if_neg h]
  simp only[hc,h0,List.length_nil,List.all_nil,decide_true,Bool.true_and,Bool.and_true]
  cases DW D d.from_ <;> cases DW D d.to <;> simp
structure NF (D:List Ah):Prop where
 len:D.length≤1048576
 cons :∀d∈D,d.cons.length≤1048576
 Mm :∀d∈D,∀c∈d.cons,c.fields.length≤1048576
theorem OI {D:List Ah} (hD:NF D) {i:Nat} {d:Ah} (hd:D[i]?=some d) {N:Nat} (hN:2000000≤N):GX N D i=some (JP D i d):=by
 have hm:=List.mem_of_getElem? hd
 have hi:=(List.getElem?_eq_some_iff.1 hd).1
 have hlen:=hD.len
 have hc:=hD.cons d hm
 unfold GX JP
 rw[BJ hd]
 simp only[Option.bind_some]
 by_cases h:0 < d.cons.length
 ·rw[if_pos (by simp[AT];omega),if_pos h]
  rw[C8 (l:=d.cons) (DR N d D) (fun _ c=>Nd D c) (fun n=>by rw[DR,if_neg (by simp[AT])]) (fun n j c hj=>?_) (by omega),EK,Df]
  ·simp only[AT]
   by_cases h3:d.cons.length≤3
   ·have e3:¬ (3:Int) < (d.cons.length:Int):=by omega
    generalize d.cons.all (Nd D)=z
    cases z <;> by_cases h1:d.from_=0 <;> by_cases h2:d.to=0 <;> simp[h1,h2,h3,e3]
   ·have e3:(3:Int) < (d.cons.length:Int):=by omega
    simp[h3,e3]
  ·have hj':=(List.getElem?_eq_some_iff.1 hj).1
   have hf:=hD.Mm d hm c (List.mem_of_getElem? hj)
   rw[DR,if_pos (by simp[AT];omega),BJ hj]
   simp only[Option.bind_some]
   rw[KT hf (by omega),BQ (by omega) (by omega),show ((j:Int) + 1)=((j+1:Nat):Int) by omega]
   unfold Nd
   by_cases h3:c.fields.length≤3
   ·have e3:¬ (3:Int) < (c.fields.length:Int):=by omega
    simp only[AT]
    cases c.fields.all (DW D) <;> simp[h3,e3]
   ·have e3:(3:Int) < (c.fields.length:Int):=by omega
    simp[h3,e3,AT]
 ·have h0:d.cons.length=0:=by omega
  have e0:¬ decide ((0:Int) < Sh.len d.cons)=true:=by rw[AT,h0];simp
  rw[if_neg e0,if_neg h]
  have hlt:(D.take i).length=i:=by simp;omega
  rw[C8 (l:=D.take i) (DP d D i) (fun _ e=>!Fv e d) (fun n=>by rw[DP,if_neg (by simp;omega)]) (fun n j e hj=>?_) (by omega),EK,Df]
  ·rw[KW,KW]
   simp only[Option.bind_some]
   cases (D.take i).all (fun e=>!Fv e d) <;> cases DW D d.from_ <;> simp
  ·have hj':=(List.getElem?_eq_some_iff.1 hj).1
   have hje:D[j]?=some e:=by rw[List.getElem?_take] at hj;split at hj <;> first | exact hj | cases hj
   rw[DP,if_pos (by simp;omega),BJ hje]
   simp only[Option.bind_some]
   rw[BQ (by omega) (by omega),show ((j:Int) + 1)=((j+1:Nat):Int) by omega]
   unfold Fv
   simp only[AT]
   by_cases a0:e.cons.length=0 <;> by_cases a1:e.from_=d.from_ <;> by_cases a2:e.to=d.to <;> simp[a0,a1,a2]
def KM (D:List Ah):Bool:=decide (D.length≤4) && ER (JP D) 0 D
theorem NO {D:List Ah} (hD:NF D) {N:Nat} (hN:2000000≤N):GA N D=some (KM D):=by
 have hlen:=hD.len
 unfold GA KM
 rw[C8 (l:=D) (DB N D) (JP D) (fun n=>by rw[DB,if_neg (by simp[AT])]) (fun n i d hd=>?_) (by omega),EK]
 ·simp only[AT]
  by_cases h:D.length≤4
  ·have e4:¬ (4:Int) < (D.length:Int):=by omega
   cases ER (JP D) 0 D <;> simp[h,e4]
  ·have e4:(4:Int) < (D.length:Int):=by omega
   simp[h,e4]
 ·have hi:=(List.getElem?_eq_some_iff.1 hd).1
  rw[DB,if_pos (by simp[AT];omega),OI hD hd hN]
  simp only[Option.bind_some]
  rw[BQ (by omega) (by omega),show ((i:Int) + 1)=((i+1:Nat):Int) by omega]
  cases JP D i d <;> rfl
theorem Na {D:List Ah} (hD:NF D) {N:Nat} (hN:2000000≤N):GF N D=some (KM D):=by
 have hlen:=hD.len
 unfold GF KM
 rw[← O7 (f:=Py D) D 0 (fun i d _=>Vj D _ d)]
 rw[C8 (l:=D) (C9 N D) (Py D) (fun n=>by rw[C9,if_neg (by simp[AT])]) (fun n i d hd=>?_) (by omega),EK]
 ·simp only[AT]
  by_cases h:D.length≤4
  ·have e4:¬ (4:Int) < (D.length:Int):=by omega
   cases ER (Py D) 0 D <;> simp[h,e4]
  ·have e4:(4:Int) < (D.length:Int):=by omega
   simp[h,e4]
 ·have hi:=(List.getElem?_eq_some_iff.1 hd).1
  have hm:=List.mem_of_getElem? hd
  have hc:=hD.cons d hm
  have l2:Ca N d D N 0=some (if d.cons.all (Nd D)=true then .inr () else .inl false):=by
   rw[C8 (l:=d.cons) (Ca N d D) (fun _ c=>Nd D c) (fun n=>by rw[Ca,if_neg (by simp[AT])]) (fun n j c hj=>?_) (by omega),Df]
   have hj':=(List.getElem?_eq_some_iff.1 hj).1
   have hf:=hD.Mm d hm c (List.mem_of_getElem? hj)
   rw[Ca,if_pos (by simp[AT];omega),BJ hj]
   simp only[Option.bind_some]
   rw[H4 hf (by omega),BQ (by omega) (by omega),show ((j:Int) + 1)=((j+1:Nat):Int) by omega]
   unfold Nd
   by_cases h3:c.fields.length≤3
   ·have e3:¬ (3:Int) < (c.fields.length:Int):=by omega
    simp only[AT]
    cases c.fields.all (DW D) <;> simp[h3,e3]
   ·have e3:(3:Int) < (c.fields.length:Int):=by omega
    simp[h3,e3,AT]
  have hlt:(D.take i).length=i:=by simp;omega
  have l3:CZ d (D.take i) N 0=some (if (D.take i).all (fun e=>!(decide (d.cons.length=0) && Fv e d))=true then .inr () else .inl false):=by
   rw[C8 (l:=D.take i) (CZ d (D.take i)) (fun _ e=>!(decide (d.cons.length=0) && Fv e d)) (fun n=>by rw[CZ,if_neg (by simp[AT])]) (fun n j e hj=>?_) (by omega),Df]
   have hj':=(List.getElem?_eq_some_iff.1 hj).1
   rw[CZ,if_pos (by simp only[AT];simp;omega),BJ hj]
   simp only[Option.bind_some]
   rw[BQ (by omega) (by omega),show ((j:Int) + 1)=((j+1:Nat):Int) by omega]
   unfold Fv
   simp only[AT]
   by_cases b0:d.cons.length=0 <;> by_cases a0:e.cons.length=0 <;> by_cases a1:e.from_=d.from_ <;> by_cases a2:e.to=d.to <;> simp[a0,a1,a2,b0]
  rw[C9,if_pos (by simp[AT];omega),BJ hd]
  simp only[Option.bind_some]
  rw[Hl,Hl,l2,T0 (by omega) (by omega),BQ (by omega) (by omega),show ((i:Int) + 1)=((i+1:Nat):Int) by omega]
  simp only[Option.bind_some]
  rw[l3,EK,EK]
  unfold Py
  simp only[AT]
  generalize d.cons.all (Nd D)=z1
  generalize (D.take i).all (fun e=>!(decide (d.cons.length=0) && Fv e d))=z2
  by_cases h3:d.cons.length≤3
  ·have e3:¬ (3:Int) < (d.cons.length:Int):=by omega
   by_cases h0:0 < d.cons.length
   ·have e0:(0:Int) < (d.cons.length:Int):=by omega
    cases DW D d.from_ <;> cases DW D d.to <;> cases z1 <;> cases z2 <;> by_cases h1:d.from_=0 <;> by_cases h2:d.to=0 <;> simp[h1,h2,h3,e3,h0]
   ·have e0:¬ (0:Int) < (d.cons.length:Int):=by omega
    cases DW D d.from_ <;> cases DW D d.to <;> cases z1 <;> cases z2 <;> simp[h3,e3,h0]
  ·have e3:(3:Int) < (d.cons.length:Int):=by omega
   cases DW D d.from_ <;> cases DW D d.to <;> simp[h3,e3]
end RC



namespace RC
open Go
def JW (ps ls:List Int) (i:Nat) (v:Int):Bool:=
 (decide (0≤v) && decide (v < (ps.length:Int))) && (!decide (ps[v.toNat]?=some 0) && !(decide (0 < i) && decide (v≤(ls[i - 1]?).getD 0)))
theorem Wt {ls:List Int} {i:Nat} (h0:0 < i) (hi:i < ls.length) :∃x,ls[i - 1]?=some x∧Sh.get ls (((i:Nat):Int) - 1)=some x:=by
 obtain⟨x,hx,_⟩:=B3 (l:=ls) (i:=i - 1) (by omega)
 exact⟨x,hx,by rw[show ((i:Int) - 1)=((i - 1:Nat):Int) by omega,BJ hx]⟩
theorem SN {c:BV} (hp:c.params.length≤1048576) (hl:c.Ec.length≤1048576) {N:Nat} (hN:2000000≤N):C0 c N 0=some (if ER (JW c.params c.Ec) 0 c.Ec=true then .inr () else .inl false):=by
 refine C8 (l:=c.Ec) (C0 c) (JW c.params c.Ec) (fun n=>by rw[C0,if_neg (by simp[AT])]) (fun n i v hv=>?_) (by omega)
 have hi:=(List.getElem?_eq_some_iff.1 hv).1
 rw[C0,if_pos (by simp[AT];omega),BJ hv]
 simp only[Option.bind_some]
 rw[AT,BQ (n:=(i:Int) + 1) (by omega) (by omega),BQ (n:=(i:Int) - 1) (by omega) (by omega),show ((i:Int) + 1)=((i+1:Nat):Int) by omega]
 unfold JW
 by_cases h0:0≤v
 ·have h0':¬ v < 0:=by omega
  by_cases h1:v < (c.params.length:Int)
  ·have h1':¬ (c.params.length:Int)≤v:=by omega
   obtain⟨d,e1,e2⟩:=RQ h0 h1
   rw[e1,e2]
   by_cases hi0:0 < i
   ·obtain⟨x,g1,g2⟩:=Wt hi0 hi
    rw[g1,g2]
    by_cases hc:d=0 <;> by_cases hx:v≤x <;> simp[h0,h0',h1,h1',hc,hi0,hx]
   ·by_cases hc:d=0 <;> simp[h0,h0',h1,h1',hc,hi0]
  ·have h1':(c.params.length:Int)≤v:=by omega
   simp[h0,h0',h1,h1']
 ·have h0':v < 0:=by omega
  simp[h0,h0']
def LK (D:List Ah) (ps:List Int) (r:Int):Bool:=decide (ps.length≤3) && (ps.all (DW D) && DW D r)
theorem PK {p:Ag} (hf:p.funcs.length≤1048576) (hp :∀f∈p.funcs,f.params.length≤1048576) {N:Nat} (hN:2000000≤N):Cw N p N 0=some (if (p.funcs.all fun f=>LK p.decls f.params f.result)=true then .inr () else .inl false):=by
 rw[← Df _ 0]
 refine C8 (l:=p.funcs) (Cw N p) (fun _ f=>LK p.decls f.params f.result) (fun n=>by rw[Cw,if_neg (by simp[AT])]) (fun n i f hi=>?_) (by omega)
 have hi':=(List.getElem?_eq_some_iff.1 hi).1
 have hpf:=hp f (List.mem_of_getElem? hi)
 rw[Cw,if_pos (by simp[AT];omega),BJ hi]
 simp only[Option.bind_some]
 rw[KT hpf (by omega),KW,BQ (by omega) (by omega),show ((i:Int) + 1)=((i+1:Nat):Int) by omega]
 unfold LK
 simp only[AT]
 by_cases h3:f.params.length≤3
 ·have e3:¬ (3:Int) < (f.params.length:Int):=by omega
  generalize f.params.all (DW p.decls)=z
  cases z <;> cases DW p.decls f.result <;> simp[h3,e3]
 ·have e3:(3:Int) < (f.params.length:Int):=by omega
  simp[h3,e3]
theorem Pj {D:List Ah} {l:List BV} (hf:l.length≤1048576) (hp :∀f∈l,f.params.length≤1048576∧f.Ec.length≤1048576) {N:Nat} (hN:2000000≤N):Cz N D l N 0=some (if (l.all fun f=>LK D f.params f.result && ER (JW f.params f.Ec) 0 f.Ec)=true then .inr () else .inl false):=by
 rw[← Df _ 0]
 refine C8 (l:=l) (Cz N D l) (fun _ f=>LK D f.params f.result && ER (JW f.params f.Ec) 0 f.Ec) (fun n=>by rw[Cz,if_neg (by simp[AT])]) (fun n i f hi=>?_) (by omega)
 have hi':=(List.getElem?_eq_some_iff.1 hi).1
 have hpf:=hp f (List.mem_of_getElem? hi)
 rw[Cz,if_pos (by simp[AT];omega),BJ hi]
 simp only[Option.bind_some]
 rw[H4 hpf.1 (by omega),Hl,SN hpf.1 hpf.2 hN,EK,BQ (by omega) (by omega),show ((i:Int) + 1)=((i+1:Nat):Int) by omega]
 unfold LK
 simp only[AT]
 generalize ER (JW f.params f.Ec) 0 f.Ec=y
 by_cases h3:f.params.length≤3
 ·have e3:¬ (3:Int) < (f.params.length:Int):=by omega
  generalize f.params.all (DW D)=z
  cases z <;> cases DW D f.result <;> cases y <;> simp[h3,e3]
 ·have e3:(3:Int) < (f.params.length:Int):=by omega
  simp[h3,e3]
end RC
namespace RC
open Go
def TE (D:List (List Int×Int)):Bool:=match D with | []=>false | (ps,r) :: _=>decide (ps.length=0) && decide (r=0)
def LU (D:List Ah) (l:List (List Int×Int)):Bool:=KM D && ((decide (1≤l.length) && decide (l.length≤4)) && (l.all (fun s=>LK D s.1 s.2) && TE l))
theorem Np {p:Ag} (hD:NF p.decls) (hf:p.funcs.length≤1048576) (hp :∀f∈p.funcs,f.params.length≤1048576) {N:Nat} (hN:2000000≤N):Fb N p=some (LU p.decls (p.funcs.map fun f=>(f.params,f.result))):=by
 unfold Fb LU
 rw[NO hD hN,PK hf hp hN,EK,EB]
 simp only[Option.bind_some,List.length_map,List.all_map,Function.comp_def]
 cases KM p.decls with
 | false=>simp
 | true=>
  cases hl:p.funcs with
  | nil=>simp[AT]
  | cons f r=>
   have e0:Sh.get (f :: r) 0=some f:=rfl
   rw[e0]
   generalize (f :: r).all (fun f=>LK p.decls f.params f.result)=z
   simp only[List.map_cons,TE]
   have q1:decide ((1:Int)≤Sh.len (f :: r))=true:=decide_eq_true (by rw[AT,List.length_cons];omega)
   have q2:decide (1≤(f :: r).length)=true:=by simp
   have q3:decide (Sh.len (f :: r)≤4)=decide ((f :: r).length≤4):=decide_eq_decide.2 (by rw[AT];omega)
   have q4:decide (Sh.len f.params=0)=decide (f.params.length=0):=decide_eq_decide.2 (by rw[AT];omega)
   simp only[q1,q2,q3,q4,Option.bind_some]
   cases decide ((f :: r).length≤4) <;> cases z <;> by_cases a1:f.params.length=0 <;> by_cases a2:f.result=0 <;> simp[a1,a2]
theorem OL {D:List Ah} {l:List BV} (hD:NF D) (hf:l.length≤1048576) (hp :∀f∈l,f.params.length≤1048576∧f.Ec.length≤1048576) {N:Nat} (hN:2000000≤N) :
  GV N D l=some (LU D (l.map fun f=>(f.params,f.result)) && l.all (fun f=>ER (JW f.params f.Ec) 0 f.Ec)):=by
 unfold GV LU
 rw[Na hD hN,Pj hf hp hN,EK]
 have hsplit:(l.all fun f=>LK D f.params f.result && ER (JW f.params f.Ec) 0 f.Ec)=((l.all fun f=>LK D f.params f.result) && (l.all fun f=>ER (JW f.params f.Ec) 0 f.Ec)):=by
  clear hf hp
  induction l with
  | nil=>rfl
  | cons f r ih=>
   simp only[List.all_cons,ih]
   cases LK D f.params f.result <;> cases ER (JW f.params f.Ec) 0 f.Ec <;> simp
 rw[hsplit]
 simp only[Option.bind_some,List.length_map,List.all_map,Function.comp_def]
 cases KM D with
 | false=>simp
 | true=>
  cases hl:l with
  | nil=>simp[AT]
  | cons f r=>
   have e0:Sh.get (f :: r) 0=some f:=rfl
   rw[e0]
   generalize (f :: r).all (fun f=>LK D f.params f.result)=z
   generalize (f :: r).all (fun f=>ER (JW f.params f.Ec) 0 f.Ec)=y
   simp only[List.map_cons,TE]
   have q1:decide (Sh.len (f :: r) < 1)=false:=decide_eq_false (by rw[AT,List.length_cons];omega)
   have q2:decide (1≤(f :: r).length)=true:=by simp
   have q3:decide ((4:Int) < Sh.len (f :: r))=!decide ((f :: r).length≤4):=by rw[← decide_not];exact decide_eq_decide.2 (by rw[AT];omega)
   have q4:decide ((0:Int) < Sh.len f.params)=!decide (f.params.length=0):=by rw[← decide_not];exact decide_eq_decide.2 (by rw[AT];omega)
   simp only[q1,q2,q3,q4,Option.bind_some]
   cases decide ((f :: r).length≤4) <;> cases z <;> cases y <;> by_cases a1:f.params.length=0 <;> by_cases a2:f.result=0 <;> simp[a1,a2]
end RC



namespace RC
open Go
def nc (D:List Ah):Nat:=(D.map (·.cons.length)).sum
theorem KF {D:List Ah} {i:Nat} {d:Ah} (h:D[i]?=some d):nc (D.take (i+1))=nc (D.take i) + d.cons.length:=by
 rw[Cn h];simp[nc]
theorem O5 {D:List Ah} {i:Nat} {d:Ah} (h:D[i]?=some d):nc (D.drop i)=d.cons.length+nc (D.drop (i+1)):=by
 rw[drop_cons h];simp[nc]
theorem Fx (D:List Ah) (i:Nat):nc D=nc (D.take i) + nc (D.drop i):=by
 unfold nc
 rw[← List.sum_append_nat,← List.map_append,List.take_append_drop]
theorem Gt {D:List Ah} (hD:D.length≤1048576) (hn:nc D≤1048576) {i:Nat} (hi:i≤D.length) {N:Nat} (hN:2000000≤N):FP N D i=some (nc (D.take i):Int):=by
 unfold FP
 have key :∀{N j:Nat},j≤i→i - j < N→DJ D i N (nc (D.take j)) j=some (nc (D.take i):Int):=by
  intro N j hj hN
  refine B7 i (fun N j=>DJ D i N (nc (D.take j)) j=some (nc (D.take i):Int)) ?_ ?_ hj hN
  ·intro n;rw[DJ,if_neg (by simp)]
  ·intro n j hj ih
   obtain⟨d,hd,_⟩:=B3 (l:=D) (i:=j) (by omega)
   have hs:=Fx D (j+1)
   have ht:=KF hd
   rw[DJ,if_pos (by simp;omega),BJ hd]
   simp only[Option.bind_some]
   rw[AT,BQ (n:=(j:Int) + 1) (by omega) (by omega),BQ (by omega) (by omega),show ((nc (D.take j):Int) + (d.cons.length:Int))=((nc (D.take (j+1)):Nat):Int) by omega,show ((j:Int) + 1)=((j+1:Nat):Int) by omega]
   exact ih
 have:=key (Nat.zero_le _) (by omega:i - 0 < N)
 rw[show (((nc (D.take 0):Nat):Int))=0 from rfl,show (((0:Nat):Int))=0 from rfl] at this
 rw[this];rfl
theorem OW {D:List Ah} (hD:D.length≤1048576) (hn:nc D≤1048576) {N:Nat} (hN:2000000≤N):Gz N D=some (nc D:Int):=by
 unfold Gz
 have key :∀{N j:Nat},j≤D.length→D.length - j < N→DK D N (nc (D.take j)) j=some (nc D:Int):=by
  intro N j hj hN
  refine B7 D.length (fun N j=>DK D N (nc (D.take j)) j=some (nc D:Int)) ?_ ?_ hj hN
  ·intro n;rw[DK,if_neg (by simp[AT]),List.take_length]
  ·intro n j hj ih
   obtain⟨d,hd,_⟩:=B3 hj
   have hs:=Fx D (j+1)
   have ht:=KF hd
   rw[DK,if_pos (by simp[AT];omega),BJ hd]
   simp only[Option.bind_some]
   rw[AT,BQ (n:=(j:Int) + 1) (by omega) (by omega),BQ (by omega) (by omega),show ((nc (D.take j):Int) + (d.cons.length:Int))=((nc (D.take (j+1)):Nat):Int) by omega,show ((j:Int) + 1)=((j+1:Nat):Int) by omega]
   exact ih
 have:=key (Nat.zero_le _) (by omega:D.length - 0 < N)
 rw[show (((nc (D.take 0):Nat):Int))=0 from rfl,show (((0:Nat):Int))=0 from rfl] at this
 rw[this];rfl
def Ja:List Ah→Nat→Nat→Option (Nat×Ba)
 | [],_,_=>none
 | d :: r,k,c=>match d.cons[c]? with
  | some x=>some (k+1,x)
  | none=>Ja r (k+1) (c - d.cons.length)
theorem MQ {D:List Ah} (hD:D.length≤1048576) (hn:nc D≤1048576) {c:Nat} (hc:c < nc D) {N:Nat} (hN:2000000≤N) :∃t x,Ja D 0 c=some (t,x)∧GH N D c=some ((t:Int),x):=by
 have key :∀(m j N c:Nat),D.length - j=m→j≤D.length→m < N→c < nc (D.drop j)→∃t x,Ja (D.drop j) j c=some (t,x)∧Dw D N c j=some (.inl ((t:Int),x)):=by
  intro m
  induction m with
  | zero=>
   intro j N c h1 h2 _ h3
   rw[List.drop_eq_nil_of_le (by omega)] at h3;simp[nc] at h3
  | succ m ih=>
   intro j N c h1 h2 h3 h4
   obtain⟨N,rfl⟩ :∃n,N=n+1:=⟨N - 1,by omega⟩
   obtain⟨d,hd,_⟩:=B3 (l:=D) (i:=j) (by omega)
   have hs:=Fx D j
   rw[O5 hd] at h4 hs
   rw[drop_cons hd]
   unfold Ja
   rw[Dw,if_pos (by simp[AT];omega),BJ hd]
   simp only[Option.bind_some]
   rw[if_pos (by simp),AT,BQ (n:=(j:Int) + 1) (by omega) (by omega),BQ (by omega) (by omega)]
   cases hx:d.cons[c]? with
   | some x=>
    have hlt:=(List.getElem?_eq_some_iff.1 hx).1
    refine⟨j+1,x,rfl,?_⟩
    have e:((c:Int) < (d.cons.length:Int)):=by omega
    simp[e,BJ hx]
   | none=>
    have hle:d.cons.length≤c:=by simpa using hx
    obtain⟨t,x,g1,g2⟩:=ih (j+1) N (c - d.cons.length) (by omega) (by omega) (by omega) (by omega)
    refine⟨t,x,g1,?_⟩
    have e:¬ ((c:Int) < (d.cons.length:Int)):=by omega
    rw[← g2,show ((c:Int) - (d.cons.length:Int))=((c - d.cons.length:Nat):Int) by omega,show ((j:Int) + 1)=((j+1:Nat):Int) by omega]
    simp[e]
 obtain⟨t,x,g1,g2⟩:=key D.length 0 N c (by omega) (by omega) (by omega) (by simpa using hc)
 refine⟨t,x,by simpa using g1,?_⟩
 unfold GH
 rw[show (((0:Nat):Int))=0 from rfl] at g2
 rw[g2];rfl
end RC
namespace RC
open Go
theorem Kr {D:List Ah} (hD:D.length≤1048576) (hn:nc D≤1048576) {c:Nat} (hc:c < nc D) {N:Nat} (hN:2000000≤N) :∃t x,Ja D 0 c=some (t,x)∧El N D c=some (t:Int):=by
 have key :∀(m j M c:Nat),D.length - j=m→j≤D.length→m < M→c < nc (D.drop j)→∃t x,Ja (D.drop j) j c=some (t,x)∧Cf N D ((nc (D.take j) + c:Nat):Int) M j=some (.inl (t:Int)):=by
  intro m
  induction m with
  | zero=>
   intro j M c h1 h2 _ h3
   rw[List.drop_eq_nil_of_le (by omega)] at h3;simp[nc] at h3
  | succ m ih=>
   intro j M c h1 h2 h3 h4
   obtain⟨M,rfl⟩ :∃n,M=n+1:=⟨M - 1,by omega⟩
   obtain⟨d,hd,_⟩:=B3 (l:=D) (i:=j) (by omega)
   have hs:=Fx D j
   rw[O5 hd] at h4 hs
   have ht:=KF hd
   rw[drop_cons hd]
   unfold Ja
   rw[Cf,if_pos (by simp[AT];omega),Gt hD hn (by omega) hN,BJ hd]
   simp only[Option.bind_some]
   rw[AT,BQ (n:=(j:Int) + 1) (by omega) (by omega),BQ (n:=(nc (D.take j):Int) + (d.cons.length:Int)) (by omega) (by omega),BQ (by omega) (by omega),EB]
   simp only[Option.bind_some]
   cases hx:d.cons[c]? with
   | some x=>
    have hlt:=(List.getElem?_eq_some_iff.1 hx).1
    refine⟨j+1,x,rfl,?_⟩
    rw[if_pos (by simp;omega)]
    rfl
   | none=>
    have hle:d.cons.length≤c:=by simpa using hx
    obtain⟨t,x,g1,g2⟩:=ih (j+1) M (c - d.cons.length) (by omega) (by omega) (by omega) (by omega)
    refine⟨t,x,g1,?_⟩
    rw[if_neg (by simp;omega),← g2,show nc (D.take j) + c=nc (D.take (j+1)) + (c - d.cons.length) by omega]
    rfl
 obtain⟨t,x,g1,g2⟩:=key D.length 0 N c (by omega) (by omega) (by omega) (by simpa using hc)
 refine⟨t,x,by simpa using g1,?_⟩
 unfold El
 rw[show nc (D.take 0) + c=c by simp[nc],show (((0:Nat):Int))=0 from rfl] at g2
 rw[g2];rfl
theorem Oo {D:List Ah} (hD:D.length≤1048576) (hn:nc D≤1048576) {c:Int} (hc:c < 0∨(nc D:Int)≤c) {N:Nat} (hN:2000000≤N):El N D c=some (-1):=by
 unfold El
 have key :∀{M j:Nat},j≤D.length→D.length - j < M→Cf N D c M j=some (.inr ()):=by
  intro M j hj hM
  refine B7 D.length (fun M j=>Cf N D c M j=some (.inr ())) ?_ ?_ hj hM
  ·intro n;rw[Cf,if_neg (by simp[AT])]
  ·intro n j hj ih
   obtain⟨d,hd,_⟩:=B3 hj
   have hs:=Fx D (j+1)
   have ht:=KF hd
   rw[Cf,if_pos (by simp[AT];omega),Gt hD hn (by omega) hN,BJ hd]
   simp only[Option.bind_some]
   rw[AT,BQ (n:=(j:Int) + 1) (by omega) (by omega),BQ (n:=(nc (D.take j):Int) + (d.cons.length:Int)) (by omega) (by omega),BQ (by omega) (by omega),EB]
   simp only[Option.bind_some]
   rw[if_neg (by simp;omega)]
   exact ih
 have:=key (Nat.zero_le _) (by omega:D.length - 0 < N)
 rw[show (((0:Nat):Int))=0 from rfl] at this
 rw[this];rfl
end RC
namespace RC
open Go
theorem Us {D:List Ah} :∀(m j c t:Nat) (x:Ba),D.length - j=m→j≤D.length→Ja (D.drop j) j c=some (t,x)→∃d,1≤t∧D[t - 1]?=some d∧nc (D.take (t - 1))≤nc (D.take j) + c∧d.cons[nc (D.take j) + c - nc (D.take (t - 1))]?=some x:=by
 intro m
 induction m with
 | zero=>
  intro j c t x h1 h2 h
  rw[List.drop_eq_nil_of_le (by omega)] at h;simp[Ja] at h
 | succ m ih=>
  intro j c t x h1 h2 h
  obtain⟨d,hd,_⟩:=B3 (l:=D) (i:=j) (by omega)
  have ht:=KF hd
  rw[drop_cons hd] at h
  unfold Ja at h
  cases hx:d.cons[c]? with
  | some y=>
   rw[hx] at h
   simp only[Option.some.injEq,Prod.mk.injEq] at h
   obtain⟨rfl,rfl⟩:=h
   exact⟨d,by omega,by simpa using hd,by simp,by simpa using hx⟩
  | none=>
   rw[hx] at h
   have hle:d.cons.length≤c:=by simpa using hx
   obtain⟨e,g1,g2,g3,g4⟩:=ih (j+1) (c - d.cons.length) t x (by omega) (by omega) h
   rw[show nc (D.take (j+1)) + (c - d.cons.length)=nc (D.take j) + c by omega] at g3 g4
   exact⟨e,g1,g2,g3,g4⟩
theorem J6 {D:List Ah} (hD:D.length≤1048576) (hn:nc D≤1048576) {c:Nat} (hc:c < nc D) {N:Nat} (hN:2000000≤N) :∃t x,Ja D 0 c=some (t,x)∧C4 N D c=some x.fields:=by
 obtain⟨t,x,e1,e2⟩:=Kr hD hn hc hN
 obtain⟨d,g1,g2,g3,g4⟩:=Us (D:=D) D.length 0 c t x (by omega) (by omega) (by simpa using e1)
 have hlt:=(List.getElem?_eq_some_iff.1 g2).1
 have hs:=Fx D (t - 1)
 rw[show nc (D.take 0) + c=c by simp[nc]] at g3 g4
 refine⟨t,x,e1,?_⟩
 unfold C4
 rw[e2]
 simp only[Option.bind_some]
 rw[if_neg (by simp;omega),BQ (n:=(t:Int) - 1) (by omega) (by omega),show ((t:Int) - 1)=((t - 1:Nat):Int) by omega,BJ g2,Gt hD hn (by omega) hN]
 simp only[Option.bind_some]
 rw[BQ (by omega) (by omega),show ((c:Int) - (nc (D.take (t - 1)):Int))=((c - nc (D.take (t - 1)):Nat):Int) by omega,BJ g4]
 rfl
theorem Oz {D:List Ah} (hD:D.length≤1048576) (hn:nc D≤1048576) {c:Nat} (hc:c < nc D) {N:Nat} (hN:2000000≤N) :∃t x,Ja D 0 c=some (t,x)∧C6 N D c=some x.fields:=by
 obtain⟨t,x,e1,e2⟩:=MQ hD hn hc hN
 exact⟨t,x,e1,by unfold C6;rw[e2];rfl⟩
end RC
namespace RC
open Go
def Ic (D:List Ah) (t:Int):List Int:=
 if 1≤t∧t≤(D.length:Int) then (List.range ((D[(t - 1).toNat]?).elim 0 (·.cons.length))).map fun (i:Nat)=>(nc (D.take (t - 1).toNat):Int) + (i:Int) else []
theorem P5 {f:Nat→Int} {i:Nat}:(List.range (i+1)).map f=(List.range i).map f ++ [f i]:=by rw[List.range_succ,List.map_append];rfl
theorem Qa {D:List Ah} (hD:D.length≤1048576) (hn:nc D≤1048576) {t:Int} {N:Nat} (hN:2000000≤N):IX N D t=some (Ic D t):=by
 unfold IX Ic
 rw[EB,AT]
 simp only[Option.bind_some]
 by_cases h:1≤t∧t≤(D.length:Int)
 ·obtain⟨a,ha⟩ :∃a:Nat,t=(a:Int) + 1:=⟨(t - 1).toNat,by omega⟩
  subst ha
  obtain⟨d,hd,_⟩:=B3 (l:=D) (i:=a) (by omega)
  have hs:=Fx D (a+1)
  have ht:=KF hd
  rw[if_neg (by simp;omega),if_pos h,show (((a:Int) + 1) - 1).toNat=a by omega,hd]
  simp only[Option.elim_some]
  have key :∀{M i:Nat},i≤d.cons.length→d.cons.length - i < M→D3 N D ((a:Int) + 1) M i ((List.range i).map fun (i:Nat)=>(nc (D.take a):Int) + (i:Int))=some ((List.range d.cons.length).map fun (i:Nat)=>(nc (D.take a):Int) + (i:Int)):=by
   intro M i hi hM
   refine B7 d.cons.length (fun M i=>D3 N D ((a:Int) + 1) M i ((List.range i).map fun (i:Nat)=>(nc (D.take a):Int) + (i:Int))=some ((List.range d.cons.length).map fun (i:Nat)=>(nc (D.take a):Int) + (i:Int))) ?_ ?_ hi hM
   ·intro n
    rw[D3,BQ (by omega) (by omega),show ((a:Int) + 1 - 1)=((a:Nat):Int) by omega,BJ hd]
    simp only[Option.bind_some]
    rw[if_neg (by simp[AT])]
   ·intro n i hi ih
    rw[D3,BQ (n:=(a:Int) + 1 - 1) (by omega) (by omega),show ((a:Int) + 1 - 1)=((a:Nat):Int) by omega,BJ hd]
    simp only[Option.bind_some]
    rw[if_pos (by simp[AT];omega),Gt hD hn (by omega) hN]
    simp only[Option.bind_some]
    rw[DX _ _ _ (by simp;omega) (by simp;omega),BQ (n:=(i:Int) + 1) (by omega) (by omega),BQ (by omega) (by omega),show ((i:Int) + 1)=((i+1:Nat):Int) by omega]
    simp only[Option.bind_some]
    rw[← ih,P5]
  have:=key (Nat.zero_le _) (by omega:d.cons.length - 0 < N)
  rw[show (((0:Nat):Int))=0 from rfl,List.range_zero,List.map_nil] at this
  rw[this];rfl
 ·rw[if_pos (by simp;omega),if_neg h]
theorem JQ {D:List Ah} (hD:D.length≤1048576) (hn:nc D≤1048576) {t:Int} {N:Nat} (hN:2000000≤N):E6 N D t=some (Ic D t):=by
 unfold E6 Ic
 rw[AT]
 by_cases h:1≤t∧t≤(D.length:Int)
 ·obtain⟨a,ha⟩ :∃a:Nat,t=(a:Int) + 1:=⟨(t - 1).toNat,by omega⟩
  subst ha
  obtain⟨d,hd,_⟩:=B3 (l:=D) (i:=a) (by omega)
  have hs:=Fx D (a+1)
  have hs0:=Fx D a
  have ht:=KF hd
  have e1:¬ ((a:Int) + 1 < 1):=by omega
  have e2:¬ ((D.length:Int) < (a:Int) + 1):=by omega
  rw[if_pos h,show (((a:Int) + 1) - 1).toNat=a by omega,hd,BQ (by omega) (by omega),show ((a:Int) + 1 - 1)=((a:Nat):Int) by omega,T0 (by omega) (by omega),BJ hd]
  simp only[Option.elim_some,e1,e2,decide_false,Bool.false_eq_true,if_false,Option.bind_some]
  rw[OW (by simp;omega) (by omega) hN]
  simp only[Option.bind_some]
  have key :∀{M i:Nat},i≤d.cons.length→d.cons.length - i < M→D0 d (nc (D.take a):Int) M i ((List.range i).map fun (i:Nat)=>(nc (D.take a):Int) + (i:Int))=some ((List.range d.cons.length).map fun (i:Nat)=>(nc (D.take a):Int) + (i:Int)):=by
   intro M i hi hM
   refine B7 d.cons.length (fun M i=>D0 d (nc (D.take a):Int) M i ((List.range i).map fun (i:Nat)=>(nc (D.take a):Int) + (i:Int))=some ((List.range d.cons.length).map fun (i:Nat)=>(nc (D.take a):Int) + (i:Int))) ?_ ?_ hi hM
   ·intro n;rw[D0,if_neg (by simp[AT])]
   ·intro n i hi ih
    rw[D0,if_pos (by simp[AT];omega)]
    rw[DX _ _ _ (by simp;omega) (by simp;omega),BQ (n:=(i:Int) + 1) (by omega) (by omega),BQ (by omega) (by omega),show ((i:Int) + 1)=((i+1:Nat):Int) by omega]
    simp only[Option.bind_some]
    rw[← ih,P5]
  have:=key (Nat.zero_le _) (by omega:d.cons.length - 0 < N)
  rw[show (((0:Nat):Int))=0 from rfl,List.range_zero,List.map_nil] at this
  rw[this];rfl
 ·rw[if_neg h]
  by_cases e1:t < 1
  ·simp[e1]
  ·have e2:(D.length:Int) < t:=by omega
   simp[e1,e2]
end RC



namespace RC
open Go
theorem RT {α:Type} {l:List α} (f:α→Nat) (L:Nat→Int→Int→Option (Int ⊕ Int)) (h0 :∀n left,L (n+1) left (l.length:Int)=some (.inr left))
  (hs :∀n (i:Nat) x left,l[i]?=some x→0≤left→left≤1048576→L (n+1) left (i:Int)=if left - (f x:Int) < 0 then some (.inl (-1)) else L n (left - (f x:Int)) ((i+1:Nat):Int))
  {N:Nat} (hN:l.length < N) {left:Int} (hl0:0≤left) (hl1:left≤1048576):L N left 0=some (if left - ((l.map f).sum:Nat) < 0 then .inl (-1) else .inr (left - ((l.map f).sum:Nat))):=by
 have key :∀{N i:Nat},i≤l.length→l.length - i < N→∀left:Int,0≤left→left≤1048576→L N left (i:Int)=some (if left - (((l.drop i).map f).sum:Nat) < 0 then .inl (-1) else .inr (left - (((l.drop i).map f).sum:Nat))):=by
  intro N i hi hN
  refine B7 l.length (fun N i=>∀left:Int,0≤left→left≤1048576→L N left (i:Int)=some (if left - (((l.drop i).map f).sum:Nat) < 0 then .inl (-1) else .inr (left - (((l.drop i).map f).sum:Nat)))) ?_ ?_ hi hN
  ·intro n left a b
   rw[h0,List.drop_length]
   simp
   omega
  ·intro n i hi ih left a b
   obtain⟨x,hx,_⟩:=B3 hi
   rw[hs n i x left hx a b,drop_cons hx,List.map_cons,List.sum_cons]
   by_cases h:left - (f x:Int) < 0
   ·rw[if_pos h,if_pos (by omega)]
   ·rw[if_neg h,ih (left - (f x:Int)) (by omega) (by omega)]
    rw[show left - ((f x+(List.map f (l.drop (i+1))).sum:Nat):Int)=left - (f x:Int) - ((List.map f (l.drop (i+1))).sum:Nat) by omega]
 have:=key (Nat.zero_le _) (by omega:l.length - 0 < N) left hl0 hl1
 simpa using this
theorem Om {α:Type} {l:List α} (L:Nat→Int→List α→Option (List α)) (h0 :∀n m,L (n+1) (l.length:Int) m=some m)
  (hs :∀n (i:Nat) x m,l[i]?=some x→m.length=l.length→L (n+1) (i:Int) m=L n ((i+1:Nat):Int) (m.set i x)) {N:Nat} (hN:l.length < N) {m:List α} (hm:m.length=l.length):L N 0 m=some l:=by
 have key :∀{N i:Nat},i≤l.length→l.length - i < N→∀m:List α,m.length=l.length→m.take i=l.take i→L N (i:Int) m=some l:=by
  intro N i hi hN
  refine B7 l.length (fun N i=>∀m:List α,m.length=l.length→m.take i=l.take i→L N (i:Int) m=some l) ?_ ?_ hi hN
  ·intro n m a b
   rw[h0]
   rw[List.take_length,← a,List.take_length] at b
   rw[b]
  ·intro n i hi ih m a b
   obtain⟨x,hx,_⟩:=B3 hi
   rw[hs n i x m hx a]
   refine ih (m.set i x) (by simp[a]) ?_
   have hi':(m.set i x)[i]?=some x:=by rw[List.getElem?_set_self (by omega)]
   rw[Cn hi',Cn hx,← b,List.take_set_of_le (Nat.le_refl _)]
 exact key (Nat.zero_le _) (by omega:l.length - 0 < N) m hm rfl
end RC



namespace RC
open Go
def NU (left:Int) (s:Nat):Int:=if left - s < 0 then -1 else left - s
theorem Cg {left:Int} {s:Nat} (h:left - s < 0):NU left s=-1:=if_pos h
theorem EG {left:Int} {s:Nat} (h:¬ left - s < 0):NU left s=left - s:=if_neg h
def cz (c:Ba):Nat:=c.fields.length
def dz (d:Ah):Nat:=d.cons.length+(d.cons.map cz).sum
theorem Wp {c:Ba} (hc:Of c) {left:Int} (h0:0≤left) (h1:left≤1048576):JO c left=some (NU left (cz c)):=by
 unfold JO
 rw[Q2 h0 h1 hc.fields.2]
 unfold NU cz
 by_cases h:left - (c.fields.length:Int) < 0
 ·rw[if_pos h];rfl
 ·rw[if_neg h];simp[h]
theorem VS {l:List Ba} (hl:EW Of l) {left:Int} (h0:0≤left) (h1:left≤1048576) {N:Nat} (hN:2000000≤N):IL N l left=some (NU left (l.length+(l.map cz).sum)):=by
 unfold IL
 have hlen:=hl.2
 rw[AT,BQ (by omega) (by omega)]
 by_cases h:left - (l.length:Int) < 0
 ·rw[if_pos (by simpa using h),Cg (by omega)]
 ·rw[if_neg (by simpa using h),RT (l:=l) cz (EY l) (fun n left=>by rw[EY,if_neg (by simp[AT])]) (fun n i x left hx a b=>?_) (by omega) (by omega) (by omega)]
  ·by_cases g:left - (l.length:Int) - ((l.map cz).sum:Nat) < 0
   ·rw[if_pos g,Cg (by omega)];rfl
   ·rw[if_neg g,EG (by omega)]
    show some _=some _
    congr 1;omega
  ·have hi:=(List.getElem?_eq_some_iff.1 hx).1
   rw[EY,if_pos (by simp[AT];omega),BJ hx]
   simp only[Option.bind_some]
   rw[Wp (hl.1 x (List.mem_of_getElem? hx)) a b,BQ (by omega) (by omega),show ((i:Int) + 1)=((i+1:Nat):Int) by omega]
   simp only[Option.bind_some]
   by_cases g:left - (cz x:Int) < 0
   ·rw[if_pos g,Cg g];rfl
   ·rw[if_neg g,EG g,if_neg (by simpa using g)]
end RC
namespace RC
open Go
theorem VV {d:Ah} (hd:Mx d) {left:Int} (h0:0≤left) (h1:left≤1048576) {N:Nat} (hN:2000000≤N):IT N d left=some (NU left (dz d)):=by
 unfold IT
 rw[VS hd.cons h0 h1 hN]
 simp only[Option.bind_some]
 by_cases a:left - ((d.cons.length+(d.cons.map cz).sum:Nat):Int) < 0
 ·rw[Cg a,Cg (by unfold dz;omega)];rfl
 ·rw[EG a,if_neg (by simpa using a),EG (by unfold dz;omega)];rfl
theorem T4 {l:List Ah} (hl:EW Mx l) {left:Int} (h0:0≤left) (h1:left≤1048576) {N:Nat} (hN:2000000≤N):He N l left=some (NU left (l.length+(l.map dz).sum)):=by
 unfold He
 have hlen:=hl.2
 rw[AT,BQ (by omega) (by omega)]
 by_cases h:left - (l.length:Int) < 0
 ·rw[if_pos (by simpa using h),Cg (by omega)]
 ·rw[if_neg (by simpa using h),RT (l:=l) dz (EH N l) (fun n left=>by rw[EH,if_neg (by simp[AT])]) (fun n i x left hx a b=>?_) (by omega) (by omega) (by omega)]
  ·by_cases g:left - (l.length:Int) - ((l.map dz).sum:Nat) < 0
   ·rw[if_pos g,Cg (by omega)];rfl
   ·rw[if_neg g,EG (by omega)]
    show some _=some _
    congr 1;omega
  ·have hi:=(List.getElem?_eq_some_iff.1 hx).1
   rw[EH,if_pos (by simp[AT];omega),BJ hx]
   simp only[Option.bind_some]
   rw[VV (hl.1 x (List.mem_of_getElem? hx)) a b hN,BQ (by omega) (by omega),show ((i:Int) + 1)=((i+1:Nat):Int) by omega]
   simp only[Option.bind_some]
   by_cases g:left - (dz x:Int) < 0
   ·rw[if_pos g,Cg g];rfl
   ·rw[if_neg g,EG g,if_neg (by simpa using g)]
end RC



namespace RC
open Go
end RC


namespace RC
open Go
end RC



namespace RC
open Go
section
variable {im : Ya} {p : Xx} {at_ : Nat} {i : Vz} {N : Nat}
end
end RC



namespace RC
open Go
theorem FK {α:Type} (f:α→Nat) {l:List α} {x:α} (h:x∈l):f x≤(l.map f).sum:=by
 induction l with
 | nil=>cases h
 | cons y r ih=>
  rw[List.map_cons,List.sum_cons]
  rcases List.mem_cons.1 h with rfl | h
  ·omega
  ·have:=ih h;omega
theorem Ww {c:Ba} (h:cz c≤1048576) {N:Nat} (hN:2000000≤N):JG N c=some c:=by
 unfold cz at h
 unfold JG;rw[Rs h hN];rfl
theorem VU {l:List Ba} (hl:l.length+(l.map cz).sum≤1048576) {N:Nat} (hN:2000000≤N):IJ N l=some l:=by
 unfold IJ
 rw[AT,Jz _ _ _ (by omega) (by omega)]
 simp only[Option.bind_some]
 rw[Om (l:=l) (Ee N l) (fun n m=>by rw[Ee,if_neg (by simp[AT])]) (fun n i x m hx hm=>?_) (by omega) (by simp)]
 ·rfl
 ·have hi:=(List.getElem?_eq_some_iff.1 hx).1
  have hz:=FK cz (List.mem_of_getElem? hx)
  obtain⟨y,hy,_⟩:=B3 (l:=m) (i:=i) (by omega)
  rw[Ee,if_pos (by simp[AT];omega),BJ hx]
  simp only[Option.bind_some]
  rw[Ww (by omega) hN,BJ hy]
  simp only[Option.bind_some]
  rw[HX,BQ (by omega) (by omega),show ((i:Int) + 1)=((i+1:Nat):Int) by omega]
theorem VQ {d:Ah} (h:dz d≤1048576) {N:Nat} (hN:2000000≤N):IG N d=some d:=by
 unfold dz at h
 unfold IG;rw[VU h hN];rfl
theorem UY {l:List Ah} (hl:l.length+(l.map dz).sum≤1048576) {N:Nat} (hN:2000000≤N):Hd N l=some l:=by
 unfold Hd
 rw[AT,Jz _ _ _ (by omega) (by omega)]
 simp only[Option.bind_some]
 rw[Om (l:=l) (EF N l) (fun n m=>by rw[EF,if_neg (by simp[AT])]) (fun n i x m hx hm=>?_) (by omega) (by simp)]
 ·rfl
 ·have hi:=(List.getElem?_eq_some_iff.1 hx).1
  have hz:=FK dz (List.mem_of_getElem? hx)
  obtain⟨y,hy,_⟩:=B3 (l:=m) (i:=i) (by omega)
  rw[EF,if_pos (by simp[AT];omega),BJ hx]
  simp only[Option.bind_some]
  rw[VQ (by omega) hN,BJ hy]
  simp only[Option.bind_some]
  rw[HX,BQ (by omega) (by omega),show ((i:Int) + 1)=((i+1:Nat):Int) by omega]
end RC



namespace RC
open Go
theorem WY {c:Ba} (h:cz c≤1048576) {N:Nat} (hN:2000000≤N):JN N c c=some true:=by
 unfold cz at h
 unfold JN;rw[Q7 h hN];rfl
theorem VI {l:List Ba} (hl:l.length+(l.map cz).sum≤1048576) {N:Nat} (hN:2000000≤N):IV N l l=some true:=by
 unfold IV
 have L:=C8 (l:=l) (Eb N l l) (fun _ _=>true) (fun n=>by rw[Eb,if_neg (by simp[AT])]) (fun n i x hx=>?_) (by omega:l.length < N)
 ·rw[Df (p:=fun _=>true)] at L
  simp[L,Sh.cont]
 ·have hi:=(List.getElem?_eq_some_iff.1 hx).1
  have hz:=FK cz (List.mem_of_getElem? hx)
  rw[Eb,if_pos (by simp[AT];omega),BJ hx]
  simp only[Option.bind_some]
  rw[WY (by omega) hN,BQ (by omega) (by omega),show ((i:Int) + 1)=((i+1:Nat):Int) by omega]
  rfl
theorem Um {d:Ah} (h:dz d≤1048576) {N:Nat} (hN:2000000≤N):H6 N d d=some true:=by
 unfold dz at h
 unfold H6;rw[VI h hN];simp
theorem UA {l:List Ah} (hl:l.length+(l.map dz).sum≤1048576) {N:Nat} (hN:2000000≤N):HU N l l=some true:=by
 unfold HU
 have L:=C8 (l:=l) (ED N l l) (fun _ _=>true) (fun n=>by rw[ED,if_neg (by simp[AT])]) (fun n i x hx=>?_) (by omega:l.length < N)
 ·rw[Df (p:=fun _=>true)] at L
  simp[L,Sh.cont]
 ·have hi:=(List.getElem?_eq_some_iff.1 hx).1
  have hz:=FK dz (List.mem_of_getElem? hx)
  rw[ED,if_pos (by simp[AT];omega),BJ hx]
  simp only[Option.bind_some]
  rw[Um (by omega) hN,BQ (by omega) (by omega),show ((i:Int) + 1)=((i+1:Nat):Int) by omega]
  rfl
end RC



namespace RC
open Go
end RC



namespace RC
open Go
mutual
def en:AK→Nat | .mk _ _ k=>1+CN k
def CN:List AK→Nat | []=>0 | e :: l=>en e+CN l
end
theorem EU (e:AK):en e=1+CN e.kids:=by cases e;simp[en,AK.kids]
theorem Pu {k:List AK} {i:Nat} {e:AK} (h:k[i]?=some e):CN (k.drop i)=en e+CN (k.drop (i+1)):=by rw[drop_cons h];simp[CN]
theorem Lm (e:AK):1≤en e:=by rw[EU];omega
theorem Hh {k:List AK} {e:AK} (h:e∈k):en e≤CN k:=by
 induction k with
 | nil=>cases h
 | cons c k ih=>
  simp only[CN]
  rcases List.mem_cons.1 h with rfl | h
  ·omega
  ·have:=ih h;omega
theorem Ff (k:List AK):k.length≤CN k:=by
 induction k with
 | nil=>simp
 | cons c k ih=>have:=Lm c;simp only[CN,List.length_cons];omega
theorem ES {e k:AK} (h:k∈e.kids):en k < en e:=by have:=Hh h;rw[EU e];omega
theorem RB {rec:AK→Int→Option Int} {k:List AK} {L:Int} (hL:L≤1048576) (hk:k.length≤1048576) (hrec :∀b∈k,∀left:Int,0≤left→left≤L→rec b left=some (NU left (CN b.kids))) {N i:Nat} (hi:i≤k.length) (hN:k.length - i < N) :
  ∀left:Int,0≤left→left≤L→Dc k rec N left i=some (if left+(k.length - i:Nat) - CN (k.drop i) < 0 then Sum.inl (-1) else Sum.inr (left+(k.length - i:Nat) - CN (k.drop i))):=by
 refine B7 k.length (fun N i=>∀left:Int,0≤left→left≤L→Dc k rec N left i=some (if left+(k.length - i:Nat) - CN (k.drop i) < 0 then Sum.inl (-1) else Sum.inr (left+(k.length - i:Nat) - CN (k.drop i)))) ?_ ?_ hi hN
 ·intro n left h0 h1
  rw[Dc,if_neg (by simp[AT])]
  simp[CN];omega
 ·intro n i hi ih left h0 h1
  obtain⟨b,hb,hbm⟩:=B3 hi
  have e1:=EU b
  have hle:=Ff (k.drop (i+1))
  rw[List.length_drop] at hle
  rw[Dc,if_pos (by simp[AT];omega),BJ hb]
  simp only[Option.bind_some]
  rw[hrec b hbm left h0 h1,Pu hb]
  simp only[Option.bind_some]
  by_cases h2:left - (CN b.kids:Int) < 0
  ·rw[Cg h2,if_pos (by simp),if_pos (by omega)]
  ·rw[EG h2,if_neg (by simpa using h2),BQ (by omega) (by omega),show ((i:Int) + 1)=((i+1:Nat):Int) by omega,ih (left - (CN b.kids:Int)) (by omega) (by omega)]
   have e:left - (CN b.kids:Int) + ((k.length - (i+1):Nat):Int) - (CN (k.drop (i+1)):Int)=left+((k.length - i:Nat):Int) - ((en b+CN (k.drop (i+1)):Nat):Int):=by omega
   rw[e]
theorem Ua {N:Nat} (hN:2000000≤N) {rec:AK→Int→Option Int} {k:List AK} (hk:k.length≤9223372036854775807) {left:Int} (h0:0≤left) (h1:left≤1048576)
  (hrec :∀b∈k,∀l:Int,0≤l→l < left→rec b l=some (NU l (CN b.kids))):Hc N rec k left=some (NU left (CN k)):=by
 unfold Hc
 have hle:=Ff k
 rw[AT,BQ (by omega) (by omega)]
 by_cases h2:left - (k.length:Int) < 0
 ·rw[if_pos (by simpa using h2),Cg (by omega)]
 ·rw[if_neg (by simpa using h2)]
  have:=RB (L:=left - k.length) (by omega) (by omega) (fun b hb l l0 l1=>hrec b hb l l0 (by have:=List.length_pos_of_mem hb;omega)) (Nat.zero_le _) (by omega:k.length - 0 < N) (left - k.length) (by omega) (by omega)
  rw[show ((0:Nat):Int)=0 from rfl,List.drop_zero,Nat.sub_zero] at this
  rw[this,show left - (k.length:Int) + (k.length:Int) - (CN k:Int)=left - (CN k:Int) by omega]
  by_cases h3:left - (CN k:Int) < 0
  ·rw[if_pos h3,Cg h3];rfl
  ·rw[if_neg h3,EG h3];rfl
theorem TI {N:Nat} (hN:2000000≤N) :∀(n:Nat) (e:AK) (left:Int),DT e→0≤left→left≤1048576→left < n→GB N n e left=some (NU left (CN e.kids)):=by
 intro n
 induction n with
 | zero=>intro b left _ h0 _ h2;omega
 | succ n ih=>
  intro e left he h0 h1 h2
  rw[GB]
  unfold H5
  rw[Ua hN he.Jv h0 h1 (fun b hb l l0 l1=>ih b l (he.kids b hb) l0 (by omega) (by omega))]
  simp only[Option.bind_some]
  by_cases h3:left - (CN e.kids:Int) < 0
  ·rw[Cg h3];rfl
  ·rw[EG h3,if_neg (by simpa using h3)]
theorem VW {e:AK} (he:DT e) {left:Int} (h0:0≤left) (h1:left≤1048576) {N:Nat} (hN:2000000≤N):Ji N e left=some (NU left (CN e.kids)):=by
 unfold Ji
 exact TI hN N e left he h0 h1 (by omega)
def Ir (f:Av):Nat:=f.params.length+CN f.body.kids
def LA (p:Ag):Nat:=(p.decls.length+(p.decls.map dz).sum) + (p.funcs.length+(p.funcs.map Ir).sum)
theorem Ux {f:Av} (hf:Kv f) {left:Int} (h0:0≤left) (h1:left≤1048576) {N:Nat} (hN:2000000≤N):Ih N f left=some (NU left (Ir f)):=by
 unfold Ih Ir
 rw[Q2 h0 h1 hf.params.2]
 simp only[Option.bind_some]
 by_cases h:left - (f.params.length:Int) < 0
 ·rw[if_pos h,Cg (by omega)];rfl
 ·rw[if_neg h,if_neg (by simpa using h),VW hf.body (by omega) (by omega) hN]
  simp only[Option.bind_some]
  by_cases h3:left - (f.params.length:Int) - (CN f.body.kids:Int) < 0
  ·rw[Cg h3,Cg (by omega)];rfl
  ·rw[EG h3,EG (by omega),if_neg (by simpa using h3)]
   congr 1;omega
theorem T7 {l:List Av} (hl:EW Kv l) {left:Int} (h0:0≤left) (h1:left≤1048576) {N:Nat} (hN:2000000≤N):Hf N l left=some (NU left (l.length+(l.map Ir).sum)):=by
 have hlen:=hl.2
 unfold Hf
 rw[AT,BQ (by omega) (by omega)]
 by_cases h2:left - (l.length:Int) < 0
 ·rw[if_pos (by simpa using h2),Cg (by omega)]
 ·rw[if_neg (by simpa using h2),RT (l:=l) Ir (EJ N l) (fun n l=>by rw[EJ,if_neg (by simp[AT])]) (fun n i x l' hx l0 l1=>?_) (by omega) (by omega) (by omega)]
  ·by_cases h3:left - (l.length:Int) - ((l.map Ir).sum:Nat) < 0
   ·rw[if_pos h3,Cg (by omega)];rfl
   ·rw[if_neg h3,EG (by omega)]
    simp only[Sh.Jq]
    congr 1;omega
  ·have hi:=(List.getElem?_eq_some_iff.1 hx).1
   rw[EJ,if_pos (by simp[AT];omega),BJ hx]
   simp only[Option.bind_some]
   rw[Ux (hl.1 x (List.mem_of_getElem? hx)) l0 l1 hN]
   simp only[Option.bind_some]
   by_cases h3:l' - (Ir x:Int) < 0
   ·rw[Cg h3,if_pos h3];rfl
   ·rw[EG h3,if_neg h3,if_neg (by simpa using h3),BQ (by omega) (by omega),show ((i:Int) + 1)=((i+1:Nat):Int) by omega]
theorem SS {p:Ag} (H:KP p) {left:Int} (h0:0≤left) (h1:left≤1048576) {N:Nat} (hN:2000000≤N):Gh N p left=some (NU left (LA p)):=by
 unfold Gh LA
 rw[T4 H.decls h0 h1 hN]
 simp only[Option.bind_some]
 by_cases h:left - ((p.decls.length+(p.decls.map dz).sum:Nat):Int) < 0
 ·rw[Cg h,Cg (by omega)];rfl
 ·rw[EG h,if_neg (by simpa using h),T7 H.funcs (by omega) (by omega) hN]
  simp only[Option.bind_some]
  by_cases h3:left - ((p.decls.length+(p.decls.map dz).sum:Nat):Int) - ((p.funcs.length+(p.funcs.map Ir).sum:Nat):Int) < 0
  ·rw[Cg h3,Cg (by omega)];rfl
  ·rw[EG h3,EG (by omega),if_neg (by simpa using h3)]
   congr 1;omega
theorem TD {N:Nat} (hN:2000000≤N) :∀(n:Nat) (e:AK),CN e.kids≤1048576→en e≤n→FO N n e=some e:=by
 intro n
 induction n with
 | zero=>intro e _ h;have:=Lm e;omega
 | succ n ih=>
  intro e hz hn
  have hle:=Ff e.kids
  rw[FO]
  unfold IC I8
  rw[AT,Jz _ _ _ (by omega) (by omega)]
  simp only[Option.bind_some]
  rw[Om (l:=e.kids) (D6 e.kids (FO N n)) (fun n m=>by rw[D6,if_neg (by simp[AT])]) (fun k i x m hx hm=>?_) (by omega) (by simp)]
  ·simp only[Option.bind_some]
   rw[← Jl]
  ·have hi:=(List.getElem?_eq_some_iff.1 hx).1
   have hk:=ES (List.mem_of_getElem? hx)
   have hz2:=Hh (List.mem_of_getElem? hx)
   have e1:=EU x
   obtain⟨y,hy,_⟩:=B3 (l:=m) (i:=i) (by omega)
   rw[D6,if_pos (by simp[AT];omega),BJ hx]
   simp only[Option.bind_some]
   rw[ih x (by omega) (by omega),BJ hy]
   simp only[Option.bind_some]
   rw[HX,BQ (by omega) (by omega),show ((i:Int) + 1)=((i+1:Nat):Int) by omega]
theorem Vi {e:AK} (hz:CN e.kids≤1048576) {N:Nat} (hN:2000000≤N):Jm N e=some e:=by
 unfold Jm
 exact TD hN N e hz (by rw[EU];omega)
theorem VZ {f:Av} (h:Ir f≤1048576) {N:Nat} (hN:2000000≤N):IW N f=some f:=by
 unfold Ir at h
 unfold IW;rw[Rs (by omega) hN,Vi (by omega) hN];rfl
theorem UB {l:List Av} (hl:l.length+(l.map Ir).sum≤1048576) {N:Nat} (hN:2000000≤N):HY N l=some l:=by
 unfold HY
 rw[AT,Jz _ _ _ (by omega) (by omega)]
 simp only[Option.bind_some]
 rw[Om (l:=l) (EI N l) (fun n m=>by rw[EI,if_neg (by simp[AT])]) (fun n i x m hx hm=>?_) (by omega) (by simp)]
 ·rfl
 ·have hi:=(List.getElem?_eq_some_iff.1 hx).1
  have hz:=FK Ir (List.mem_of_getElem? hx)
  obtain⟨y,hy,_⟩:=B3 (l:=m) (i:=i) (by omega)
  rw[EI,if_pos (by simp[AT];omega),BJ hx]
  simp only[Option.bind_some]
  rw[VZ (by omega) hN,BJ hy]
  simp only[Option.bind_some]
  rw[HX,BQ (by omega) (by omega),show ((i:Int) + 1)=((i+1:Nat):Int) by omega]
theorem R7 {p:Ag} (h:LA p≤1048576) {N:Nat} (hN:2000000≤N):EZ N p=some p:=by
 unfold LA at h
 unfold EZ;rw[UY (by omega) hN,UB (by omega) hN];rfl
theorem TW {N:Nat} (hN:2000000≤N) :∀(n:Nat) (e:AK),CN e.kids≤1048576→en e≤n→FI N n e e=some true:=by
 intro n
 induction n with
 | zero=>intro e _ h;have:=Lm e;omega
 | succ n ih=>
  intro e hz hn
  have hle:=Ff e.kids
  rw[FI]
  unfold IS JC
  have L:=C8 (l:=e.kids) (EE e.kids e.kids (FI N n)) (fun _ _=>true) (fun n=>by rw[EE,if_neg (by simp[AT])]) (fun k i x hx=>?_) (by omega:e.kids.length < N)
  ·rw[Df (p:=fun _=>true)] at L
   simp[L,Sh.cont]
  ·have hi:=(List.getElem?_eq_some_iff.1 hx).1
   have hk:=ES (List.mem_of_getElem? hx)
   have hz2:=Hh (List.mem_of_getElem? hx)
   have e1:=EU x
   rw[EE,if_pos (by simp[AT];omega),BJ hx]
   simp only[Option.bind_some]
   rw[ih x (by omega) (by omega),BQ (by omega) (by omega),show ((i:Int) + 1)=((i+1:Nat):Int) by omega]
   rfl
theorem Ur {e:AK} (hz:CN e.kids≤1048576) {N:Nat} (hN:2000000≤N):Je N e e=some true:=by
 unfold Je
 exact TW hN N e hz (by rw[EU];omega)
theorem U9 {f:Av} (h:Ir f≤1048576) {N:Nat} (hN:2000000≤N):Ib N f f=some true:=by
 unfold Ir at h
 unfold Ib;rw[Q7 (by omega) hN,Ur (by omega) hN];simp
theorem Uk {l:List Av} (hl:l.length+(l.map Ir).sum≤1048576) {N:Nat} (hN:2000000≤N):HS N l l=some true:=by
 unfold HS
 have L:=C8 (l:=l) (D8 N l l) (fun _ _=>true) (fun n=>by rw[D8,if_neg (by simp[AT])]) (fun n i x hx=>?_) (by omega:l.length < N)
 ·rw[Df (p:=fun _=>true)] at L
  simp[L,Sh.cont]
 ·have hi:=(List.getElem?_eq_some_iff.1 hx).1
  have hz:=FK Ir (List.mem_of_getElem? hx)
  rw[D8,if_pos (by simp[AT];omega),BJ hx]
  simp only[Option.bind_some]
  rw[U9 (by omega) hN,BQ (by omega) (by omega),show ((i:Int) + 1)=((i+1:Nat):Int) by omega]
  rfl
theorem Nj {p:Ag} (h:LA p≤1048576) {N:Nat} (hN:2000000≤N):Ea N p p=some true:=by
 unfold LA at h
 unfold Ea;rw[UA (by omega) hN,Uk (by omega) hN];rfl
theorem QH {N:Nat} (hN:2000000≤N) :∀(n:Nat) (e:AK) (left:Int),left≤1000→0≤left→left < n→CN e.kids≤1048576→Di N n e left=some (NU left (en e)):=by
 intro n
 induction n with
 | zero=>intro e left _ _ h;omega
 | succ n ih=>
  intro e left h0 hl0 h1 hz
  rw[Di]
  unfold Gr
  have hp:=EU e
  have hle:=Ff e.kids
  by_cases h2:left < 1
  ·rw[if_pos (by simpa using h2),Cg (by omega)]
  ·rw[if_neg (by simpa using h2),BQ (by omega) (by omega)]
   have key :∀{M i:Nat},i≤e.kids.length→e.kids.length - i < M→∀l:Int,0≤l→l < left→CS e (Di N n) M l i=some (if l - (CN (e.kids.drop i):Int) < 0 then .inl (-1) else .inr (l - (CN (e.kids.drop i):Int))):=by
    intro M i hi hM
    refine B7 e.kids.length (fun M i=>∀l:Int,0≤l→l < left→CS e (Di N n) M l i=some (if l - (CN (e.kids.drop i):Int) < 0 then .inl (-1) else .inr (l - (CN (e.kids.drop i):Int)))) ?_ ?_ hi hM
    ·intro m l l0 l1
     rw[CS,if_neg (by simp[AT])]
     simp[CN];omega
    ·intro m i hi ih2 l l0 l1
     obtain⟨x,hx,hxm⟩:=B3 hi
     have hz2:=Hh hxm
     have e1:=EU x
     rw[CS,if_pos (by simp[AT];omega),BJ hx]
     simp only[Option.bind_some]
     rw[ih x l (by omega) l0 (by omega) (by omega),Pu hx]
     simp only[Option.bind_some]
     by_cases h3:l - (en x:Int) < 0
     ·rw[Cg h3,if_pos (by simp),if_pos (by omega)]
     ·rw[EG h3,if_neg (by simpa using h3),BQ (by omega) (by omega),show ((i:Int) + 1)=((i+1:Nat):Int) by omega,ih2 (l - (en x:Int)) (by omega) (by omega)]
      rw[show l - (en x:Int) - (CN (e.kids.drop (i+1)):Int)=l - ((en x+CN (e.kids.drop (i+1)):Nat):Int) by omega]
   have:=key (Nat.zero_le _) (by omega:e.kids.length - 0 < N) (left - 1) (by omega) (by omega)
   rw[show ((0:Nat):Int)=0 from rfl,List.drop_zero] at this
   rw[this]
   by_cases h3:left - 1 - (CN e.kids:Int) < 0
   ·rw[if_pos h3,Cg (by omega)];rfl
   ·rw[if_neg h3,EG (by omega)]
    simp only[Sh.Jq]
    congr 1;omega
theorem I2 {e:AK} (hz:CN e.kids≤1048576) {N:Nat} (hN:2000000≤N):Gl N e=some (if en e≤30 then (en e:Int) else -1):=by
 unfold Gl JU
 rw[QH hN N e 30 (by omega) (by omega) (by omega) hz]
 simp only[Option.bind_some]
 by_cases h:en e≤30
 ·rw[EG (by omega),if_pos h,if_neg (by simp;omega),BQ (by omega) (by omega)]
  congr 1;omega
 ·rw[Cg (by omega),if_neg h];rfl
theorem Pr {N:Nat} (hN:2000000≤N) :∀(n:Nat) (e:AK) (c:Nat),c≤30→31 - c < n→CN e.kids≤1048576→DU N n c e=some (if c+en e≤30 then (true,((c+en e:Nat):Int)) else (false,31)):=by
 intro n
 induction n with
 | zero=>intro e c _ h;omega
 | succ n ih=>
  intro e c h0 h1 hz
  rw[DU]
  unfold GN
  have hp:=EU e
  have hle:=Ff e.kids
  rw[BQ (by omega) (by omega)]
  by_cases h2:c=30
  ·subst h2
   rw[if_pos (by simp),if_neg (by omega)];rfl
  ·rw[if_neg (by simp;omega)]
   have key :∀{M i:Nat},i≤e.kids.length→e.kids.length - i < M→∀d:Nat,c < d→d≤30→CF e (DU N n) M i d=some (if d+CN (e.kids.drop i)≤30 then .inr ((d+CN (e.kids.drop i):Nat):Int) else .inl (false,31)):=by
    intro M i hi hM
    refine B7 e.kids.length (fun M i=>∀d:Nat,c < d→d≤30→CF e (DU N n) M i d=some (if d+CN (e.kids.drop i)≤30 then .inr ((d+CN (e.kids.drop i):Nat):Int) else .inl (false,31))) ?_ ?_ hi hM
    ·intro m d l0 l1
     rw[CF,if_neg (by simp[AT])]
     simp[CN,l1]
    ·intro m i hi ih2 d l0 l1
     obtain⟨x,hx,hxm⟩:=B3 hi
     have hz2:=Hh hxm
     have e1:=EU x
     rw[CF,if_pos (by simp[AT];omega),BJ hx]
     simp only[Option.bind_some]
     rw[ih x d l1 (by omega) (by omega),Pu hx]
     simp only[Option.bind_some]
     by_cases h3:d+en x≤30
     ·rw[if_pos h3]
      simp only[Bool.not_true,Bool.false_eq_true,if_false]
      rw[BQ (by omega) (by omega),show ((i:Int) + 1)=((i+1:Nat):Int) by omega,ih2 (d+en x) (by omega) h3,Nat.add_assoc]
     ·have h4:¬ (d+(en x+CN (List.drop (i+1) e.kids))≤30):=by omega
      rw[if_neg h3,if_neg h4];rfl
   have:=key (Nat.zero_le _) (by omega:e.kids.length - 0 < N) (c+1) (by omega) (by omega)
   rw[show ((0:Nat):Int)=0 from rfl,List.drop_zero,show ((c+1:Nat):Int)=(c:Int) + 1 by omega] at this
   rw[this]
   by_cases h3:c+1+CN e.kids≤30
   ·rw[if_pos h3,if_pos (by omega)]
    simp only[Sh.Jq]
    rw[show c+1+CN e.kids=c+en e by omega]
   ·rw[if_neg h3,if_neg (by omega)];rfl
theorem LD {e:AK} (hz:CN e.kids≤1048576) {N:Nat} (hN:2000000≤N):Gi N e=some (if en e≤30 then (en e:Int) else -1):=by
 unfold Gi Is
 have:=Pr hN N e 0 (by omega) (by omega) hz
 rw[show ((0:Nat):Int)=0 from rfl,Nat.zero_add] at this
 rw[this]
 simp only[Option.bind_some]
 by_cases h:en e≤30
 ·rw[if_pos h,if_pos h];rfl
 ·rw[if_neg h,if_neg h];rfl
end RC



namespace RC
open Go
theorem Mg {α:Type} {g:Nat→α→Bool} :∀(l:List α) (k:Nat),ER g k l=true↔∀(i:Nat) x,l[i]?=some x→g (k+i) x=true
 | [],_=>by simp[ER]
 | x :: r,k=>by
  rw[ER,Bool.and_eq_true,Mg r (k+1)]
  constructor
  ·rintro⟨h1,h2⟩ i y hy
   cases i with
   | zero=>simp only[List.getElem?_cons_zero,Option.some.injEq] at hy;subst hy;exact h1
   | succ i=>have:=h2 i y hy;rw[show k+(i+1)=k+1+i by omega];exact this
  ·intro h
   exact⟨h 0 x rfl,fun i y hy=>by have:=h (i+1) y hy;rw[show k+(i+1)=k+1+i by omega] at this;exact this⟩
theorem Od {a b:List Int} (h:a.length=b.length):ER (fun i x=>decide (b[i]?=some x)) 0 a=decide (a=b):=by
 rw[Bool.eq_iff_iff,Mg,decide_eq_true_iff]
 constructor
 ·intro g
  refine List.ext_getElem? fun i=>?_
  by_cases hi:i < a.length
  ·obtain⟨x,hx,_⟩:=B3 hi
   have:=g i x hx
   rw[decide_eq_true_iff,Nat.zero_add] at this
   rw[hx,this]
  ·rw[List.getElem?_eq_none (by omega),List.getElem?_eq_none (by omega)]
 ·rintro rfl i x hx
  rw[decide_eq_true_iff,Nat.zero_add,hx]
theorem K0 {a b:List Int} (ha:a.length≤1048576) {N:Nat} (hN:2000000≤N):CG N a b=some (decide (a=b)):=by
 unfold CG
 by_cases h:a.length=b.length
 ·rw[if_neg (by simp[AT,h]),C8 (l:=a) (CC a b) (fun i x=>decide (b[i]?=some x)) (fun n=>by rw[CC,if_neg (by simp[AT])]) (fun n i x hx=>?_) (by omega),EK,Od h]
  ·cases decide (a=b) <;> rfl
  ·have hi:=(List.getElem?_eq_some_iff.1 hx).1
   obtain⟨y,hy,_⟩:=B3 (l:=b) (i:=i) (by omega)
   rw[CC,if_pos (by simp[AT];omega),BJ hx]
   simp only[Option.bind_some]
   rw[BJ hy,hy,BQ (by omega) (by omega),show ((i:Int) + 1)=((i+1:Nat):Int) by omega]
   simp only[Option.bind_some]
   by_cases e:x=y
   ·simp[e]
   ·have e':¬ y=x:=fun q=>e q.symm
    simp[e,e']
 ·have hne:¬ a=b:=fun e=>h (by rw[e])
  have h':¬ ((a.length:Int)=(b.length:Int)):=by omega
  simp[AT,h',hne]
structure GL (D:List Ah) (F:List Av):Prop where
 QC:D.length≤4
 V7 :∀d∈D,d.cons.length≤3
 Mm :∀d∈D,∀c∈d.cons,c.fields.length≤3∧∀t∈c.fields,DW D t=true
 Yy :∀d∈D,DW D d.from_=true∧DW D d.to=true
 Mr:F.length≤4
 Q3 :∀f∈F,f.params.length≤3∧(∀t∈f.params,DW D t=true)∧DW D f.result=true
theorem XG {D:List Ah} (h :∀d∈D,d.cons.length≤3):nc D≤3 * D.length:=by
 induction D with
 | nil=>simp[nc]
 | cons d r ih=>
  have h1:=h d (by simp)
  have h2:=ih fun e he=>h e (by simp[he])
  simp only[nc,List.map_cons,List.sum_cons,List.length_cons] at h2 ⊢
  omega
theorem GL.nc {D:List Ah} {F:List Av} (S:GL D F):nc D≤12:=by have:=XG S.V7;have:=S.QC;omega
theorem Kc {D:List Ah} {t:Int} (h:DW D t=true):0≤t∧t≤(D.length:Int):=by
 unfold DW at h
 simpa using h
theorem GL.of {p:Ag} (h:LU p.decls (p.funcs.map fun f=>(f.params,f.result))=true):GL p.decls p.funcs:=by
 unfold LU at h
 simp only[Bool.and_eq_true,List.length_map,List.all_map,decide_eq_true_eq] at h
 obtain⟨h1,⟨_,h2⟩,h3,_⟩:=h
 unfold KM at h1
 simp only[Bool.and_eq_true,decide_eq_true_eq] at h1
 obtain⟨h4,h5⟩:=h1
 rw[Mg] at h5
 have hd :∀d∈p.decls,∃i,JP p.decls i d=true:=fun d hd=>by
  obtain⟨i,hi⟩:=List.mem_iff_getElem?.1 hd
  exact⟨_,h5 i d hi⟩
 refine⟨h4,fun d hm=>?_,fun d hm c hc=>?_,fun d hm=>?_,h2,fun f hf=>?_⟩
 ·obtain⟨i,hi⟩:=hd d hm
  unfold JP at hi
  split at hi
  ·simp only[Bool.and_eq_true,decide_eq_true_eq] at hi;exact hi.1.1
  ·omega
 ·obtain⟨i,hi⟩:=hd d hm
  unfold JP at hi
  split at hi
  ·simp only[Bool.and_eq_true,decide_eq_true_eq,List.all_eq_true] at hi
   have:=hi.2 c hc
   unfold Nd at this
   simp only[Bool.and_eq_true,decide_eq_true_eq,List.all_eq_true] at this
   exact this
  ·have:=List.length_pos_of_mem hc;omega
 ·obtain⟨i,hi⟩:=hd d hm
  unfold JP at hi
  split at hi
  ·simp only[Bool.and_eq_true,decide_eq_true_eq] at hi
   rw[hi.1.2.1,hi.1.2.2]
   have:DW p.decls 0=true:=by unfold DW;simp
   exact⟨this,this⟩
  ·simp only[Bool.and_eq_true] at hi;exact hi.2
 ·have:=List.all_eq_true.1 h3 f hf
  simp only[Function.comp,LK,Bool.and_eq_true,decide_eq_true_eq,List.all_eq_true] at this
  exact this
def Ky (p:Ag) (sg:BH) (R1:Ag→List Int→AK→Option Int) (R2:List Int→BH→AK→Option Int) (T:List Int→AK→Int) (m:Nat):Prop:=
 ∀(v:List Int) (e:AK),DT e→en e < m→v.length+3 * en e≤1000→(∀x∈v,DW p.decls x=true)→R1 p v e=some (T v e)∧R2 v sg e=some (T v e)∧(T v e=-1∨DW p.decls (T v e)=true)
section
variable {p : Ag} {sg : BH} {R1 : Ag → List Int → AK → Option Int} {R2 : List Int → BH → AK → Option Int} {T : List Int → AK → Int} {e : AK} {v : List Int} {N : Nat}
structure Ha (p:Ag) (e:AK) (v:List Int):Prop where
 len:v.length+3 * en e≤1000
 NQ :∀x∈v,DW p.decls x=true
 small:en e≤340
 JV:DT e
theorem Ha.MH (V:Ha p e v) {k:AK} (hk:k∈e.kids):v.length+3 * en k≤1000:=by have:=V.len;have:=ES hk;omega
theorem Ha.more (V:Ha p e v) {k:AK} (hk:k∈e.kids) {m:List Int} (hm:m.length≤3):(v ++ m).length+3 * en k≤1000:=by have:=V.len;have:=ES hk;rw[List.length_append];omega
theorem Ha.Su (V:Ha p e v) {m:List Int} (hm :∀x∈m,DW p.decls x=true) :∀x∈v ++ m,DW p.decls x=true:=fun x hx=>by
 rcases List.mem_append.1 hx with h | h
 ·exact V.NQ x h
 ·exact hm x h
theorem Ha.Jv (V:Ha p e v):e.kids.length≤340:=by have:=Ff e.kids;have:=V.small;have:=EU e;omega
theorem P4 (H:Ky p sg R1 R2 T (en e)) (V:Ha p e v) (hN:2000000≤N) (m:Nat):Gj N R1 p v e.kids m=some (decide (e.kids.map (T v)=List.replicate m 0)):=by
 unfold Gj
 have hk:=V.Jv
 by_cases h:e.kids.length=m
 ·subst h
  rw[if_neg (by simp[AT]),C8 (l:=e.kids) (EC p v e.kids e.kids.length R1) (fun _ x=>decide (T v x=0)) (fun n=>by rw[EC,if_neg (by simp)]) (fun n i x hx=>?_) (by omega),EK,Df]
  ·have e1:e.kids.all (fun x=>decide (T v x=0))=decide (e.kids.map (T v)=List.replicate e.kids.length 0):=by
    rw[Bool.eq_iff_iff,decide_eq_true_iff,List.all_eq_true,List.eq_replicate_iff]
    simp
   rw[e1]
   cases decide (e.kids.map (T v)=List.replicate e.kids.length 0) <;> rfl
  ·have hi:=(List.getElem?_eq_some_iff.1 hx).1
   have hm:=List.mem_of_getElem? hx
   rw[EC,if_pos (by simp;omega),BJ hx]
   simp only[Option.bind_some]
   rw[(H v x (V.JV.kids x hm) (ES hm) (V.MH hm) V.NQ).1,BQ (by omega) (by omega),show ((i:Int) + 1)=((i+1:Nat):Int) by omega]
   simp only[Option.bind_some]
   by_cases e1:T v x=0 <;> simp[e1]
 ·have h1:¬ ((e.kids.length:Int)=(m:Int)):=by omega
  have h2:¬ e.kids.map (T v)=List.replicate m 0:=fun q=>h (by have:=congrArg List.length q;simpa using this)
  simp[AT,h1,h2]
theorem PF (H:Ky p sg R1 R2 T (en e)) (V:Ha p e v) (hN:2000000≤N) (l:List Int):G8 N R1 p v e.kids l=some (decide (e.kids.map (T v)=l)):=by
 unfold G8
 have hk:=V.Jv
 by_cases h:e.kids.length=l.length
 ·rw[if_neg (by simp[AT,h]),C8 (l:=l) (Et p v e.kids l R1) (fun i x=>decide ((e.kids.map (T v))[i]?=some x)) (fun n=>by rw[Et,if_neg (by simp[AT])]) (fun n i x hx=>?_) (by omega),EK,Od (by simp[h])]
  ·by_cases q:l=e.kids.map (T v)
   ·simp[q]
   ·have q':¬ e.kids.map (T v)=l:=fun z=>q z.symm
    simp[q,q']
  ·have hi:=(List.getElem?_eq_some_iff.1 hx).1
   obtain⟨y,hy,hm⟩:=B3 (l:=e.kids) (i:=i) (by omega)
   rw[Et,if_pos (by simp[AT];omega),BJ hy]
   simp only[Option.bind_some]
   rw[(H v y (V.JV.kids y hm) (ES hm) (V.MH hm) V.NQ).1,BJ hx,BQ (by omega) (by omega),show ((i:Int) + 1)=((i+1:Nat):Int) by omega]
   simp only[Option.bind_some]
   rw[List.getElem?_map,hy,Option.map_some]
   by_cases e1:T v y=x <;> simp[e1]
 ·have h1:¬ ((e.kids.length:Int)=(l.length:Int)):=by omega
  have h2:¬ e.kids.map (T v)=l:=fun q=>h (by have:=congrArg List.length q;simpa using this)
  simp[AT,h1,h2]
theorem S5 (H:Ky p sg R1 R2 T (en e)) (V:Ha p e v) (hN:2000000≤N) :
  Bf v sg e R2 N 0 (List.replicate e.kids.length 0)=some (if (e.kids.map (T v)).any (fun t=>decide (t < 0))=true then .inl (-1) else .inr (e.kids.map (T v))):=by
 have hk:=V.Jv
 have key :∀{N i:Nat},i≤e.kids.length→e.kids.length - i < N→∀m:List Int,m.length=e.kids.length→m.take i=(e.kids.map (T v)).take i→
   Bf v sg e R2 N i m=some (if ((e.kids.map (T v)).drop i).any (fun t=>decide (t < 0))=true then .inl (-1) else .inr (e.kids.map (T v))):=by
  intro N i hi hN
  refine B7 e.kids.length (fun N i=>∀m:List Int,m.length=e.kids.length→m.take i=(e.kids.map (T v)).take i→
   Bf v sg e R2 N i m=some (if ((e.kids.map (T v)).drop i).any (fun t=>decide (t < 0))=true then .inl (-1) else .inr (e.kids.map (T v)))) ?_ ?_ hi hN
  ·intro n m a b
   rw[Bf,if_neg (by simp[AT])]
   rw[List.take_of_length_le (by omega),List.take_of_length_le (by simp)] at b
   rw[b,List.drop_of_length_le (by simp)];simp
  ·intro n i hi ih m a b
   obtain⟨x,hx,hxm⟩:=B3 hi
   obtain⟨y,hy,_⟩:=B3 (l:=m) (i:=i) (by omega)
   have hx2:(e.kids.map (T v))[i]?=some (T v x):=by rw[List.getElem?_map,hx];rfl
   have hi':(m.set i (T v x))[i]?=some (T v x):=by rw[List.getElem?_set_self (by omega)]
   rw[Bf,if_pos (by simp[AT];omega),BJ hx]
   simp only[Option.bind_some]
   rw[(H v x (V.JV.kids x hxm) (ES hxm) (V.MH hxm) V.NQ).2.1,BJ hy]
   simp only[Option.bind_some]
   rw[HX,BJ hi',drop_cons hx2]
   simp only[Option.bind_some,List.any_cons]
   by_cases h:T v x < 0
   ·simp[h]
   ·rw[if_neg (by simpa using h),BQ (by omega) (by omega),show ((i:Int) + 1)=((i+1:Nat):Int) by omega,ih (m.set i (T v x)) (by simp[a]) (by rw[Cn hi',Cn hx2,← b,List.take_set_of_le (Nat.le_refl _)])]
    simp[h]
 have:=key (Nat.zero_le _) (by omega:e.kids.length - 0 < N) (List.replicate e.kids.length 0) (by simp) rfl
 simpa using this
theorem RI {a b:List Int} (ha:a.length≤1000) (hb:b.length≤1000):Fm a b=some (a ++ b):=by
 unfold Fm Du
 rw[DX [] a 8 (by simp;omega) (by simp;omega)]
 simp only[Option.bind_some,List.nil_append]
 rw[DX a b 8 (by omega) (by omega)];rfl
theorem Ut {a b:List Int} (ha:a.length≤1000) (hb:b.length≤1000) (hN:2000000≤N):EX N [a,b]=some (a ++ b):=by
 obtain⟨n,rfl⟩ :∃n,N=n+3:=⟨N - 3,by omega⟩
 unfold EX
 have e1:Bv [a,b] (n+3) 0 0=some ((a.length+b.length:Nat):Int):=by
  rw[Bv,if_pos (by simp[AT]),show Sh.get [a,b] 0=some a from rfl]
  simp only[Option.bind_some]
  rw[AT,BQ (n:=(0:Int) + 1) (by omega) (by omega),BQ (by omega) (by omega),if_neg (by rw[decide_eq_true_eq];omega)]
  rw[Bv,if_pos (by simp[AT]),show Sh.get [a,b] (0+1)=some b from rfl]
  simp only[Option.bind_some]
  rw[AT,BQ (n:=(0:Int) + 1+1) (by omega) (by omega),BQ (by omega) (by omega),if_neg (by rw[decide_eq_true_eq];omega)]
  rw[Bv,if_neg (by simp[AT])]
  congr 1;omega
 have e2:Bw [a,b] (n+3) 0 []=some (a ++ b):=by
  rw[Bw,if_pos (by simp[AT]),show Sh.get [a,b] 0=some a from rfl]
  simp only[Option.bind_some]
  rw[DX [] a 8 (by simp;omega) (by simp;omega),BQ (n:=(0:Int) + 1) (by omega) (by omega)]
  simp only[Option.bind_some,List.nil_append]
  rw[Bw,if_pos (by simp[AT]),show Sh.get [a,b] (0+1)=some b from rfl]
  simp only[Option.bind_some]
  rw[DX a b 8 (by omega) (by omega),BQ (n:=(0:Int) + 1+1) (by omega) (by omega)]
  simp only[Option.bind_some]
  rw[Bw,if_neg (by simp[AT])]
 have e3:Eu ((a.length+b.length:Nat):Int)=some []:=by
  unfold Eu
  rw[if_neg (by simp;omega),BQ (n:=(0:Int) - 0) (by omega) (by omega),BQ (by omega) (by omega)]
  by_cases h:0 < a.length+b.length
  ·rw[if_pos (by simp;omega),show (((a.length+b.length:Nat):Int) - (0 - 0))=((a.length+b.length:Nat):Int) by omega,Jz _ _ _ (by omega) (by omega)]
   simp only[Option.bind_some]
   have:=Zz (l:=List.replicate (a.length+b.length) (0:Int)) (j:=0) (by omega)
   rw[show ((0:Nat):Int)=0 from rfl] at this
   rw[this];rfl
  ·rw[if_neg (by simp;omega)];rfl
 rw[e1]
 simp only[Option.bind_some]
 rw[e3]
 simp only[Option.bind_some]
 rw[e2];rfl
def Me:List Int→Int
 | []=>-1
 | t :: r=>if r.all (fun x=>decide (x=t))=true then t else -1
theorem Ke (H:Ky p sg R1 R2 T (en e)) (V:Ha p e v) (hN:2000000≤N) {ks:List AK} {ms:List (List Int)} (hks :∀k∈ks,k∈e.kids) (hkl:ks.length≤340) (hl:ms.length=ks.length) (hm :∀m∈ms,m.length≤3∧∀x∈m,DW p.decls x=true) :
  C7 N R2 sg v ks ms=some (Me (List.zipWith (fun m k=>T (v ++ m) k) ms ks)):=by
 unfold C7
 have hvl:v.length≤1000:=by have:=V.len;omega
 have step :∀(n i:Nat) (r:Int) k m,ks[i]?=some k→ms[i]?=some m→BO N sg v ks ms R2 (n+1) r i=if T (v ++ m) k < 0∨(0 < i∧T (v ++ m) k≠r) then some (.inl (-1)) else BO N sg v ks ms R2 n (T (v ++ m) k) ((i+1:Nat):Int):=by
  intro n i r k m hk hmm
  have hi:=(List.getElem?_eq_some_iff.1 hk).1
  have hmo:=hm m (List.mem_of_getElem? hmm)
  have hke:=hks k (List.mem_of_getElem? hk)
  rw[BO,if_pos (by simp[AT];omega),BJ hk]
  simp only[Option.bind_some]
  rw[BJ hmm]
  simp only[Option.bind_some]
  rw[Ut hvl (by omega) hN]
  simp only[Option.bind_some]
  rw[(H (v ++ m) k (V.JV.kids k hke) (ES hke) (V.more hke hmo.1) (V.Su hmo.2)).2.1]
  simp only[Option.bind_some]
  rw[BQ (by omega) (by omega),show ((i:Int) + 1)=((i+1:Nat):Int) by omega]
  by_cases h1:T (v ++ m) k < 0
  ·simp[h1]
  ·by_cases h2:0 < i
   ·by_cases h3:T (v ++ m) k=r
    ·have h1':¬ r < 0:=h3 ▸ h1
     simp[h1',h2,h3]
    ·simp[h1,h2,h3]
   ·simp[h1,h2]
 have rest :∀(d i n:Nat) (r:Int),ks.length - i=d→0 < i→i≤ks.length→d < n→BO N sg v ks ms R2 n r i=some (if ((List.zipWith (fun m k=>T (v ++ m) k) ms ks).drop i).all (fun x=>decide (x=r))=true then (if ((List.zipWith (fun m k=>T (v ++ m) k) ms ks).drop i).any (fun x=>decide (x < 0))=true then .inl (-1) else .inr r) else .inl (-1)):=by
  intro d
  induction d with
  | zero=>
   intro i n r h1 h2 h3 h4
   obtain⟨n,rfl⟩ :∃q,n=q+1:=⟨n - 1,by omega⟩
   rw[BO,if_neg (by simp[AT];omega),List.drop_of_length_le (by simp;omega)];rfl
  | succ d ih=>
   intro i n r h1 h2 h3 h4
   obtain⟨n,rfl⟩ :∃q,n=q+1:=⟨n - 1,by omega⟩
   obtain⟨k,hk,_⟩:=B3 (l:=ks) (i:=i) (by omega)
   obtain⟨m,hmm,_⟩:=B3 (l:=ms) (i:=i) (by omega)
   have hz:(List.zipWith (fun m k=>T (v ++ m) k) ms ks)[i]?=some (T (v ++ m) k):=by rw[List.getElem?_zipWith,hk,hmm]
   rw[step n i r k m hk hmm,drop_cons hz,List.all_cons,List.any_cons]
   by_cases h5:T (v ++ m) k=r
   ·by_cases h6:T (v ++ m) k < 0
    ·rw[if_pos (.inl h6)]
     have h6':r < 0:=h5 ▸ h6
     simp[h5,h6']
    ·rw[if_neg (by rintro (h | h);exact h6 h;exact h.2 h5),ih (i+1) n _ (by omega) (by omega) (by omega) (by omega)]
     have h6':¬ r < 0:=h5 ▸ h6
     simp[h5,h6']
   ·rw[if_pos (.inr ⟨h2,h5⟩)]
    simp[h5]
 cases hks0:ks with
 | nil=>
  obtain⟨n,rfl⟩ :∃q,N=q+1:=⟨N - 1,by omega⟩
  rw[BO,if_neg (by simp[AT])]
  simp[Me]
 | cons k r=>
  cases hms0:ms with
  | nil=>rw[hks0,hms0] at hl;simp at hl
  | cons m s=>
   rw[← hks0,← hms0]
   obtain⟨n,hn⟩ :∃q,N=q+1:=⟨N - 1,by omega⟩
   have h0:=step n 0 (-1) k m (by rw[hks0];rfl) (by rw[hms0];rfl)
   rw[show ((0:Nat):Int)=0 from rfl] at h0
   have hke:=hks k (by rw[hks0];simp)
   have hmo:=hm m (by rw[hms0];simp)
   have hT:=(H (v ++ m) k (V.JV.kids k hke) (ES hke) (V.more hke hmo.1) (V.Su hmo.2)).2.2
   rw[show BO N sg v ks ms R2 N (-1) 0=BO N sg v ks ms R2 (n+1) (-1) 0 by rw[← hn],h0]
   have hzc:List.zipWith (fun m k=>T (v ++ m) k) ms ks=T (v ++ m) k :: List.zipWith (fun m k=>T (v ++ m) k) s r:=by rw[hks0,hms0];rfl
   rw[hzc]
   unfold Me
   by_cases h1:T (v ++ m) k < 0
   ·rw[if_pos (.inl h1)]
    have:T (v ++ m) k=-1:=by
     rcases hT with h | h
     ·exact h
     ·have:=(Kc h).1;omega
    rw[this]
    simp
   ·rw[if_neg (by rintro (h | h);exact h1 h;omega),rest _ 1 n _ rfl (by omega) (by rw[hks0];simp) (by omega),hzc,List.drop_succ_cons,List.drop_zero]
    by_cases h2:(List.zipWith (fun m k=>T (v ++ m) k) s r).all (fun x=>decide (x=T (v ++ m) k))=true
    ·have h3:¬ (List.zipWith (fun m k=>T (v ++ m) k) s r).any (fun x=>decide (x < 0))=true:=fun h=>by
      obtain⟨x,hx,hx2⟩:=List.any_eq_true.1 h
      have:=List.all_eq_true.1 h2 x hx
      simp only[decide_eq_true_eq] at this hx2
      omega
     rw[if_pos h2,if_neg h3]
     dsimp only
     rw[if_pos h2];rfl
    ·rw[if_neg h2]
     dsimp only
     rw[if_neg h2];rfl
end
end RC



namespace RC
open Go
theorem Vw {n:Int} (h1:n < -9223372036854775808) (h2:-18446744073709551616≤n):Sh.w n=n+18446744073709551616:=by
 unfold Sh.w
 rw[IntKind.wrap_i64];omega
theorem QW {D:List Ah} (hD:D.length≤1048576) (hn:nc D≤1048576) {c:Int} (hI:Hw c) (hc:c < 0∨(nc D:Int)≤c) {N:Nat} (hN:2000000≤N):GH N D c=some (-1,⟨[]⟩):=by
 have key :∀(m j N:Nat) (c:Int),D.length - j=m→j≤D.length→m < N→Hw c→(c < 0∨(nc (D.drop j):Int)≤c)→Dw D N c j=some (.inr ()):=by
  intro m
  induction m with
  | zero=>
   intro j N c h1 h2 h3 _ _
   obtain⟨N,rfl⟩ :∃n,N=n+1:=⟨N - 1,by omega⟩
   rw[Dw,if_neg (by simp[AT];omega)]
  | succ m ih=>
   intro j N c h1 h2 h3 hI h4
   obtain⟨N,rfl⟩ :∃n,N=n+1:=⟨N - 1,by omega⟩
   obtain⟨d,hd,_⟩:=B3 (l:=D) (i:=j) (by omega)
   have hs:=Fx D j
   rw[O5 hd] at h4 hs
   rw[Dw,if_pos (by simp[AT];omega),BJ hd]
   simp only[Option.bind_some]
   have hlo:=hI.1
   have hhi:=hI.2
   have e1:¬ (0≤c∧c < (d.cons.length:Int)):=by omega
   have e2:(if decide (0≤c)=true then some (decide (c < Sh.len d.cons)) else some false)=some false:=by
    by_cases h0:0≤c
    ·have:¬ c < (d.cons.length:Int):=by omega
     simp[h0,AT,this]
    ·simp[h0]
   rw[BQ (n:=(j:Int) + 1) (by omega) (by omega),show ((j:Int) + 1)=((j+1:Nat):Int) by omega,AT]
   rw[AT] at e2
   by_cases h5:c - (d.cons.length:Int) < -9223372036854775808
   ·have:=ih (j+1) N (Sh.w (c - (d.cons.length:Int))) (by omega) (by omega) (by omega) (by rw[Vw h5 (by omega)];unfold Hw;omega) (by rw[Vw h5 (by omega)];omega)
    rw[e2]
    simp only[Option.bind_some,Bool.false_eq_true,if_false]
    exact this
   ·have:=ih (j+1) N (Sh.w (c - (d.cons.length:Int))) (by omega) (by omega) (by omega) (by rw[BQ (by omega) (by omega)];unfold Hw;omega) (by rw[BQ (by omega) (by omega)];omega)
    rw[e2]
    simp only[Option.bind_some,Bool.false_eq_true,if_false]
    exact this
 have:=key D.length 0 N c (by omega) (by omega) (by omega) hI (by simpa using hc)
 unfold GH
 rw[show (((0:Nat):Int))=0 from rfl] at this
 rw[this];rfl
theorem PU :∀{D:List Ah} {k c t:Nat} {x:Ba},Ja D k c=some (t,x)→k < t∧t≤k+D.length∧∃d∈D,x∈d.cons
 | [],_,_,_,_,h=>by simp[Ja] at h
 | d :: r,k,c,t,x,h=>by
  unfold Ja at h
  cases hx:d.cons[c]? with
  | some y=>
   rw[hx] at h
   simp only[Option.some.injEq,Prod.mk.injEq] at h
   obtain⟨rfl,rfl⟩:=h
   exact⟨by omega,by simp,d,by simp,List.mem_of_getElem? hx⟩
  | none=>
   rw[hx] at h
   obtain⟨h1,h2,e,h3,h4⟩:=PU h
   exact⟨by omega,by simp;omega,e,by simp[h3],h4⟩
def Pa (a b:Int) (d:Ah):Bool:=decide (d.cons.length=0) && (decide (d.from_=a) && decide (d.to=b))
def HL (a b:Int):List Ah→Nat→Int
 | [],_=>-1
 | d :: r,k=>if Pa a b d=true then (k:Int) + 1 else HL a b r (k+1)
theorem Tx {a b:Int} :∀(l:List Ah) (k:Nat),HL a b l k=-1∨((k:Int) < HL a b l k∧HL a b l k≤k+l.length)
 | [],_=>.inl rfl
 | d :: r,k=>by
  unfold HL
  by_cases h:Pa a b d=true
  ·rw[if_pos h];right;simp only[List.length_cons];omega
  ·rw[if_neg h]
   rcases Tx r (k+1) with h1 | h1
   ·exact .inl h1
   ·right;simp only[List.length_cons];omega
theorem Sv {a b:Int} {d:Ah}:(if decide ((Sh.len d.cons)=0)=true then if decide (d.from_=a)=true then some (decide (d.to=b)) else some false else some false)=some (Pa a b d):=by
 unfold Pa
 by_cases h1:d.cons.length=0 <;> by_cases h2:d.from_=a <;> simp[AT,h1,h2]
theorem PJ {D:List Ah} (hD:D.length≤1048576) {a b:Int} {N:Nat} (hN:2000000≤N):Hg N D a b=some (HL a b D 0):=by
 unfold Hg
 have key :∀{M i:Nat},i≤D.length→D.length - i < M→Sh.cont (DY D a b M i) id (fun ()=>some (-1))=some (HL a b (D.drop i) i):=by
  intro M i hi hM
  refine B7 D.length (fun M i=>Sh.cont (DY D a b M i) id (fun ()=>some (-1))=some (HL a b (D.drop i) i)) ?_ ?_ hi hM
  ·intro n;rw[DY,if_neg (by simp[AT])];simp[HL,Sh.cont]
  ·intro n i hi ih
   obtain⟨d,hd,_⟩:=B3 hi
   rw[DY,if_pos (by simp[AT];omega),BJ hd,drop_cons hd]
   simp only[Option.bind_some]
   rw[Sv,BQ (by omega) (by omega),show ((i:Int) + 1)=((i+1:Nat):Int) by omega]
   simp only[Option.bind_some,HL]
   by_cases h:Pa a b d=true
   ·rw[if_pos h,if_pos h];simp[Sh.cont]
   ·rw[if_neg h,if_neg h,ih]
 have:=key (Nat.zero_le _) (by omega:D.length - 0 < N)
 simpa using this
theorem Pe {D:List Ah} (hD:D.length≤1048576) {a b:Int} {N:Nat} (hN:2000000≤N):HR N D a b=some (HL a b D 0):=by
 unfold HR
 have key :∀{M i:Nat},i≤D.length→D.length - i < M→Sh.cont (Dd D a b M i) id (fun ()=>some (-1))=some (HL a b (D.drop i) i):=by
  intro M i hi hM
  refine B7 D.length (fun M i=>Sh.cont (Dd D a b M i) id (fun ()=>some (-1))=some (HL a b (D.drop i) i)) ?_ ?_ hi hM
  ·intro n;rw[Dd,if_neg (by simp[AT])];simp[HL,Sh.cont]
  ·intro n i hi ih
   obtain⟨d,hd,_⟩:=B3 hi
   rw[Dd,if_pos (by simp[AT];omega),BJ hd,drop_cons hd]
   simp only[Option.bind_some]
   rw[Sv,BQ (by omega) (by omega),show ((i:Int) + 1)=((i+1:Nat):Int) by omega]
   simp only[Option.bind_some,HL]
   by_cases h:Pa a b d=true
   ·rw[if_pos h,if_pos h];simp[Sh.cont]
   ·rw[if_neg h,if_neg h,ih]
 have:=key (Nat.zero_le _) (by omega:D.length - 0 < N)
 simpa using this
def Nh (D:List Ah) (t:Int):Option Ah:=if 1≤t∧t≤(D.length:Int) then (D[(t - 1).toNat]?).bind fun d=>if d.cons.length=0 then some d else none else none
theorem PI {D:List Ah} {t:Int} {d:Ah} (h:Nh D t=some d):d∈D∧1≤t∧t≤(D.length:Int)∧D[(t - 1).toNat]?=some d:=by
 unfold Nh at h
 split at h
 ·rename_i h1
  obtain⟨e,he,h2⟩:=Option.bind_eq_some_iff.1 h
  split at h2
  ·cases h2;exact⟨List.mem_of_getElem? he,h1.1,h1.2,he⟩
  ·cases h2
 ·cases h
theorem Pm {D:List Ah} (hD:D.length≤1048576) {t:Int}:HZ D t=some ((Nh D t).elim (⟨0,0,[]⟩,false) fun d=>(d,true)):=by
 unfold HZ Nh
 by_cases h:1≤t∧t≤(D.length:Int)
 ·obtain⟨a,ha⟩ :∃a:Nat,t=(a:Int) + 1:=⟨(t - 1).toNat,by omega⟩
  subst ha
  obtain⟨d,hd,_⟩:=B3 (l:=D) (i:=a) (by omega)
  have e1:¬ ((a:Int) + 1 < 1):=by omega
  have e2:¬ ((D.length:Int) < (a:Int) + 1):=by omega
  rw[if_pos h,BQ (by omega) (by omega),show ((a:Int) + 1 - 1)=((a:Nat):Int) by omega,BJ hd,Int.toNat_natCast,hd]
  by_cases h2:d.cons.length=0
  ·have h2':d.cons=[]:=List.eq_nil_of_length_eq_zero h2
   simp[e1,e2,AT,h2']
  ·have h3:0 < d.cons.length:=by omega
   have h2':¬ d.cons=[]:=fun q=>h2 (by rw[q];rfl)
   simp[e1,e2,AT,h2',h3]
 ·rw[if_neg h]
  by_cases h1:t < 1
  ·simp[h1]
  ·have h2:(D.length:Int) < t:=by omega
   simp[h1,AT,h2]
theorem PN {D:List Ah} (hD:D.length≤1048576) {t:Int}:HT D t=some (Nh D t).isSome:=by
 unfold HT Nh
 rw[EB]
 by_cases h:1≤t∧t≤(D.length:Int)
 ·obtain⟨a,ha⟩ :∃a:Nat,t=(a:Int) + 1:=⟨(t - 1).toNat,by omega⟩
  subst ha
  obtain⟨d,hd,_⟩:=B3 (l:=D) (i:=a) (by omega)
  have e1:((1:Int)≤(a:Int) + 1):=by omega
  have e2:((a:Int) + 1≤(D.length:Int)):=by omega
  rw[if_pos h,BQ (by omega) (by omega),show ((a:Int) + 1 - 1)=((a:Nat):Int) by omega,BJ hd,Int.toNat_natCast,hd]
  by_cases h2:d.cons=[] <;> simp[e1,e2,AT,h2]
 ·rw[if_neg h]
  have:(decide (1≤t) && decide (t≤Sh.len D))=false:=by
   rw[AT]
   by_cases h1:1≤t
   ·have h2:¬ t≤(D.length:Int):=fun q=>h ⟨h1,q⟩
    simp[h1,h2]
   ·simp[h1]
  simp[this]
section
variable {p : Ag} {sg : BH} {R1 : Ag → List Int → AK → Option Int} {R2 : List Int → BH → AK → Option Int} {T : List Int → AK → Int} {e : AK} {v : List Int} {N : Nat}
theorem E8 (H:Ky p sg R1 R2 T (en e)) (V:Ha p e v) (hN:2000000≤N) (h1:¬ e.op=12) (h2:¬ e.op=13) (h3:¬ e.op=7) (h4:¬ e.op=8) :
  BE N R2 v sg e=if (e.kids.map (T v)).any (fun t=>decide (t < 0))=true then some (-1) else Option.bind (A6 N sg e.op e.num (e.kids.map (T v))) fun q=>if q.2=true then some q.1 else some (-1):=by
 unfold BE
 have hk:=V.Jv
 simp only[h1,h2,h3,h4,decide_false,Bool.false_eq_true,if_false]
 rw[AT,Jz _ _ _ (by omega) (by omega)]
 simp only[Option.bind_some]
 rw[S5 H V hN]
 by_cases h:(e.kids.map (T v)).any (fun t=>decide (t < 0))=true
 ·rw[if_pos h,if_pos h];rfl
 ·rw[if_neg h,if_neg h]
  simp only[Sh.Jq]
  cases A6 N sg e.op e.num (e.kids.map (T v)) with
  | none=>rfl
  | some q=>simp only[Option.bind_some];cases q.2 <;> rfl
theorem I3 (H:Ky p sg R1 R2 T (en e)) (V:Ha p e v) (hN:2000000≤N) (h1:¬ e.op=12) (h2:¬ e.op=13) (h3:¬ e.op=7) (h4:¬ e.op=8) {want:List Int} {c:Bool} {t:Int} (hw :∀x∈want,0≤x)
  (hs:A6 N sg e.op e.num (e.kids.map (T v))=some (t,c && decide (e.kids.map (T v)=want))) :
  BE N R2 v sg e=some (if c=true∧e.kids.map (T v)=want then t else -1):=by
 rw[E8 H V hN h1 h2 h3 h4,hs]
 by_cases h:e.kids.map (T v)=want
 ·have:¬ (e.kids.map (T v)).any (fun t=>decide (t < 0))=true:=fun q=>by
   obtain⟨x,hx,hx2⟩:=List.any_eq_true.1 q
   have:=hw x (h ▸ hx)
   simp only[decide_eq_true_eq] at hx2
   omega
  rw[if_neg this]
  cases c <;> simp[h]
 ·have hn:¬ (c=true∧e.kids.map (T v)=want):=fun q=>h q.2
  rw[if_neg hn]
  simp[h]
end
end RC



namespace RC
open Go
def FB (p:Ag):BH:=⟨p.decls,p.funcs.map fun f=>⟨f.params,[],f.result⟩⟩
section
variable {p : Ag} {R1 : Ag → List Int → AK → Option Int} {R2 : List Int → BH → AK → Option Int} {T : List Int → AK → Int} {e : AK} {v : List Int} {N : Nat}
def Il (p:Ag) (R1:Ag→List Int→AK→Option Int) (R2:List Int→BH→AK→Option Int) (N:Nat) (v:List Int) (e:AK):Prop:=
 ∃t,Bd N R1 p v e=some t∧BE N R2 v (FB p) e=some t∧(t=-1∨DW p.decls t=true)
theorem aB {D:List Ah}:DW D 0=true:=by unfold DW;simp
theorem len_nil {α:Type} {l:List α}:decide ((Sh.len l)=0)=decide (l=[]):=by
 cases l with
 | nil=>rfl
 | cons x r=>exact decide_eq_decide.2 (by rw[AT,List.length_cons];exact⟨fun h=>by omega,fun h=>nomatch h⟩)
theorem WR (H:Ky p (FB p) R1 R2 T (en e)) (V:Ha p e v) (hN:2000000≤N) (h:e.op=0):Il p R1 R2 N v e:=by
 have h1:=I3 H V hN (by omega) (by omega) (by omega) (by omega) (want:=[]) (c:=decide (-999≤e.num) && decide (e.num≤999)) (t:=0) (by simp) (by
  unfold A6
  simp only[h,decide_true,if_true,len_nil]
  by_cases a:-999≤e.num <;> by_cases b:e.num≤999 <;> simp[a,b,Sh.cont])
 refine⟨_,?_,h1,?_⟩
 ·unfold Bd
  simp only[h,decide_true,if_true,len_nil,EB]
  by_cases a:-999≤e.num <;> by_cases b:e.num≤999 <;> by_cases c:e.kids=[] <;> simp[a,b,c,Sh.cont]
 ·split
  ·exact .inr aB
  ·exact .inl rfl
theorem UD (H:Ky p (FB p) R1 R2 T (en e)) (V:Ha p e v) (hN:2000000≤N) (h:e.op=1∨e.op=2∨e.op=3∨e.op=4):Il p R1 R2 N v e:=by
 have hk:=V.Jv
 have h1:=I3 H V hN (by omega) (by omega) (by omega) (by omega) (want:=[0,0]) (c:=decide (e.num=0)) (t:=0) (by simp) (by
  unfold A6
  have e3:CG N (e.kids.map (T v)) [0,0]=some (decide (e.kids.map (T v)=[0,0])):=K0 (by simp;omega) hN
  rcases h with h | h | h | h <;> simp only[h,Int.reduceEq,decide_true,decide_false,Bool.false_eq_true,if_true,if_false,Option.bind_some,Sh.Jq] <;> rw[e3] <;> by_cases a:e.num=0 <;> simp[a])
 refine⟨_,?_,h1,?_⟩
 ·unfold Bd
  have e2:=P4 H V hN 2
  rw[show ((2:Nat):Int)=2 from rfl,show List.replicate 2 (0:Int)=[0,0] from rfl] at e2
  rcases h with h | h | h | h <;> simp only[h,Int.reduceEq,decide_true,decide_false,Bool.false_eq_true,if_true,if_false,Option.bind_some] <;> rw[e2] <;> by_cases a:e.num=0 <;> by_cases b:e.kids.map (T v)=[0,0] <;> simp[a,b,Sh.cont]
 ·split
  ·exact .inr aB
  ·exact .inl rfl
theorem UO (H:Ky p (FB p) R1 R2 T (en e)) (V:Ha p e v) (hN:2000000≤N) (h:e.op=5):Il p R1 R2 N v e:=by
 have hk:=V.Jv
 have h1:=I3 H V hN (by omega) (by omega) (by omega) (by omega) (want:=[0]) (c:=decide (e.num=0)) (t:=0) (by simp) (by
  unfold A6
  simp only[h,Int.reduceEq,decide_true,decide_false,Bool.false_eq_true,if_true,if_false,Option.bind_some,Sh.Jq]
  rw[K0 (by simp;omega) hN]
  by_cases a:e.num=0 <;> simp[a])
 refine⟨_,?_,h1,?_⟩
 ·unfold Bd
  have e2:=P4 H V hN 1
  rw[show ((1:Nat):Int)=1 from rfl,show List.replicate 1 (0:Int)=[0] from rfl] at e2
  simp only[h,Int.reduceEq,decide_true,decide_false,Bool.false_eq_true,if_true,if_false,Option.bind_some]
  rw[e2]
  by_cases a:e.num=0 <;> by_cases b:e.kids.map (T v)=[0] <;> simp[a,b,Sh.cont]
 ·split
  ·exact .inr aB
  ·exact .inl rfl
theorem Wr (H:Ky p (FB p) R1 R2 T (en e)) (V:Ha p e v) (S:GL p.decls p.funcs) (hN:2000000≤N) (h:e.op=6):Il p R1 R2 N v e:=by
 have hk:=V.Jv
 have hD:=S.QC
 have hn:=S.nc
 by_cases hr:0≤e.num∧e.num < (nc p.decls:Int)
 ·obtain⟨c,hc⟩:=Int.eq_ofNat_of_zero_le hr.1
  have hc2:c < nc p.decls:=by omega
  obtain⟨t,x,e1,e2⟩:=Kr (D:=p.decls) (by omega) (by omega) hc2 hN
  obtain⟨t',x',e1',e3⟩:=J6 (D:=p.decls) (by omega) (by omega) hc2 hN
  obtain⟨t'',x'',e1'',e4⟩:=MQ (D:=p.decls) (by omega) (by omega) hc2 hN
  rw[e1] at e1' e1''
  cases e1';cases e1''
  obtain⟨g1,g2,d,g3,g4⟩:=PU e1
  have hx:=S.Mm d g3 x g4
  have h1:=I3 H V hN (by omega) (by omega) (by omega) (by omega) (want:=x.fields) (c:=true) (t:=(t:Int)) (fun y hy=>(Kc (hx.2 y hy)).1) (by
   unfold A6
   simp only[h,Int.reduceEq,decide_true,decide_false,Bool.false_eq_true,if_true,if_false,Option.bind_some]
   rw[hc,show (FB p).decls=p.decls from rfl,e4]
   simp only[Option.bind_some]
   rw[K0 (by simp;omega) hN,if_pos (by simp)]
   simp[Sh.cont])
  refine⟨_,?_,h1,?_⟩
  ·unfold Bd
   simp only[h,Int.reduceEq,decide_true,decide_false,Bool.false_eq_true,if_true,if_false,Option.bind_some]
   rw[hc,e2,e3]
   simp only[Option.bind_some]
   rw[PF H V hN,if_pos (by simp;omega)]
   by_cases b:e.kids.map (T v)=x.fields <;> simp[b,Sh.cont]
  ·split
   ·right;unfold DW;simp;omega
   ·exact .inl rfl
 ·refine⟨-1,?_,?_,.inl rfl⟩
  ·unfold Bd
   simp only[h,Int.reduceEq,decide_true,decide_false,Bool.false_eq_true,if_true,if_false,Option.bind_some]
   rw[Oo (by omega) (by omega) (by omega) hN]
   simp[Sh.cont]
  ·rw[E8 H V hN (by omega) (by omega) (by omega) (by omega)]
   unfold A6
   simp only[h,Int.reduceEq,decide_true,decide_false,Bool.false_eq_true,if_true,if_false,Option.bind_some]
   rw[show (FB p).decls=p.decls from rfl,QW (by omega) (by omega) V.JV.num (by omega) hN]
   simp[Sh.cont]
theorem UX (H:Ky p (FB p) R1 R2 T (en e)) (V:Ha p e v) (hN:2000000≤N) (h:e.op < 0∨13 < e.op):Il p R1 R2 N v e:=by
 refine⟨-1,?_,?_,.inl rfl⟩
 ·unfold Bd
  simp only[show ¬ e.op=0 by omega,show ¬ e.op=12 by omega,show ¬ e.op=1 by omega,show ¬ e.op=2 by omega,show ¬ e.op=3 by omega,show ¬ e.op=4 by omega,show ¬ e.op=5 by omega,show ¬ e.op=6 by omega,show ¬ e.op=13 by omega,show ¬ e.op=7 by omega,show ¬ e.op=8 by omega,show ¬ e.op=9 by omega,show ¬ e.op=10 by omega,show ¬ e.op=11 by omega,decide_false,Bool.false_eq_true,if_false,Option.bind_some]
  simp[Sh.cont]
 ·rw[E8 H V hN (by omega) (by omega) (by omega) (by omega)]
  unfold A6
  simp only[show ¬ e.op=0 by omega,show ¬ e.op=12 by omega,show ¬ e.op=1 by omega,show ¬ e.op=2 by omega,show ¬ e.op=3 by omega,show ¬ e.op=4 by omega,show ¬ e.op=5 by omega,show ¬ e.op=6 by omega,show ¬ e.op=13 by omega,show ¬ e.op=7 by omega,show ¬ e.op=8 by omega,show ¬ e.op=9 by omega,show ¬ e.op=10 by omega,show ¬ e.op=11 by omega,decide_false,Bool.false_eq_true,if_false,Option.bind_some]
  simp[Sh.cont]
theorem WT (V:Ha p e v) (h:e.op=12):Il p R1 R2 N v e:=by
 have hv:v.length≤1000:=by have:=V.len;omega
 unfold Il Bd BE
 simp only[h,Int.reduceEq,decide_true,decide_false,Bool.false_eq_true,if_true,if_false,Option.bind_some,len_nil,EB]
 rw[AT,BQ (by omega) (by omega)]
 cases hks:e.kids with
 | cons a r=>exact⟨-1,by simp[Sh.cont],by simp[AT],.inl rfl⟩
 | nil=>
  by_cases h1:0≤e.num
  ·by_cases h2:e.num < (v.length:Int)
   ·obtain⟨x,g1,g2⟩:=RQ h1 h2
    have h3:e.num≤(v.length:Int) - 1:=by omega
    have h4:¬ e.num < 0:=by omega
    have h5:¬ (v.length:Int)≤e.num:=by omega
    refine⟨x,?_,?_,.inr (V.NQ x (List.mem_of_getElem? g2))⟩
    ·simp[h1,h3,g1,Sh.cont]
    ·simp[h4,h5,g1,AT]
   ·have h3:¬ e.num≤(v.length:Int) - 1:=by omega
    have h4:¬ e.num < 0:=by omega
    have h5:(v.length:Int)≤e.num:=by omega
    exact⟨-1,by simp[h1,h3,Sh.cont],by simp[h4,h5,AT],.inl rfl⟩
  ·have h4:e.num < 0:=by omega
   exact⟨-1,by simp[h1,Sh.cont],by simp[h4,AT],.inl rfl⟩
end
end RC



namespace RC
open Go
section
variable {p : Ag} {R1 : Ag → List Int → AK → Option Int} {R2 : List Int → BH → AK → Option Int} {T : List Int → AK → Int} {e : AK} {v : List Int} {N : Nat}
theorem Wf (H:Ky p (FB p) R1 R2 T (en e)) (V:Ha p e v) (h:e.op=13):Il p R1 R2 N v e:=by
 have hv:v.length≤1000:=by have:=V.len;omega
 unfold Il Bd BE
 simp only[h,Int.reduceEq,decide_true,decide_false,Bool.false_eq_true,if_true,if_false,Option.bind_some]
 by_cases hl:e.kids.length=2
 ·obtain⟨a,b,hk⟩ :∃a b,e.kids=[a,b]:=by
   match hk:e.kids,hl with
   | [a,b],_=>exact⟨a,b,rfl⟩
  have hma:a∈e.kids:=by rw[hk];simp
  have hmb:b∈e.kids:=by rw[hk];simp
  obtain⟨a1,a2,a3⟩:=H v a (V.JV.kids a hma) (ES hma) (V.MH hma) V.NQ
  have g0:Sh.get e.kids 0=some a:=by rw[hk];rfl
  have g1:Sh.get e.kids 1=some b:=by rw[hk];rfl
  rw[g0,g1]
  simp only[Option.bind_some,AT,hl]
  rw[a1,a2]
  simp only[Option.bind_some]
  by_cases hn:e.num=0
  ·by_cases ht:0≤T v a
   ·have ht':¬ T v a < 0:=by omega
    have hty:DW p.decls (T v a)=true:=by
     rcases a3 with q | q
     ·omega
     ·exact q
    obtain⟨b1,b2,b3⟩:=H (v ++ [T v a]) b (V.JV.kids b hmb) (ES hmb) (V.more hmb (by simp)) (V.Su (by simp[hty]))
    refine⟨T (v ++ [T v a]) b,?_,?_,b3⟩
    ·rw[RI hv (by simp)]
     simp[hn,ht,b1,Sh.cont]
    ·rw[DX v [T v a] 8 (by simp;omega) (by simp;omega)]
     simp[hn,ht',b2]
   ·have ht':T v a < 0:=by omega
    exact⟨-1,by simp[hn,ht,Sh.cont],by simp[hn,ht'],.inl rfl⟩
  ·exact⟨-1,by simp[hn,Sh.cont],by simp[hn],.inl rfl⟩
 ·have hl':¬ ((e.kids.length:Int)=2):=by omega
  refine⟨-1,?_,?_,.inl rfl⟩
  ·by_cases hn:e.num=0 <;> simp[hn,AT,hl',Sh.cont]
  ·simp[AT,hl']
theorem Wc (x y:Int):Me [x,y]=if y=x then x else -1:=by
 unfold Me
 by_cases h:y=x <;> simp[h]
theorem Xu (H:Ky p (FB p) R1 R2 T (en e)) (V:Ha p e v) (hN:2000000≤N) (h:e.op=7):Il p R1 R2 N v e:=by
 have hv:v.length≤1000:=by have:=V.len;omega
 unfold Il Bd BE
 simp only[h,Int.reduceEq,decide_true,decide_false,Bool.false_eq_true,if_true,if_false,Option.bind_some]
 by_cases hl:e.kids.length=3
 ·obtain⟨a,b,c,hk⟩ :∃a b c,e.kids=[a,b,c]:=by
   match hk:e.kids,hl with
   | [a,b,c],_=>exact⟨a,b,c,rfl⟩
  have hma:a∈e.kids:=by rw[hk];simp
  have hmb:b∈e.kids:=by rw[hk];simp
  have hmc:c∈e.kids:=by rw[hk];simp
  obtain⟨a1,a2,a3⟩:=H v a (V.JV.kids a hma) (ES hma) (V.MH hma) V.NQ
  obtain⟨b1,b2,b3⟩:=H v b (V.JV.kids b hmb) (ES hmb) (V.MH hmb) V.NQ
  obtain⟨c1,c2,c3⟩:=H v c (V.JV.kids c hmc) (ES hmc) (V.MH hmc) V.NQ
  have g0:Sh.get e.kids 0=some a:=by rw[hk];rfl
  have g1:Sh.get e.kids 1=some b:=by rw[hk];rfl
  have g2:Sh.get e.kids 2=some c:=by rw[hk];rfl
  have g3:Sh.sl e.kids 1 3=some [b,c]:=by rw[hk];rfl
  have o:=Ke (ks:=[b,c]) (ms:=[[],[]]) H V hN (by intro k hk;simp only[List.mem_cons,List.not_mem_nil,or_false] at hk;rcases hk with rfl | rfl <;> assumption) (by simp) rfl (by simp)
  have mk2:Sh.mk ([]:List Int) 2 24=some [[],[]]:=Jz [] 2 24 (by omega) (by omega)
  rw[g0,g1,g2]
  simp only[Option.bind_some,AT,hl]
  rw[a1,a2,b1,c1,show ((3:Nat):Int)=3 from rfl,g3,mk2]
  simp only[Option.bind_some]
  rw[o]
  simp only[Option.bind_some,List.zipWith,List.append_nil,Wc]
  by_cases hn:e.num=0
  ·by_cases ht:T v a=0
   ·by_cases hq:T v c=T v b
    ·exact⟨T v b,by simp[hn,ht,hq,Sh.cont],by simp[hn,ht,hq],b3⟩
    ·exact⟨-1,by simp[hn,ht,hq,Sh.cont],by simp[hn,ht,hq],.inl rfl⟩
   ·exact⟨-1,by simp[hn,ht,Sh.cont],by simp[hn,ht],.inl rfl⟩
  ·exact⟨-1,by simp[hn,Sh.cont],by simp[hn],.inl rfl⟩
 ·have hl':¬ ((e.kids.length:Int)=3):=by omega
  refine⟨-1,?_,?_,.inl rfl⟩
  ·by_cases hn:e.num=0 <;> simp[hn,AT,hl',Sh.cont]
  ·simp[AT,hl']
theorem V0 {n:Int}:(∃f,0≤n∧n < (p.funcs.length:Int)∧p.funcs[n.toNat]?=some f∧f∈p.funcs∧Sh.get p.funcs n=some f∧Sh.get (FB p).funcs n=some ⟨f.params,[],f.result⟩)∨(n < 0∨(p.funcs.length:Int)≤n):=by
 by_cases h:0≤n∧n < (p.funcs.length:Int)
 ·obtain⟨f,h1,h2⟩:=RQ h.1 h.2
  refine .inl ⟨f,h.1,h.2,h2,List.mem_of_getElem? h2,h1,?_⟩
  rw[Sq h.1]
  show ((p.funcs.map fun f=>(⟨f.params,[],f.result⟩:BV)))[n.toNat]?=_
  rw[List.getElem?_map,h2];rfl
 ·exact .inr (by omega)
theorem Kb:(FB p).funcs.length=p.funcs.length:=by show (p.funcs.map _).length=_;simp
theorem U1 (H:Ky p (FB p) R1 R2 T (en e)) (V:Ha p e v) (S:GL p.decls p.funcs) (hN:2000000≤N) (h:e.op=9):Il p R1 R2 N v e:=by
 have hk:=V.Jv
 have hF:=S.Mr
 rcases V0 (p:=p) (n:=e.num) with ⟨f,f0,f1,f2,f3,f4,f5⟩ | hr
 ·obtain⟨q1,q2,q3⟩:=S.Q3 f f3
  have f0':¬ e.num < 0:=by omega
  have f1':¬ (p.funcs.length:Int)≤e.num:=by omega
  have f1'':e.num≤(p.funcs.length:Int) - 1:=by omega
  have h1:=I3 H V hN (by omega) (by omega) (by omega) (by omega) (want:=f.params) (c:=true) (t:=f.result) (fun y hy=>(Kc (q2 y hy)).1) (by
   unfold A6
   simp only[h,Int.reduceEq,decide_true,decide_false,Bool.false_eq_true,if_true,if_false,Option.bind_some,AT,Kb,f0',f1']
   rw[f5]
   simp only[Option.bind_some]
   rw[K0 (by simp;omega) hN]
   simp[Sh.cont])
  refine⟨_,?_,h1,?_⟩
  ·unfold Bd Ex
   simp only[h,Int.reduceEq,decide_true,decide_false,Bool.false_eq_true,if_true,if_false,Option.bind_some]
   rw[EB,AT p.funcs,BQ (n:=(p.funcs.length:Int) - 1) (by omega) (by omega),f4]
   simp only[h,Int.reduceEq,decide_true,decide_false,Bool.false_eq_true,if_true,if_false,Option.bind_some,f0,f1'',Bool.and_self,Bool.not_true]
   rw[PF H V hN]
   by_cases b:e.kids.map (T v)=f.params <;> simp[b,Sh.cont]
  ·split
   ·exact .inr q3
   ·exact .inl rfl
 ·refine⟨-1,?_,?_,.inl rfl⟩
  ·unfold Bd Ex
   simp only[h,Int.reduceEq,decide_true,decide_false,Bool.false_eq_true,if_true,if_false,Option.bind_some]
   rw[EB,AT p.funcs,BQ (n:=(p.funcs.length:Int) - 1) (by omega) (by omega)]
   have:(decide (0≤e.num) && decide (e.num≤(p.funcs.length:Int) - 1))=false:=by
    rw[Bool.and_eq_false_iff,decide_eq_false_iff_not,decide_eq_false_iff_not];omega
   rw[this]
   simp only[h,Int.reduceEq,decide_true,decide_false,Bool.false_eq_true,if_true,if_false,Option.bind_some]
   simp[Sh.cont]
  ·rw[E8 H V hN (by omega) (by omega) (by omega) (by omega)]
   unfold A6
   simp only[h,Int.reduceEq,decide_true,decide_false,Bool.false_eq_true,if_true,if_false,Option.bind_some,AT,Kb]
   rcases hr with hr | hr
   ·simp[hr,Sh.cont]
   ·have:¬ e.num < 0:=by omega
    simp[hr,this,Sh.cont]
theorem Tv {α:Type} {l:List α} {m:Nat} (h:m≤l.length):Sh.sl l 0 (m:Int)=some (l.take m):=by
 unfold Sh.sl
 rw[if_pos ⟨by omega,by omega,by omega⟩];simp
theorem Ug (H:Ky p (FB p) R1 R2 T (en e)) (V:Ha p e v) (S:GL p.decls p.funcs) (hN:2000000≤N) (h:e.op=10):Il p R1 R2 N v e:=by
 have hk:=V.Jv
 have hF:=S.Mr
 have hD:=S.QC
 rcases V0 (p:=p) (n:=e.num) with ⟨f,f0,f1,f2,f3,f4,f5⟩ | hr
 ·obtain⟨q1,q2,q3⟩:=S.Q3 f f3
  have f0':¬ e.num < 0:=by omega
  have f1':¬ (p.funcs.length:Int)≤e.num:=by omega
  have f1'':e.num≤(p.funcs.length:Int) - 1:=by omega
  by_cases hp:f.params.length=0
  ·have hp':f.params=[]:=List.eq_nil_of_length_eq_zero hp
   refine⟨-1,?_,?_,.inl rfl⟩
   ·unfold Bd Ex
    simp only[h,Int.reduceEq,decide_true,decide_false,Bool.false_eq_true,if_true,if_false,Option.bind_some]
    rw[EB,AT p.funcs,BQ (n:=(p.funcs.length:Int) - 1) (by omega) (by omega),f4]
    simp only[h,Int.reduceEq,decide_true,decide_false,Bool.false_eq_true,if_true,if_false,Option.bind_some,f0,f1'',Bool.and_self,Bool.not_true,len_nil,hp']
    simp[Sh.cont]
   ·rw[E8 H V hN (by omega) (by omega) (by omega) (by omega)]
    unfold A6
    simp only[h,Int.reduceEq,decide_true,decide_false,Bool.false_eq_true,if_true,if_false,Option.bind_some,AT,Kb,f0',f1']
    rw[f5]
    simp only[Option.bind_some,hp]
    rw[BQ (by omega) (by omega)]
    simp[Sh.cont]
  ·obtain⟨m,hm⟩ :∃m,f.params.length=m+1:=⟨f.params.length - 1,by omega⟩
   obtain⟨x,hx,hxm⟩:=B3 (l:=f.params) (i:=m) (by omega)
   have hp':¬ f.params=[]:=fun q=>hp (by rw[q];rfl)
   have hw:Sh.w ((f.params.length:Int) - 1)=(m:Int):=by rw[BQ (by omega) (by omega)];omega
   have hm0:¬ ((m:Int) < 0):=by omega
   have hty:HL x f.result p.decls 0=-1∨DW p.decls (HL x f.result p.decls 0)=true:=by
    rcases Tx (a:=x) (b:=f.result) p.decls 0 with q | q
    ·exact .inl q
    ·right;unfold DW;simp;omega
   have h1:=I3 H V hN (by omega) (by omega) (by omega) (by omega) (want:=f.params.take m) (c:=decide (0≤HL x f.result p.decls 0)) (t:=HL x f.result p.decls 0) (fun y hy=>(Kc (q2 y (List.mem_of_mem_take hy))).1) (by
    unfold A6
    simp only[h,Int.reduceEq,decide_true,decide_false,Bool.false_eq_true,if_true,if_false,Option.bind_some,AT,Kb,f0',f1']
    rw[f5]
    simp only[Option.bind_some,hw,hm0,decide_false,Bool.false_eq_true,if_false]
    rw[BJ hx]
    simp only[Option.bind_some]
    rw[show (FB p).decls=p.decls from rfl,Pe (by omega) hN,Tv (by omega)]
    simp only[Option.bind_some]
    rw[K0 (by simp;omega) hN]
    by_cases z:0≤HL x f.result p.decls 0 <;> simp[z,Sh.cont])
   refine⟨_,?_,h1,?_⟩
   ·unfold Bd Ex
    simp only[h,Int.reduceEq,decide_true,decide_false,Bool.false_eq_true,if_true,if_false,Option.bind_some]
    rw[EB,AT p.funcs,BQ (n:=(p.funcs.length:Int) - 1) (by omega) (by omega),f4]
    simp only[h,Int.reduceEq,decide_true,decide_false,Bool.false_eq_true,if_true,if_false,Option.bind_some,f0,f1'',Bool.and_self,Bool.not_true,len_nil,hp']
    rw[AT,hw,Tv (by omega),BJ hx]
    simp only[Option.bind_some]
    rw[PF H V hN,PJ (by omega) hN]
    by_cases b:e.kids.map (T v)=f.params.take m
    ·by_cases z:0≤HL x f.result p.decls 0
     ·simp[b,z,Sh.cont]
     ·have:HL x f.result p.decls 0=-1:=by
       rcases hty with q | q
       ·exact q
       ·exact absurd (Kc q).1 z
      simp[b,this,Sh.cont]
    ·simp[b,Sh.cont]
   ·split
    ·exact hty
    ·exact .inl rfl
 ·refine⟨-1,?_,?_,.inl rfl⟩
  ·unfold Bd Ex
   simp only[h,Int.reduceEq,decide_true,decide_false,Bool.false_eq_true,if_true,if_false,Option.bind_some]
   rw[EB,AT p.funcs,BQ (n:=(p.funcs.length:Int) - 1) (by omega) (by omega)]
   have:(decide (0≤e.num) && decide (e.num≤(p.funcs.length:Int) - 1))=false:=by
    rw[Bool.and_eq_false_iff,decide_eq_false_iff_not,decide_eq_false_iff_not];omega
   rw[this]
   simp only[h,Int.reduceEq,decide_true,decide_false,Bool.false_eq_true,if_true,if_false,Option.bind_some]
   simp[Sh.cont]
  ·rw[E8 H V hN (by omega) (by omega) (by omega) (by omega)]
   unfold A6
   simp only[h,Int.reduceEq,decide_true,decide_false,Bool.false_eq_true,if_true,if_false,Option.bind_some,AT,Kb]
   rcases hr with hr | hr
   ·simp[hr,Sh.cont]
   ·have:¬ e.num < 0:=by omega
    simp[hr,this,Sh.cont]
theorem Ty (H:Ky p (FB p) R1 R2 T (en e)) (V:Ha p e v) (S:GL p.decls p.funcs) (hN:2000000≤N) (h:e.op=11):Il p R1 R2 N v e:=by
 have hk:=V.Jv
 have hD:=S.QC
 by_cases hl:e.kids.length=2
 ·obtain⟨a,b,hk⟩ :∃a b,e.kids=[a,b]:=by
   match hk:e.kids,hl with
   | [a,b],_=>exact⟨a,b,rfl⟩
  have hma:a∈e.kids:=by rw[hk];simp
  have hmb:b∈e.kids:=by rw[hk];simp
  obtain⟨a1,a2,a3⟩:=H v a (V.JV.kids a hma) (ES hma) (V.MH hma) V.NQ
  obtain⟨b1,b2,b3⟩:=H v b (V.JV.kids b hmb) (ES hmb) (V.MH hmb) V.NQ
  have g0:Sh.get e.kids 0=some a:=by rw[hk];rfl
  have g1:Sh.get e.kids 1=some b:=by rw[hk];rfl
  have i1:Sh.get (e.kids.map (T v)) 0=some (T v a):=by rw[hk];rfl
  have i2:Sh.get (e.kids.map (T v)) 1=some (T v b):=by rw[hk];rfl
  have imp:BE N R2 v (FB p) e=some ((Nh p.decls (T v a)).elim (-1) fun d=>if T v b=d.from_∧e.num=0 then d.to else -1):=by
   rw[E8 H V hN (by omega) (by omega) (by omega) (by omega)]
   unfold A6
   simp only[h,Int.reduceEq,decide_true,decide_false,Bool.false_eq_true,if_true,if_false,Option.bind_some,AT,List.length_map,hl]
   rw[i1,i2]
   simp only[Option.bind_some]
   rw[show (FB p).decls=p.decls from rfl,Pm (by omega)]
   simp only[Option.bind_some]
   cases hA:Nh p.decls (T v a) with
   | none=>simp[Sh.cont]
   | some d=>
    obtain⟨m1,m2,m3,m4⟩:=PI hA
    have m5:=S.Yy d m1
    have n1:¬ T v a < 0:=by omega
    by_cases c1:T v b=d.from_
    ·have n2:¬ T v b < 0:=by rw[c1];have:=(Kc m5.1).1;omega
     have n3:¬ d.from_ < 0:=c1 ▸ n2
     by_cases c2:e.num=0 <;> simp[hk,n1,c1,n3,c2,Sh.cont]
    ·simp[c1,Sh.cont]
  refine⟨_,?_,imp,?_⟩
  ·unfold Bd
   simp only[h,Int.reduceEq,decide_true,decide_false,Bool.false_eq_true,if_true,if_false,Option.bind_some,AT,hl]
   rw[g0,g1]
   simp only[Option.bind_some]
   rw[a1]
   simp only[Option.bind_some]
   rw[PN (by omega),b1]
   simp only[Option.bind_some]
   cases hA:Nh p.decls (T v a) with
   | none=>by_cases c2:e.num=0 <;> simp[c2,Sh.cont]
   | some d=>
    obtain⟨m1,m2,m3,m4⟩:=PI hA
    have g5:Sh.get p.decls (Sh.w (T v a - 1))=some d:=by rw[BQ (by omega) (by omega),Sq (by omega),m4]
    rw[g5]
    by_cases c2:e.num=0 <;> by_cases c1:T v b=d.from_ <;> simp[c1,c2,Sh.cont]
  ·cases hA:Nh p.decls (T v a) with
   | none=>exact .inl rfl
   | some d=>
    obtain⟨m1,_⟩:=PI hA
    simp only[Option.elim_some]
    split
    ·exact .inr (S.Yy d m1).2
    ·exact .inl rfl
 ·have hl':¬ ((e.kids.length:Int)=2):=by omega
  refine⟨-1,?_,?_,.inl rfl⟩
  ·unfold Bd
   simp only[h,Int.reduceEq,decide_true,decide_false,Bool.false_eq_true,if_true,if_false,Option.bind_some,AT,hl']
   by_cases c2:e.num=0 <;> simp[c2,Sh.cont]
  ·rw[E8 H V hN (by omega) (by omega) (by omega) (by omega)]
   unfold A6
   simp only[h,Int.reduceEq,decide_true,decide_false,Bool.false_eq_true,if_true,if_false,Option.bind_some,AT,List.length_map,hl']
   simp[Sh.cont]
end
end RC



namespace RC
open Go
def Ft (D:List Ah) (c:Int):List Int:=(Ja D 0 c.toNat).elim [] fun x=>x.2.fields
theorem U7 {D:List Ah} {t c:Int} (h:c∈Ic D t) :∃k:Nat,c=(k:Int)∧k < nc D:=by
 unfold Ic at h
 split at h
 ·rename_i h1
  obtain⟨a,ha⟩ :∃a:Nat,t=(a:Int) + 1:=⟨(t - 1).toNat,by omega⟩
  subst ha
  obtain⟨d,hd,_⟩:=B3 (l:=D) (i:=a) (by omega)
  rw[show (((a:Int) + 1) - 1).toNat=a by omega,hd] at h
  simp only[Option.elim_some,List.mem_map,List.mem_range] at h
  obtain⟨i,hi,rfl⟩:=h
  have hs:=Fx D a
  rw[O5 hd] at hs
  exact⟨nc (D.take a) + i,by omega,by omega⟩
 ·cases h
theorem N8 {D:List Ah} (h :∀d∈D,d.cons.length≤3) (t:Int):(Ic D t).length≤3:=by
 unfold Ic
 split
 ·rename_i h1
  obtain⟨a,ha⟩ :∃a:Nat,t=(a:Int) + 1:=⟨(t - 1).toNat,by omega⟩
  subst ha
  obtain⟨d,hd,hm⟩:=B3 (l:=D) (i:=a) (by omega)
  rw[show (((a:Int) + 1) - 1).toNat=a by omega,hd]
  simp only[Option.elim_some,List.length_map,List.length_range]
  exact h d hm
 ·simp
theorem S6 {D:List Ah} {F:List Av} (S:GL D F) {t c:Int} (h:c∈Ic D t) {N:Nat} (hN:2000000≤N):C4 N D c=some (Ft D c)∧C6 N D c=some (Ft D c)∧(Ft D c).length≤3∧∀x∈Ft D c,DW D x=true:=by
 obtain⟨k,rfl,hk⟩:=U7 h
 have hD:=S.QC
 have hn:=S.nc
 obtain⟨t,x,e1,e2⟩:=J6 (D:=D) (by omega) (by omega) hk hN
 obtain⟨t',x',e1',e3⟩:=Oz (D:=D) (by omega) (by omega) hk hN
 rw[e1] at e1'
 cases e1'
 obtain⟨_,_,d,g3,g4⟩:=PU e1
 have hf:Ft D (k:Int)=x.fields:=by unfold Ft;rw[Int.toNat_natCast,e1];rfl
 rw[hf]
 exact⟨e2,e3,S.Mm d g3 x g4⟩
section
variable {p : Ag} {R1 : Ag → List Int → AK → Option Int} {R2 : List Int → BH → AK → Option Int} {T : List Int → AK → Int} {e : AK} {v : List Int} {N : Nat}
theorem O4 (S:GL p.decls p.funcs) (hN:2000000≤N) {C:List Int} (hC:C.length≤3) (hc :∀c∈C,C6 N p.decls c=some (Ft p.decls c)):Be N (FB p) C N 0 (List.replicate C.length [])=some (C.map (Ft p.decls)):=by
 have key :∀{M i:Nat},i≤C.length→C.length - i < M→∀m:List (List Int),m.length=C.length→m.take i=(C.map (Ft p.decls)).take i→Be N (FB p) C M i m=some (C.map (Ft p.decls)):=by
  intro M i hi hM
  refine B7 C.length (fun M i=>∀m:List (List Int),m.length=C.length→m.take i=(C.map (Ft p.decls)).take i→Be N (FB p) C M i m=some (C.map (Ft p.decls))) ?_ ?_ hi hM
  ·intro n m a b
   rw[Be,if_neg (by simp[AT])]
   rw[List.take_of_length_le (by omega),List.take_of_length_le (by simp)] at b
   rw[b]
  ·intro n i hi ih m a b
   obtain⟨x,hx,hxm⟩:=B3 hi
   obtain⟨y,hy,_⟩:=B3 (l:=m) (i:=i) (by omega)
   have hx2:(C.map (Ft p.decls))[i]?=some (Ft p.decls x):=by rw[List.getElem?_map,hx];rfl
   have hi':(m.set i (Ft p.decls x))[i]?=some (Ft p.decls x):=by rw[List.getElem?_set_self (by omega)]
   rw[Be,if_pos (by simp[AT];omega),BJ hx]
   simp only[Option.bind_some]
   rw[show (FB p).decls=p.decls from rfl,hc x hxm,BJ hy]
   simp only[Option.bind_some]
   rw[HX,BQ (by omega) (by omega),show ((i:Int) + 1)=((i+1:Nat):Int) by omega]
   exact ih _ (by simp[a]) (by rw[Cn hi',Cn hx2,← b,List.take_set_of_le (Nat.le_refl _)])
 have:=key (Nat.zero_le _) (by omega:C.length - 0 < N) (List.replicate C.length []) (by simp) rfl
 simpa using this
theorem Ud (H:Ky p (FB p) R1 R2 T (en e)) (V:Ha p e v) (S:GL p.decls p.funcs) (hN:2000000≤N) (h:e.op=8):Il p R1 R2 N v e:=by
 have hk:=V.Jv
 have hD:=S.QC
 have hn:=S.nc
 have hv:v.length≤1000:=by have:=V.len;omega
 have hCl:=N8 S.V7 e.num
 unfold Il Bd BE Hk
 simp only[h,Int.reduceEq,decide_true,decide_false,Bool.false_eq_true,if_true,if_false,Option.bind_some]
 rw[show (FB p).decls=p.decls from rfl,Qa (by omega) (by omega) hN,JQ (by omega) (by omega) hN]
 simp only[Option.bind_some]
 generalize hCe:Ic p.decls e.num=C at hCl
 have hCm :∀c∈C,C4 N p.decls c=some (Ft p.decls c)∧C6 N p.decls c=some (Ft p.decls c)∧(Ft p.decls c).length≤3∧∀x∈Ft p.decls c,DW p.decls x=true:=fun c hc=>S6 S (hCe ▸ hc) hN
 rw[AT C,AT e.kids,BQ (n:=1+(C.length:Int)) (by omega) (by omega)]
 by_cases h0:C.length=0
 ·exact⟨-1,by simp[h0,Sh.cont],by simp[h0],.inl rfl⟩
 ·have h0':¬ ((C.length:Int)=0):=by omega
  have hne:¬ C=[]:=fun q=>h0 (by rw[q];rfl)
  by_cases h1:e.kids.length=1+C.length
  ·have h1':((e.kids.length:Int)=1+(C.length:Int)):=by omega
   obtain⟨a,r,hks⟩ :∃a r,e.kids=a :: r:=by
    cases hq:e.kids with
    | nil=>rw[hq] at h1;simp at h1;omega
    | cons a r=>exact⟨a,r,rfl⟩
   have hrl:r.length=C.length:=by rw[hks] at h1;simp at h1;omega
   have hma:a∈e.kids:=by rw[hks];simp
   have hmr :∀k∈r,k∈e.kids:=fun k hk=>by rw[hks];simp[hk]
   obtain⟨a1,a2,a3⟩:=H v a (V.JV.kids a hma) (ES hma) (V.MH hma) V.NQ
   have g0:Sh.get e.kids 0=some a:=by rw[hks];rfl
   have gi :∀(i:Nat) k,r[i]?=some k→Sh.get e.kids ((1+i:Nat):Int)=some k:=fun i k hk=>by
    rw[Mb,hks,Nat.add_comm];simpa using hk
   have g3:Sh.sl e.kids 1 (e.kids.length:Int)=some r:=by
    unfold Sh.sl
    rw[if_pos ⟨by omega,by omega,by omega⟩,hks];simp
   have mkC:Sh.mk ([]:List Int) (C.length:Int) 24=some (List.replicate C.length []):=Jz [] C.length 24 (by omega) (by omega)
   have o:=Ke (ks:=r) (ms:=C.map (Ft p.decls)) H V hN hmr (by omega) (by simp[hrl]) (by
    intro m hm
    obtain⟨c,hc,rfl⟩:=List.mem_map.1 hm
    exact (hCm c hc).2.2)
   have F:=O4 (p:=p) S hN hCl fun c hc=>(hCm c hc).2.1
   generalize hts:List.zipWith (fun m k=>T (v ++ m) k) (C.map (Ft p.decls)) r=ts at o
   have tsl:ts.length=C.length:=by rw[← hts];simp[hrl]
   have tsi :∀(i:Nat),i < C.length→∃c k,C[i]?=some c∧r[i]?=some k∧ts[i]?=some (T (v ++ Ft p.decls c) k)∧C4 N p.decls c=some (Ft p.decls c)∧Fm v (Ft p.decls c)=some (v ++ Ft p.decls c)∧R1 p (v ++ Ft p.decls c) k=some (T (v ++ Ft p.decls c) k)∧(T (v ++ Ft p.decls c) k=-1∨DW p.decls (T (v ++ Ft p.decls c) k)=true):=fun i hi=>by
    obtain⟨c,hc,hcm⟩:=B3 (l:=C) (i:=i) hi
    obtain⟨k,hk2,hkm⟩:=B3 (l:=r) (i:=i) (by omega)
    obtain⟨q1,q2,q3,q4⟩:=hCm c hcm
    obtain⟨z1,z2,z3⟩:=H (v ++ Ft p.decls c) k (V.JV.kids k (hmr k hkm)) (ES (hmr k hkm)) (V.more (hmr k hkm) q3) (V.Su q4)
    refine⟨c,k,hc,hk2,?_,q1,RI hv (by omega),z1,z3⟩
    rw[← hts,List.getElem?_zipWith,List.getElem?_map,hc,hk2];rfl
   have L :∀(t:Int) {M i:Nat},i≤C.length→C.length - i < M→C2 N p v e t C R1 M i=some (if (ts.drop i).all (fun x=>decide (x=t))=true then .inr () else .inl (-1)):=by
    intro t M i hi hM
    refine B7 C.length (fun M i=>C2 N p v e t C R1 M i=some (if (ts.drop i).all (fun x=>decide (x=t))=true then .inr () else .inl (-1))) ?_ ?_ hi hM
    ·intro n
     rw[C2,if_neg (by simp[AT]),List.drop_of_length_le (by omega)];rfl
    ·intro n i hi ih
     obtain⟨c,k,q1,q2,q3,q4,q5,q6,q7⟩:=tsi i hi
     rw[C2,if_pos (by simp[AT];omega),BJ q1]
     simp only[Option.bind_some]
     rw[q4]
     simp only[Option.bind_some]
     rw[q5,BQ (n:=(1:Int) + (i:Int)) (by omega) (by omega),show ((1:Int) + (i:Int))=((1+i:Nat):Int) by omega,gi i k q2]
     simp only[Option.bind_some]
     rw[q6,BQ (by omega) (by omega),show ((i:Int) + 1)=((i+1:Nat):Int) by omega,drop_cons q3,List.all_cons]
     simp only[Option.bind_some]
     by_cases z:T (v ++ Ft p.decls c) k=t
     ·simp only[z,decide_true,Bool.not_true,Bool.false_eq_true,if_false,Bool.true_and]
      exact ih
     ·simp[z]
   rw[g0,g3,mkC]
   simp only[Option.bind_some]
   rw[a1,a2]
   simp only[Option.bind_some]
   rw[F]
   simp only[Option.bind_some]
   rw[o]
   obtain⟨c,k,q1,q2,q3,q4,q5,q6,q7⟩:=tsi 0 (by omega)
   have g1:=gi 0 k q2
   have c0:Sh.get C 0=some c:=by rw[show (0:Int)=((0:Nat):Int) from rfl,BJ q1]
   rw[show ((1+0:Nat):Int)=1 from rfl] at g1
   rw[c0]
   simp only[Option.bind_some]
   rw[q4]
   simp only[Option.bind_some]
   rw[q5,g1]
   simp only[Option.bind_some]
   rw[q6]
   simp only[Option.bind_some]
   have L1:=L (T (v ++ Ft p.decls c) k) (M:=N) (i:=1) (by omega) (by omega)
   rw[show ((1:Nat):Int)=1 from rfl] at L1
   rw[L1]
   have hts2:ts=T (v ++ Ft p.decls c) k :: ts.drop 1:=by
    have:=drop_cons q3
    simpa using this
   by_cases z:T v a=e.num
   ·by_cases y:(ts.drop 1).all (fun x=>decide (x=T (v ++ Ft p.decls c) k))=true
    ·have ho:Me ts=T (v ++ Ft p.decls c) k:=by rw[hts2];unfold Me;dsimp only;rw[if_pos y]
     refine⟨T (v ++ Ft p.decls c) k,?_,?_,q7⟩
     ·rw[if_pos y]
      simp[h0',hne,h1',z,Sh.cont]
     ·rw[ho]
      simp[h0',hne,h1',z]
    ·have ho:Me ts=-1:=by rw[hts2];unfold Me;dsimp only;rw[if_neg y]
     refine⟨-1,?_,?_,.inl rfl⟩
     ·rw[if_neg y]
      simp[h0',hne,h1',z,Sh.cont]
     ·rw[ho]
      simp[h0',hne,h1',z]
   ·exact⟨-1,by simp[h0',hne,h1',z,Sh.cont],by simp[h0',hne,h1',z],.inl rfl⟩
  ·have h1':¬ ((e.kids.length:Int)=1+(C.length:Int)):=by omega
   exact⟨-1,by simp[h0',hne,h1',Sh.cont],by simp[h0',hne,h1'],.inl rfl⟩
theorem Vk (H:Ky p (FB p) R1 R2 T (en e)) (V:Ha p e v) (S:GL p.decls p.funcs) (hN:2000000≤N):Il p R1 R2 N v e:=by
 by_cases h0:e.op=0
 ·exact WR H V hN h0
 by_cases h1:e.op=1∨e.op=2∨e.op=3∨e.op=4
 ·exact UD H V hN h1
 by_cases h5:e.op=5
 ·exact UO H V hN h5
 by_cases h6:e.op=6
 ·exact Wr H V S hN h6
 by_cases h7:e.op=7
 ·exact Xu H V hN h7
 by_cases h8:e.op=8
 ·exact Ud H V S hN h8
 by_cases h9:e.op=9
 ·exact U1 H V S hN h9
 by_cases h10:e.op=10
 ·exact Ug H V S hN h10
 by_cases h11:e.op=11
 ·exact Ty H V S hN h11
 by_cases h12:e.op=12
 ·exact WT V h12
 by_cases h13:e.op=13
 ·exact Wf H V h13
 exact UX H V hN (by omega)
end
theorem Sm {p:Ag} (S:GL p.decls p.funcs) {N:Nat} (hN:2000000≤N) :∀(n:Nat),∃T:List Int→AK→Int,∀(v:List Int) (e:AK),DT e→en e < n→v.length+3 * en e≤1000→(∀x∈v,DW p.decls x=true)→
  ∀n1 n2,n≤n1→n≤n2→Ch N n1 p v e=some (T v e)∧Bl N n2 v (FB p) e=some (T v e)∧(T v e=-1∨DW p.decls (T v e)=true):=by
 intro n
 induction n with
 | zero=>exact⟨fun _ _=>0,fun v e _ h=>by omega⟩
 | succ n ih=>
  obtain⟨T,hT⟩:=ih
  refine⟨fun v e=>(Ch N (n+1) p v e).getD 0,fun v e hi hn hl ht n1 n2 h1 h2=>?_⟩
  have step :∀n1 n2,n≤n1→n≤n2→Il p (Ch N n1) (Bl N n2) N v e:=fun n1 n2 h1 h2=>
   Vk (T:=T) (fun v e a b c d=>hT v e a (by omega) c d n1 n2 h1 h2) ⟨hl,ht,by have:=hl;omega,hi⟩ S hN
  obtain⟨m1,rfl⟩ :∃m,n1=m+1:=⟨n1 - 1,by omega⟩
  obtain⟨m2,rfl⟩ :∃m,n2=m+1:=⟨n2 - 1,by omega⟩
  obtain⟨t,q1,q2,q3⟩:=step n n (Nat.le_refl _) (Nat.le_refl _)
  obtain⟨t',r1,r2,_⟩:=step n m2 (Nat.le_refl _) (by omega)
  obtain⟨t'',s1,s2,_⟩:=step m1 n (by omega) (Nat.le_refl _)
  have e1:t'=t:=by rw[q1] at r1;cases r1;rfl
  have e2:t''=t:=by rw[q2] at s2;cases s2;rfl
  subst e1;subst e2
  have e3:(Ch N (n+1) p v e).getD 0=t'':=by rw[Ch,q1];rfl
  dsimp only
  rw[e3]
  exact⟨by rw[Ch];exact s1,by rw[Bl];exact r2,q3⟩
end RC



namespace RC
open Go
structure GM (p:Ag):Prop where
 JV:KP p
 size:LA p≤1048576
theorem GM.decls {p:Ag} (S:GM p):NF p.decls:=by
 have h:=S.size
 unfold LA at h
 have hd :∀d∈p.decls,dz d≤1048576:=fun d hd=>by have:=FK dz hd;omega
 refine⟨by omega,fun d hm=>?_,fun d hm c hc=>?_⟩
 ·have:=hd d hm;unfold dz at this;omega
 ·have:=hd d hm;unfold dz at this
  have:=FK cz hc
  show cz c≤_
  omega
theorem GM.Mr {p:Ag} (S:GM p):p.funcs.length≤1048576:=by have h:=S.size;unfold LA at h;omega
theorem GM.fz {p:Ag} (S:GM p) {f:Av} (hf:f∈p.funcs):f.params.length≤1048576∧CN f.body.kids≤1048576:=by
 have h:=S.size
 unfold LA at h
 have h2:=FK Ir hf
 have h3:Ir f=f.params.length+CN f.body.kids:=rfl
 omega
theorem GM.fin {p:Ag} (S:GM p) {f:Av} (hf:f∈p.funcs):Kv f:=S.JV.funcs.1 f hf
def Rw (p:Ag):Bool:=LU p.decls (p.funcs.map fun f=>(f.params,f.result))
theorem RD {p:Ag} (S:GM p) {N:Nat} (hN:2000000≤N):Fb N p=some (Rw p):=Np S.decls S.Mr (fun f hf=>(S.fz hf).1) hN
theorem VH {p:Ag} (hl:p.funcs.length≤1048576) {N:Nat} (hN:2000000≤N):CX p N 0 []=some (FB p).funcs:=by
 have key :∀{N i:Nat},i≤p.funcs.length→p.funcs.length - i < N→CX p N i ((FB p).funcs.take i)=some (FB p).funcs:=by
  intro N i hi hN
  refine B7 p.funcs.length (fun N i=>CX p N i ((FB p).funcs.take i)=some (FB p).funcs) ?_ ?_ hi hN
  ·intro n;rw[CX,if_neg (by simp[AT]),List.take_of_length_le (by rw[Kb];omega)]
  ·intro n i hi ih
   obtain⟨f,hf,_⟩:=B3 hi
   have hf2:(FB p).funcs[i]?=some ⟨f.params,[],f.result⟩:=by
    show (p.funcs.map _)[i]?=_
    rw[List.getElem?_map,hf];rfl
   rw[CX,if_pos (by simp[AT];omega),BJ hf]
   simp only[Option.bind_some]
   rw[DX _ _ _ (by simp;omega) (by simp;omega),BQ (by omega) (by omega),show ((i:Int) + 1)=((i+1:Nat):Int) by omega]
   simp only[Option.bind_some]
   rw[← ih,Cn hf2]
 have:=key (Nat.zero_le _) (by omega:p.funcs.length - 0 < N)
 simpa using this
theorem VD {p:Ag} (hl:p.funcs.length≤1048576) {N:Nat} (hN:2000000≤N):IA N p=some (FB p):=by
 have key :∀{N i:Nat},i≤p.funcs.length→p.funcs.length - i < N→D1 p N i ((FB p).funcs.take i)=some (FB p).funcs:=by
  intro N i hi hN
  refine B7 p.funcs.length (fun N i=>D1 p N i ((FB p).funcs.take i)=some (FB p).funcs) ?_ ?_ hi hN
  ·intro n;rw[D1,if_neg (by simp[AT]),List.take_of_length_le (by rw[Kb];omega)]
  ·intro n i hi ih
   obtain⟨f,hf,_⟩:=B3 hi
   have hf2:(FB p).funcs[i]?=some ⟨f.params,[],f.result⟩:=by
    show (p.funcs.map _)[i]?=_
    rw[List.getElem?_map,hf];rfl
   rw[D1,if_pos (by simp[AT];omega),BJ hf]
   simp only[Option.bind_some]
   rw[DX _ _ _ (by simp;omega) (by simp;omega),BQ (by omega) (by omega),show ((i:Int) + 1)=((i+1:Nat):Int) by omega]
   simp only[Option.bind_some]
   rw[← ih,Cn hf2]
 have:=key (Nat.zero_le _) (by omega:p.funcs.length - 0 < N)
 rw[List.take_zero,show ((0:Nat):Int)=0 from rfl] at this
 unfold IA
 rw[this];rfl
theorem Ri {p:Ag} (S:GM p) {N:Nat} (hN:2000000≤N):Fc N p=some (Rw p):=by
 have hl:=S.Mr
 unfold Fc Rw
 by_cases h4:p.funcs.length≤4
 ·rw[if_neg (by rw[decide_eq_true_eq,AT];omega),VH hl hN]
  simp only[Option.bind_some]
  rw[OL S.decls (by rw[Kb];exact hl) (fun f hf=>by obtain⟨q,hq,rfl⟩:=List.mem_map.1 (show f∈p.funcs.map _ from hf);exact⟨(S.fz hq).1,by simp⟩) hN]
  have e1:((FB p).funcs.map fun f=>(f.params,f.result))=p.funcs.map fun f=>(f.params,f.result):=by
   show (p.funcs.map _).map _=_
   rw[List.map_map];rfl
  have e2:((FB p).funcs.all fun f=>ER (JW f.params f.Ec) 0 f.Ec)=true:=by
   rw[List.all_eq_true]
   intro f hf
   obtain⟨q,hq,rfl⟩:=List.mem_map.1 (show f∈p.funcs.map _ from hf)
   rfl
  rw[e1,e2];simp
 ·rw[if_pos (by rw[decide_eq_true_eq,AT];omega)]
  have:LU p.decls (p.funcs.map fun f=>(f.params,f.result))=false:=by
   unfold LU
   simp[h4]
  rw[this]
def Iy (p:Ag) (T:List Int→AK→Int) (f:Av):Bool:=decide (en f.body≤30) && decide (T f.params f.body=f.result)
theorem Jx {p:Ag} (S:GM p) {N:Nat} (hN:2000000≤N) :∃b,Cv N p=some b∧FG N p=some b∧(b=true→GL p.decls p.funcs∧∀f∈p.funcs,en f.body≤30):=by
 unfold Cv FG
 rw[RD S hN,Ri S hN]
 simp only[Option.bind_some]
 cases hs:Rw p with
 | false=>exact⟨false,rfl,rfl,fun h=>nomatch h⟩
 | true=>
  have SO:=GL.of hs
  have hl:=S.Mr
  obtain⟨T,hT⟩:=Sm SO hN 31
  have hty :∀f∈p.funcs,en f.body≤30→Jh N p f.params f.body=some (T f.params f.body)∧Fz N f.params (FB p) f.body=some (T f.params f.body)∧(T f.params f.body=-1∨DW p.decls (T f.params f.body)=true):=fun f hf he=>by
   obtain⟨q1,q2,q3⟩:=SO.Q3 f hf
   exact hT f.params f.body (S.fin hf).body (by omega) (by omega) q2 N N (by omega) (by omega)
  have hcl :∀f∈p.funcs,Bi f.params=some f.params:=fun f hf=>by
   obtain⟨q1,q2,q3⟩:=SO.Q3 f hf
   unfold Bi
   rw[DX [] f.params 8 (by simp;omega) (by simp;omega)];rfl
  have L1:=C8 (l:=p.funcs) (By N p) (fun _ f=>Iy p T f) (fun n=>by rw[By,if_neg (by simp[AT])]) (fun n i f hi=>by
   have hil:=(List.getElem?_eq_some_iff.1 hi).1
   have hf:=List.mem_of_getElem? hi
   rw[By,if_pos (by simp[AT];omega),BJ hi]
   simp only[Option.bind_some]
   rw[I2 (S.fz hf).2 hN,BQ (by omega) (by omega),show ((i:Int) + 1)=((i+1:Nat):Int) by omega]
   simp only[Option.bind_some]
   unfold Iy
   by_cases he:en f.body≤30
   ·rw[if_pos he,if_neg (by simp),(hty f hf he).1]
    by_cases hr:T f.params f.body=f.result <;> simp[he,hr]
   ·rw[if_neg he]
    simp[he]) (by omega:p.funcs.length < N)
  have L2:=C8 (l:=p.funcs) (CY N p) (fun _ f=>Iy p T f) (fun n=>by rw[CY,if_neg (by simp[AT])]) (fun n i f hi=>by
   have hil:=(List.getElem?_eq_some_iff.1 hi).1
   have hf:=List.mem_of_getElem? hi
   obtain⟨q1,q2,q3⟩:=SO.Q3 f hf
   have q4:f.params.all (DW p.decls)=true:=List.all_eq_true.2 q2
   rw[CY,if_pos (by simp[AT];omega),BJ hi]
   simp only[Option.bind_some]
   unfold Jk
   rw[Ri S hN,hs,LD (S.fz hf).2 hN,H4 (by omega) (by omega),q4,VD hl hN,hcl f hf,BQ (by omega) (by omega),show ((i:Int) + 1)=((i+1:Nat):Int) by omega]
   simp only[Option.bind_some]
   unfold Iy
   by_cases he:en f.body≤30
   ·rw[if_pos he,(hty f hf he).2.1]
    have he0:¬ ((en f.body:Int) < 0):=by omega
    by_cases hr:T f.params f.body=f.result <;> simp[he,hr,he0]
   ·rw[if_neg he]
    have hr:¬ ((-1:Int)=f.result):=fun q=>by have:=(Kc q3).1;omega
    simp[he,hr]) (by omega:p.funcs.length < N)
  rw[Df] at L1 L2
  refine⟨p.funcs.all (Iy p T),?_,?_,fun h=>⟨SO,fun f hf=>?_⟩⟩
  ·simp only[Bool.not_true,Bool.false_eq_true,if_false]
   rw[L1,EK]
   cases p.funcs.all (Iy p T) <;> rfl
  ·simp only[Bool.not_true,Bool.false_eq_true,if_false]
   rw[L2,EK]
   cases p.funcs.all (Iy p T) <;> rfl
  ·have:=List.all_eq_true.1 h f hf
   unfold Iy at this
   simp only[Bool.and_eq_true,decide_eq_true_eq] at this
   exact this.1
end RC



namespace RC
open Go
end RC



namespace RC
open Go
inductive Qn:Step→Prop where
 | mk {s:Step}:Hw s.op→Hw s.num→Hw s.WB→EW Hw s.args→s.kids.length≤9223372036854775807→(∀b∈s.kids,b.steps.length≤9223372036854775807)→(∀b∈s.kids,Hw b.result)→(∀b∈s.kids,∀t∈b.steps,Qn t)→Qn s
structure Ub (b:Block):Prop where
 steps:EW Qn b.steps
 result:Hw b.result
end RC



namespace RC
open Go
end RC



namespace RC
open Go
def aP (o:Int):Bool:=decide (14≤o) && decide (o≤17)
mutual
def us (v:Int):Step→Nat | .mk o _ _ a k=>if aP o then 0 else a.countP (fun x=>decide (x=v)) + uk v k
def uk (v:Int):List (JM Step)→Nat | []=>0 | b :: k=>ub v b+uk v k
def ub (v:Int):JM Step→Nat | ⟨ss,r⟩=>(if r=v then 1 else 0) + ul v ss
def ul (v:Int):List Step→Nat | []=>0 | s :: l=>us v s+ul v l
end
def ua (v:Int) (a:List Int):Nat:=a.countP fun x=>decide (x=v)
theorem bZ (v:Int) (a:List Int):ua v a≤a.length:=List.countP_le_length
end RC



namespace RC
open Go
section
variable {D : List Ah} {G : List BV} {ks : List Int} {op num : Int} {N : Nat}
end
end RC



namespace RC
open Go
section
variable {n : Gd} {R1 : Gd → List Int → Block → Option Int} {R2 : BH → List Int → Block → Option Int} {T : List Int → Block → Int} {s : Step} {v : List Int} {N : Nat}
end
end RC



namespace RC
open Go
section
variable {n : Gd} {R1 : Gd → List Int → Block → Option Int} {R2 : BH → List Int → Block → Option Int} {T : List Int → Block → Int} {s : Step} {v : List Int} {N : Nat}
end
end RC



namespace RC
open Go
section
variable {n : Gd} {R1 : Gd → List Int → Block → Option Int} {R2 : BH → List Int → Block → Option Int} {T : List Int → Block → Int} {s : Step} {v : List Int} {N : Nat} {b : Bool}
end
end RC



namespace RC
open Go
section
variable {n : Gd} {R1 : Gd → List Int → Block → Option Int} {R2 : BH → List Int → Block → Option Int} {T : List Int → Block → Int} {s : Step} {v : List Int} {N : Nat} {b : Bool}
end
end RC



namespace RC
open Go
section
variable {n : Gd} {R1 : Gd → List Int → Block → Option Int} {R2 : BH → List Int → Block → Option Int} {T : List Int → Block → Int} {s : Step} {v : List Int} {N : Nat} {b : Bool}
end
end RC



namespace RC
open Go
section
variable {n : Gd} {R1 : Gd → List Int → Block → Option Int} {R2 : BH → List Int → Block → Option Int} {T : List Int → Block → Int} {b : Block} {v : List Int} {N : Nat}
end
end RC



namespace RC
open Go
end RC



namespace RC
open Go
end RC



namespace RC
open Go
def LC:Nat→Nat→List Int
 | _,0=>[]
 | k,n+1=>(k:Int) :: LC (k+1) n
theorem Si :∀(n k:Nat),(LC k n).length=n
 | 0,_=>rfl
 | n+1,k=>by simp[LC,Si n]
theorem Fk {α:Type} (A B:List α) (x:α):Sh.get (A ++ x :: B) (A.length:Int)=some x:=BJ (by simp)
theorem IQ {α:Type} (A B:List α) (x y:α):Sh.put (A ++ x :: B) (A.length:Int) y=A ++ y :: B:=by rw[HX];simp
theorem L4 :∀(B A:List Int) (k n:Nat),B.length < n→A.length+B.length≤2000000→k+B.length≤100000000→
  Dn n (k:Int) (A.length:Int) (A ++ B)=some (((k+B.length:Nat):Int),A ++ LC k B.length)
 | [],A,k,n,hn,_,_=>by
  obtain⟨n,rfl⟩ :∃m,n=m+1:=⟨n - 1,by simp at hn;omega⟩
  rw[Dn,if_neg (by simp[AT])];simp[LC]
 | b :: B,A,k,n,hn,h1,h2=>by
  simp only[List.length_cons] at hn h1 h2 ⊢
  obtain⟨n,rfl⟩ :∃m,n=m+1:=⟨n - 1,by omega⟩
  have ih:=L4 B (A ++ [(k:Int)]) (k+1) n (by omega) (by simp;omega) (by omega)
  rw[Dn,if_pos (by simp[AT];omega),Fk,IQ,BQ (by omega) (by omega),BQ (by omega) (by omega)]
  simp only[Option.bind_some]
  rw[List.length_append,List.append_assoc,List.append_assoc] at ih
  simp only[List.length_cons,List.length_nil,List.cons_append,List.nil_append] at ih
  have e1:((A.length:Int) + 1)=((A.length+(0+1):Nat):Int):=by omega
  have e2:((k:Int) + 1)=((k+1:Nat):Int):=by omega
  rw[e1,e2,ih]
  simp only[LC,show k+1+B.length=k+(B.length+1) by omega]
theorem PB {l:List Int} (hl:l.length≤1048576) {k:Nat} (hk:k≤50000000) {N:Nat} (hN:2000000≤N):F9 N l (k:Int)=some (((k+l.length:Nat):Int),LC k l.length):=by
 unfold F9
 have:=L4 l [] k N (by omega) (by simp;omega) (by omega)
 rw[List.length_nil,List.nil_append,List.nil_append] at this
 rw[show (0:Int)=((0:Nat):Int) from rfl,this];rfl
theorem L0 :∀(m:Nat) (A:List Int) (k n:Nat),m < n→A.length+m≤2000000→k+m≤100000000→
  Dp (A ++ LC k m) n (k:Int) (A.length:Int)=some (Sum.inr (((k+m:Nat):Int)))
 | 0,A,k,n,hn,_,_=>by
  obtain⟨n,rfl⟩ :∃m,n=m+1:=⟨n - 1,by omega⟩
  rw[Dp,if_neg (by simp[AT,LC])];simp
 | m+1,A,k,n,hn,h1,h2=>by
  obtain⟨n,rfl⟩ :∃m,n=m+1:=⟨n - 1,by omega⟩
  have ih:=L0 m (A ++ [(k:Int)]) (k+1) n (by omega) (by simp;omega) (by omega)
  rw[Dp,if_pos (by simp[AT,Si];omega)]
  simp only[LC]
  rw[Fk,BQ (by omega) (by omega),BQ (by omega) (by omega)]
  simp only[Option.bind_some,decide_true,Bool.not_true,Bool.false_eq_true,if_false]
  rw[List.length_append,List.append_assoc] at ih
  simp only[List.length_cons,List.length_nil,List.cons_append,List.nil_append] at ih
  have e1:((A.length:Int) + 1)=((A.length+(0+1):Nat):Int):=by omega
  have e2:((k:Int) + 1)=((k+1:Nat):Int):=by omega
  rw[e1,e2,ih]
  simp only[show k+1+m=k+(m+1) by omega]
theorem OV {m:Nat} (hl:m≤1048576) {k:Nat} (hk:k≤50000000) {N:Nat} (hN:2000000≤N):F6 N (LC k m) (k:Int)=some (((k+m:Nat):Int)):=by
 unfold F6
 have:=L0 m [] k N (by omega) (by simp;omega) (by omega)
 rw[List.length_nil,List.nil_append] at this
 rw[show (0:Int)=((0:Nat):Int) from rfl,this];rfl
theorem Qj {α:Type} {f g:α→Nat} {a b:Nat} :∀{l:List α},(∀x∈l,f x≤a+b * g x)→(l.map f).sum≤a * l.length+b * (l.map g).sum
 | [],_=>by simp
 | x :: r,h=>by
  have h1:=h x (by simp)
  have h2:=Qj (l:=r) fun y hy=>h y (by simp[hy])
  simp only[List.map_cons,List.sum_cons,List.length_cons,Nat.mul_add]
  omega
theorem Ef {n:Nat} (h:n≤100000000):Sh.w ((n:Int) + 1)=((n+1:Nat):Int):=by
 rw[BQ (by omega) (by omega)];rfl
def Wa (d:Ah):Nat:=2+(d.cons.map cz).sum
mutual
def ms:Step→Nat | .mk _ _ _ a k=>3+a.length+bD k
def bD:List (JM Step)→Nat | []=>0 | b :: k=>mb b+bD k
def mb:JM Step→Nat | ⟨ss,_⟩=>ar ss+1
def ar:List Step→Nat | []=>0 | s :: l=>ms s+ar l
end
end RC



namespace RC
open Go
theorem SV {α β:Type} {l:List α} (L:Nat→Int→List β→Option (List β)) (g:α→β) (h0 :∀n acc,L (n+1) ((l.length:Nat):Int) acc=some acc)
  (hs :∀n i x acc,l[i]?=some x→acc.length=i→L (n+1) ((i:Nat):Int) acc=L n ((i+1:Nat):Int) (acc ++ [g x])) {N:Nat} (hN:l.length < N):L N 0 []=some (l.map g):=by
 have key :∀{N i:Nat},i≤l.length→l.length - i < N→L N (i:Int) ((l.take i).map g)=some (l.map g):=by
  intro N i hi hN
  refine B7 l.length (fun N i=>L N (i:Int) ((l.take i).map g)=some (l.map g)) ?_ ?_ hi hN
  ·intro n;rw[h0,List.take_length]
  ·intro n i hi ih
   obtain⟨x,hx,_⟩:=B3 hi
   rw[hs n i x _ hx (by simp;omega),← ih,Cn hx,List.map_append];rfl
 have:=key (Nat.zero_le _) (by omega:l.length - 0 < N)
 simpa using this
theorem Sr {α:Type} {l:List α} (L:Nat→Int→List α→Option (List α)) (g:α→α) (h0 :∀n acc,L (n+1) ((l.length:Nat):Int) acc=some acc)
  (hs :∀n (A:List α) (x:α) (C:List α),A.length+C.length < l.length→l[A.length]?=some x→L (n+1) ((A.length:Nat):Int) (A ++ x :: C)=L n ((A.length+1:Nat):Int) (A ++ g x :: C)) {N:Nat} (hN:l.length < N):L N 0 l=some (l.map g):=by
 have key :∀(C A:List α) (n:Nat),C.length < n→A.length≤l.length→C=l.drop A.length→L n ((A.length:Nat):Int) (A ++ C)=some (A ++ C.map g):=by
  intro C
  induction C with
  | nil=>
   intro A n hn h1 h2
   obtain⟨n,rfl⟩ :∃m,n=m+1:=⟨n - 1,by simp at hn;omega⟩
   have h3:=congrArg List.length h2
   simp at h3
   rw[show A.length=l.length by omega,h0];simp
  | cons x C ih=>
   intro A n hn h1 h2
   have h3:=congrArg List.length h2
   simp only[List.length_cons,List.length_drop] at hn h3
   obtain⟨n,rfl⟩ :∃m,n=m+1:=⟨n - 1,by omega⟩
   have hx:l[A.length]?=some x:=by
    have:=congrArg (fun z=>z[0]?) h2
    simpa using this.symm
   rw[hs n A x C (by omega) hx]
   have:=ih (A ++ [g x]) n (by omega) (by simp;omega) (by
    rw[drop_cons hx] at h2
    simpa using (List.cons.inj h2).2)
   simpa using this
 have:=key l [] N hN (by simp) (by simp)
 simpa using this
theorem Sw {i:Nat} (h:i≤1048576):Sh.w ((i:Int) + 1)=((i+1:Nat):Int):=by rw[BQ (by omega) (by omega)];rfl
theorem bc {l:List Int} (hl:l.length≤1048576):Du l=some l:=by
 unfold Du
 rw[DX [] l 8 (by simp;omega) (by simp;omega)];rfl
theorem bT {l:List Int} (hl:l.length≤1048576):Bi l=some l:=by
 unfold Bi
 rw[DX [] l 8 (by simp;omega) (by simp;omega)];rfl
theorem R9 {D:List Ah} {i:Nat} {d:Ah} (hd:D[i]?=some d) (hz:dz d≤1048576) {N:Nat} (hN:2000000≤N):Cy i D N 0 []=some d.cons:=by
 unfold dz at hz
 rw[SV (l:=d.cons) (Cy i D) id (fun n acc=>by rw[Cy,BJ hd];simp only[Option.bind_some];rw[if_neg (by simp[AT])]) (fun n j c acc hc ha=>?_) (by omega)]
 ·simp
 ·have hj:=(List.getElem?_eq_some_iff.1 hc).1
  have hcz:=FK cz (List.mem_of_getElem? hc)
  rw[Cy,BJ hd]
  simp only[Option.bind_some]
  rw[if_pos (by simp[AT];omega),BJ hc]
  simp only[Option.bind_some]
  rw[bc (show cz c≤1048576 by omega)]
  simp only[Option.bind_some]
  rw[DX acc _ 24 (by simp;omega) (by simp;omega)]
  simp only[Option.bind_some]
  rw[Sw (by omega)];rfl
theorem R8 {D:List Ah} (hl:D.length≤1048576) (hz :∀d∈D,dz d≤1048576) {N:Nat} (hN:2000000≤N):GZ N D=some D:=by
 unfold GZ
 rw[SV (l:=D) (DQ N D) id (fun n acc=>by rw[DQ,if_neg (by simp[AT])]) (fun n j c acc hc ha=>?_) (by omega)]
 ·simp
 ·have hj:=(List.getElem?_eq_some_iff.1 hc).1
  rw[DQ,if_pos (by simp[AT];omega),R9 hc (hz c (List.mem_of_getElem? hc)) hN,BJ hc]
  simp only[Option.bind_some]
  rw[DX acc _ 40 (by simp;omega) (by simp;omega)]
  simp only[Option.bind_some]
  rw[Sw (by omega)];rfl
theorem RX {D:List Ah} (hl:D.length≤1048576) (hz :∀d∈D,dz d≤1048576) {N:Nat} (hN:2000000≤N):F3 N D=some D:=by
 unfold F3 CL
 rw[DX [] D 40 (by simp;omega) (by simp;omega)]
 simp only[Option.bind_some,List.nil_append]
 rw[Sr (l:=D) (DE N (Sh.len D)) id (fun n acc=>by rw[DE,if_neg (by simp[AT])]) (fun n A d C hA hd=>?_) (by omega)]
 ·simp
 ·have h1:=hz d (List.mem_of_getElem? hd)
  unfold dz at h1
  rw[DE,if_pos (by simp[AT];omega),Fk]
  simp only[Option.bind_some]
  unfold CA
  rw[DX [] d.cons 24 (by simp;omega) (by simp;omega)]
  simp only[Option.bind_some,List.nil_append]
  rw[Sr (l:=d.cons) (DD d.cons) id (fun n acc=>by rw[DD,if_neg (by simp[AT])]) (fun n B c E hB hc=>?_) (by omega)]
  ·simp only[Option.bind_some,IQ,List.map_id]
   rw[Sw (by omega)];rfl
  ·have hcz:=FK cz (List.mem_of_getElem? hc)
   have hl:=(List.getElem?_eq_some_iff.1 hc).1
   rw[DD,if_pos (by simp[AT];omega),BJ hc]
   simp only[Option.bind_some]
   rw[bT (show cz c≤1048576 by omega),Fk]
   simp only[Option.bind_some]
   rw[IQ,Sw (by omega)];rfl
end RC



namespace RC
open Go
theorem UM {α:Type} (L:Nat→Int→Int→List α→Option (Int×List α)) (H:List α→Nat→Int→Int→Option (Int ⊕ Int)) (wt:α→Nat) (ok:α→Prop)
  (h0 :∀n k l,L (n+1) k ((l.length:Nat):Int) l=some (k,l)) (g0 :∀l n k,H l (n+1) k ((l.length:Nat):Int)=some (.inr k))
  (hs :∀n (k:Nat) (A:List α) (x:α) (C:List α),A.length+C.length≤1048576→ok x→k+wt x≤20000000→∃(k':Nat) (y:α),k'≤k+wt x∧L (n+1) k ((A.length:Nat):Int) (A ++ x :: C)=L n k' ((A.length+1:Nat):Int) (A ++ y :: C)∧∀m E,H (A ++ y :: E) (m+1) k ((A.length:Nat):Int)=H (A ++ y :: E) m k' ((A.length+1:Nat):Int)) :
  ∀(C A:List α) (k n:Nat),C.length < n→A.length+C.length≤1048576→(∀x∈C,ok x)→k+(C.map wt).sum≤20000000→∃(k':Nat) (C':List α),k'≤k+(C.map wt).sum∧L n k ((A.length:Nat):Int) (A ++ C)=some ((k':Int),A ++ C')∧∀m,C.length < m→H (A ++ C') m k ((A.length:Nat):Int)=some (.inr (k':Int))
 | [],A,k,n,hn,_,_,_=>by
  obtain⟨n,rfl⟩ :∃m,n=m+1:=⟨n - 1,by simp at hn;omega⟩
  refine⟨k,[],by simp,?_,fun m hm=>?_⟩
  ·rw[List.append_nil,h0]
  ·obtain⟨m,rfl⟩ :∃q,m=q+1:=⟨m - 1,by simp at hm;omega⟩
   rw[List.append_nil,g0]
 | x :: C,A,k,n,hn,hl,hok,hk=>by
  simp only[List.length_cons,List.map_cons,List.sum_cons] at hn hl hk ⊢
  obtain⟨n,rfl⟩ :∃m,n=m+1:=⟨n - 1,by omega⟩
  obtain⟨k1,y,h1,h2,h5⟩:=hs n k A x C (by omega) (hok x (by simp)) (by omega)
  obtain⟨k2,C',h3,h4,h6⟩:=UM L H wt ok h0 g0 hs C (A ++ [y]) k1 n (by omega) (by simp;omega) (fun z hz=>hok z (by simp[hz])) (by omega)
  refine⟨k2,y :: C',by omega,?_,fun m hm=>?_⟩
  ·rw[h2]
   simpa using h4
  ·obtain⟨m,rfl⟩ :∃q,m=q+1:=⟨m - 1,by omega⟩
   rw[h5]
   have:=h6 m (by omega)
   simpa using this
theorem Th {α:Type} {L:Nat→Int→Int→List α→Option (Int×List α)} {H:List α→Nat→Int→Int→Option (Int ⊕ Int)} {wt:α→Nat} {ok:α→Prop}
  (h0 :∀n k l,L (n+1) k ((l.length:Nat):Int) l=some (k,l)) (g0 :∀l n k,H l (n+1) k ((l.length:Nat):Int)=some (.inr k))
  (hs :∀n (k:Nat) (A:List α) (x:α) (C:List α),A.length+C.length≤1048576→ok x→k+wt x≤20000000→∃(k':Nat) (y:α),k'≤k+wt x∧L (n+1) k ((A.length:Nat):Int) (A ++ x :: C)=L n k' ((A.length+1:Nat):Int) (A ++ y :: C)∧∀m E,H (A ++ y :: E) (m+1) k ((A.length:Nat):Int)=H (A ++ y :: E) m k' ((A.length+1:Nat):Int))
  {l:List α} {k N:Nat} (hN:2000000≤N) (hl:l.length≤1048576) (hok :∀x∈l,ok x) (hk:k+(l.map wt).sum≤20000000) :∃(k':Nat) (l':List α),k'≤k+(l.map wt).sum∧L N k 0 l=some ((k':Int),l')∧H l' N k 0=some (.inr (k':Int)):=by
 obtain⟨k',l',h1,h2,h3⟩:=UM L H wt ok h0 g0 hs l [] k N (by omega) (by simp;omega) hok hk
 exact⟨k',l',h1,h2,h3 N (by omega)⟩
theorem YL {l:List Ba} {k N:Nat} (hN:2000000≤N) (hl:l.length≤1048576) (hok :∀c∈l,cz c≤1048576) (hk:k+(l.map cz).sum≤20000000) :∃(k':Nat) (l':List Ba),k'≤k+(l.map cz).sum∧G6 N l k=some ((k':Int),l')∧G7 N l' k=some (k':Int):=by
 obtain⟨k',l',h1,h2,h3⟩:=Th (L:=Dq N) (H:=Dh N) (wt:=cz) (ok:=fun c=>cz c≤1048576) (fun n k l=>by rw[Dq,if_neg (by simp[AT])]) (fun l n k=>by rw[Dh,if_neg (by simp[AT])]) (fun n k A x C hA hx hk=>by
  refine⟨k+cz x,⟨LC k (cz x)⟩,Nat.le_refl _,?_,fun m E=>?_⟩
  ·rw[Dq,if_pos (by simp[AT];omega),Fk]
   simp only[Option.bind_some]
   rw[PB hx (by omega) hN]
   simp only[Option.bind_some,IQ]
   rw[Ef (by omega)];rfl
  ·rw[Dh,if_pos (by simp[AT];omega),Fk]
   simp only[Option.bind_some]
   rw[OV hx (by omega) hN]
   simp only[Option.bind_some]
   rw[if_neg (by simp <;> omega),Ef (by omega)]) hN hl hok hk
 refine⟨k',l',h1,?_,?_⟩
 ·unfold G6
  rw[h2];rfl
 ·unfold G7
  rw[h3];rfl
theorem XC {l:List Ah} {k N:Nat} (hN:2000000≤N) (hl:l.length≤1048576) (hok :∀d∈l,dz d≤1048576) (hk:k+(l.map Wa).sum≤20000000) :∃(k':Nat) (l':List Ah),k'≤k+(l.map Wa).sum∧Gc N l k=some ((k':Int),l')∧GU N l' k=some (k':Int):=by
 obtain⟨k',l',h1,h2,h3⟩:=Th (L:=DV N) (H:=DO N) (wt:=Wa) (ok:=fun d=>dz d≤1048576) (fun n k l=>by rw[DV,if_neg (by simp[AT])]) (fun l n k=>by rw[DO,if_neg (by simp[AT])]) (fun n k A x C hA hx hk=>by
  unfold dz at hx
  unfold Wa at hk ⊢
  obtain⟨k1,l1,g1,g2,g3⟩:=YL (l:=x.cons) (k:=k+1+1) hN (by omega) (fun c hc=>by have:=FK cz hc;omega) (by omega)
  refine⟨k1,⟨(k:Int),((k+1:Nat):Int),l1⟩,by omega,?_,fun m E=>?_⟩
  ·rw[DV,if_pos (by simp[AT];omega),Ef (n:=k) (by omega),Ef (n:=k+1) (by omega),Ef (n:=A.length) (by omega)]
   simp only[Fk,IQ,Option.bind_some]
   rw[g2]
   simp only[Option.bind_some]
  ·rw[DO,if_pos (by simp[AT];omega),Fk]
   simp only[Option.bind_some]
   rw[Ef (n:=k) (by omega),Ef (n:=k+1) (by omega),Ef (n:=A.length) (by omega),g3]
   simp only[decide_true,Bool.not_true,Bool.false_eq_true,if_false,Option.bind_some]
   rw[if_neg (by simp <;> omega)]) hN hl hok hk
 refine⟨k',l',h1,?_,?_⟩
 ·unfold Gc
  rw[h2];rfl
 ·unfold GU
  rw[h3];rfl
end RC


namespace RC
end RC



namespace RC
open Go
mutual
def vs:Step→List Int | .mk o _ _ a k=>if aP o then [] else a ++ aU k
def aU:List (JM Step)→List Int | []=>[] | b :: k=>bW b ++ aU k
def bW:JM Step→List Int | ⟨ss,r⟩=>aJ ss ++ [r]
def aJ:List Step→List Int | []=>[] | s :: l=>vs s ++ aJ l
end
end RC


namespace RC
open Go
def av (h:List Cell) (j:Nat) (w:Int):Bool:=Zp h w && decide ((w - 1000).toNat=j)
def bb (h:List Cell) (ws:List Int) (j:Nat):Nat:=ws.countP (av h j)
theorem aO (h:List Cell) (j:Nat):bb h [] j=0:=rfl
end RC



namespace RC
open Go
def mk (m:Nat→Bool) (n i:Nat):List Nat:=(List.range' i (n - i)).filter m
end RC



namespace RC
open Go
end RC



namespace RC
open Go
end RC



namespace RC
open Go
end RC



namespace RC
open Go
end RC



namespace RC
open Go
section
variable {p : Ag} {R1 : Ag → List Int → AK → Option Int} {R2 : List Int → BH → AK → Option Int} {T : List Int → AK → Int} {e : AK} {v : List Int} {N : Nat}
theorem Sa {l:List Int} (h:Me l≠-1) :∀x∈l,x≠-1:=by
 cases l with
 | nil=>exact absurd rfl h
 | cons a r=>
  simp only[Me] at h
  by_cases hr:r.all (fun x=>decide (x=a))=true
  ·rw[if_pos hr] at h
   intro x hx
   rcases List.mem_cons.1 hx with rfl | hx
   ·exact h
   ·have:=List.all_eq_true.1 hr x hx
    simp only[decide_eq_true_eq] at this
    rw[this];exact h
  ·rw[if_neg hr] at h;exact absurd rfl h
theorem XV (H:Ky p (FB p) R1 R2 T (en e)) (V:Ha p e v) (S:GL p.decls p.funcs) (hN:2000000≤N) {t:Int} (hB:BE N R2 v (FB p) e=some t) (ht:t≠-1) :
  ∀k∈e.kids,∃m:List Int,m.length≤3∧(∀x∈m,DW p.decls x=true)∧T (v ++ m) k≠-1:=by
 have hv:v.length≤1000:=by have:=V.len;omega
 have nil :∀k,T v k≠-1→∃m:List Int,m.length≤3∧(∀x∈m,DW p.decls x=true)∧T (v ++ m) k≠-1:=fun k h=>⟨[],by simp,fun x hx=>(by cases hx),by simpa using h⟩
 by_cases h12:e.op=12
 ·unfold BE at hB
  simp only[h12,decide_true,if_true] at hB
  intro k hk
  have:0 < Sh.len e.kids:=by rw[AT];have:=List.length_pos_of_mem hk;omega
  simp only[this,decide_true,if_true,Option.bind_some,Option.some.injEq] at hB
  exact absurd hB.symm ht
 by_cases h13:e.op=13
 ·unfold BE at hB
  simp only[h13,Int.reduceEq,decide_true,decide_false,Bool.false_eq_true,if_true,if_false] at hB
  by_cases hl:e.kids.length=2
  ·obtain⟨a,b,hk⟩ :∃a b,e.kids=[a,b]:=by
    match hk:e.kids,hl with
    | [a,b],_=>exact⟨a,b,rfl⟩
   have hma:a∈e.kids:=by rw[hk];simp
   have hmb:b∈e.kids:=by rw[hk];simp
   obtain⟨a1,a2,a3⟩:=H v a (V.JV.kids a hma) (ES hma) (V.MH hma) V.NQ
   have g0:Sh.get e.kids 0=some a:=by rw[hk];rfl
   have g1:Sh.get e.kids 1=some b:=by rw[hk];rfl
   rw[g0,g1] at hB
   simp only[Option.bind_some,AT,hl] at hB
   rw[a2] at hB
   simp only[Option.bind_some] at hB
   by_cases hn:e.num=0
   ·by_cases h0:T v a < 0
    ·simp[hn,h0] at hB;exact absurd hB.symm ht
    ·have hty:DW p.decls (T v a)=true:=a3.resolve_left (by omega)
     obtain⟨b1,b2,b3⟩:=H (v ++ [T v a]) b (V.JV.kids b hmb) (ES hmb) (V.more hmb (by simp)) (V.Su (by simp[hty]))
     rw[DX v [T v a] 8 (by simp;omega) (by simp;omega)] at hB
     simp only[Option.bind_some,b2] at hB
     simp[hn,h0] at hB
     intro k hkm
     rw[hk] at hkm
     simp only[List.mem_cons,List.not_mem_nil,or_false] at hkm
     rcases hkm with rfl | rfl
     ·exact nil _ (by omega)
     ·exact⟨[T v a],by simp,by simp[hty],by rw[hB];exact ht⟩
   ·simp[hn] at hB;exact absurd hB.symm ht
  ·have:¬ ((e.kids.length:Int)=2):=by omega
   simp[AT,this] at hB;exact absurd hB.symm ht
 by_cases h7:e.op=7
 ·unfold BE at hB
  simp only[h7,Int.reduceEq,decide_true,decide_false,Bool.false_eq_true,if_true,if_false] at hB
  by_cases hl:e.kids.length=3
  ·obtain⟨a,b,c,hk⟩ :∃a b c,e.kids=[a,b,c]:=by
    match hk:e.kids,hl with
    | [a,b,c],_=>exact⟨a,b,c,rfl⟩
   have hma:a∈e.kids:=by rw[hk];simp
   have hmb:b∈e.kids:=by rw[hk];simp
   have hmc:c∈e.kids:=by rw[hk];simp
   obtain⟨a1,a2,a3⟩:=H v a (V.JV.kids a hma) (ES hma) (V.MH hma) V.NQ
   have g0:Sh.get e.kids 0=some a:=by rw[hk];rfl
   have g3:Sh.sl e.kids 1 3=some [b,c]:=by rw[hk];rfl
   have o:=Ke (ks:=[b,c]) (ms:=[[],[]]) H V hN (by intro k hk;simp only[List.mem_cons,List.not_mem_nil,or_false] at hk;rcases hk with rfl | rfl <;> assumption) (by simp) rfl (by simp)
   have mk2:Sh.mk ([]:List Int) 2 24=some [[],[]]:=Jz [] 2 24 (by omega) (by omega)
   rw[g0] at hB
   simp only[Option.bind_some,AT,hl] at hB
   rw[a2,show ((3:Nat):Int)=3 from rfl,g3,mk2] at hB
   simp only[Option.bind_some] at hB
   rw[o] at hB
   by_cases hn:e.num=0
   ·by_cases h0:T v a=0
    ·simp[hn,h0] at hB
     have hal:=Sa (l:=[T v b,T v c]) (by rw[hB];exact ht)
     intro k hkm
     rw[hk] at hkm
     simp only[List.mem_cons,List.not_mem_nil,or_false] at hkm
     rcases hkm with rfl | rfl | rfl
     ·exact nil _ (by omega)
     ·exact nil _ (hal _ (by simp))
     ·exact nil _ (hal _ (by simp))
    ·simp[hn,h0] at hB;exact absurd hB.symm ht
   ·simp[hn] at hB;exact absurd hB.symm ht
  ·have:¬ ((e.kids.length:Int)=3):=by omega
   simp[AT,this] at hB;exact absurd hB.symm ht
 by_cases h8:e.op=8
 ·have hkl:=V.Jv
  have hD:=S.QC
  have hn:=S.nc
  have hCl:=N8 S.V7 e.num
  unfold BE at hB
  simp only[h8,Int.reduceEq,decide_true,decide_false,Bool.false_eq_true,if_true,if_false] at hB
  rw[show (FB p).decls=p.decls from rfl,JQ (by omega) (by omega) hN] at hB
  simp only[Option.bind_some] at hB
  generalize hCe:Ic p.decls e.num=C at hCl hB
  have hCm :∀c∈C,C4 N p.decls c=some (Ft p.decls c)∧C6 N p.decls c=some (Ft p.decls c)∧(Ft p.decls c).length≤3∧∀x∈Ft p.decls c,DW p.decls x=true:=fun c hc=>S6 S (hCe ▸ hc) hN
  rw[AT C,AT e.kids,BQ (n:=1+(C.length:Int)) (by omega) (by omega)] at hB
  by_cases h0:C.length=0
  ·simp[h0] at hB;exact absurd hB.symm ht
  ·have h0':¬ ((C.length:Int)=0):=by omega
   have hne:¬ C=[]:=fun q=>h0 (by rw[q];rfl)
   by_cases h1:e.kids.length=1+C.length
   ·have h1':((e.kids.length:Int)=1+(C.length:Int)):=by omega
    obtain⟨a,r,hks⟩ :∃a r,e.kids=a :: r:=by
     cases hq:e.kids with
     | nil=>rw[hq] at h1;simp at h1;omega
     | cons a r=>exact⟨a,r,rfl⟩
    have hrl:r.length=C.length:=by rw[hks] at h1;simp at h1;omega
    have hma:a∈e.kids:=by rw[hks];simp
    have hmr :∀k∈r,k∈e.kids:=fun k hk=>by rw[hks];simp[hk]
    obtain⟨a1,a2,a3⟩:=H v a (V.JV.kids a hma) (ES hma) (V.MH hma) V.NQ
    have g0:Sh.get e.kids 0=some a:=by rw[hks];rfl
    have g3:Sh.sl e.kids 1 (e.kids.length:Int)=some r:=by
     unfold Sh.sl
     rw[if_pos ⟨by omega,by omega,by omega⟩,hks];simp
    have mkC:Sh.mk ([]:List Int) (C.length:Int) 24=some (List.replicate C.length []):=Jz [] C.length 24 (by omega) (by omega)
    have o:=Ke (ks:=r) (ms:=C.map (Ft p.decls)) H V hN hmr (by omega) (by simp[hrl]) (by
     intro m hm
     obtain⟨c,hc,rfl⟩:=List.mem_map.1 hm
     exact (hCm c hc).2.2)
    have FL:=O4 (p:=p) S hN hCl fun c hc=>(hCm c hc).2.1
    rw[g0,g3,mkC] at hB
    simp only[Option.bind_some] at hB
    rw[a2,FL] at hB
    simp only[Option.bind_some] at hB
    rw[o] at hB
    by_cases hta:T v a=e.num
    ·simp[hne,h1',hta] at hB
     have hal:=Sa (by rw[hB];exact ht)
     intro k hkm
     rw[hks] at hkm
     rcases List.mem_cons.1 hkm with rfl | hkm
     ·refine nil _ fun hq=>?_
      have hneg:e.num=-1:=by rw[← hta];exact hq
      rw[hneg] at hCe
      exact h0 (by rw[← hCe];simp[Ic])
     ·obtain⟨i,hi⟩:=List.mem_iff_getElem?.1 hkm
      have hil:=(List.getElem?_eq_some_iff.1 hi).1
      obtain⟨c,hc,hcm⟩:=B3 (l:=C) (i:=i) (by omega)
      refine⟨Ft p.decls c,(hCm c hcm).2.2.1,(hCm c hcm).2.2.2,hal _ (List.mem_iff_getElem?.2 ⟨i,?_⟩)⟩
      rw[List.getElem?_zipWith,List.getElem?_map,hc,hi];rfl
    ·simp[hne,h1',hta] at hB;exact absurd hB.symm ht
   ·have h1':¬ ((e.kids.length:Int)=1+(C.length:Int)):=by omega
    simp[hne,h1'] at hB;exact absurd hB.symm ht
 rw[E8 H V hN h12 h13 h7 h8] at hB
 by_cases h:(e.kids.map (T v)).any (fun t=>decide (t < 0))=true
 ·rw[if_pos h] at hB;simp at hB;exact absurd hB.symm ht
 ·intro k hk
  refine nil k fun hq=>h ?_
  exact List.any_eq_true.2 ⟨T v k,List.mem_map_of_mem hk,by rw[hq];rfl⟩
end
end RC



namespace RC
open Go
def TT (p:Ag) (N:Nat) (T:List Int→AK→Int):Prop:=∀(v:List Int) (e:AK),DT e→en e < 31→v.length+3 * en e≤1000→(∀x∈v,DW p.decls x=true)→
  ∀n1 n2,31≤n1→31≤n2→Ch N n1 p v e=some (T v e)∧Bl N n2 v (FB p) e=some (T v e)∧(T v e=-1∨DW p.decls (T v e)=true)
end RC



namespace RC
open Go
def Tg (o n:Int):List AK→AK
 | c :: d :: k=>if o=11∧c.op=10 then .mk 9 c.num (c.kids ++ [d]) else .mk o n (c :: d :: k)
 | k=>.mk o n k
mutual
def kn:AK→AK | .mk o n k=>Tg o n (TA k)
def TA:List AK→List AK | []=>[] | e :: l=>kn e :: TA l
end
theorem Qh :∀l,TA l=l.map kn
 | []=>by simp[TA]
 | e :: l=>by simp[TA,Qh l]
theorem W1 (e:AK):kn e=Tg e.op e.num (e.kids.map kn):=by cases e;simp[kn,Qh,AK.kids,AK.op,AK.num]
def K2 (e:AK):Prop:=e.op=11→2≤e.kids.length
mutual
def KA:AK→Prop | .mk o n k=>K2 (.mk o n k)∧WL k
def WL:List AK→Prop | []=>True | e :: l=>KA e∧WL l
end
theorem T6 :∀{l:List AK},WL l→∀e∈l,KA e
 | [],_,e,h=>by cases h
 | a :: l,h,e,he=>by
  unfold WL at h
  rcases List.mem_cons.1 he with rfl | he
  ·exact h.1
  ·exact T6 h.2 e he
theorem KA.k2 {e:AK} (h:KA e):K2 e:=by cases e;unfold KA at h;exact h.1
theorem KA.MH {e k:AK} (h:KA e) (hk:k∈e.kids):KA k:=by cases e;unfold KA at h;exact T6 h.2 k hk
theorem TU {N:Nat} (hN:2000000≤N) :∀(n:Nat) (k:List AK),CN k < n→CN k≤1000→Dm N n k=some k:=by
 intro n
 induction n with
 | zero=>intro k h;omega
 | succ n ih=>
  intro k hk hs
  have hlen:=Ff k
  rw[Dm]
  unfold Gw
  have key :∀(M i:Nat),i≤k.length→k.length - i < M→CT k (Dm N n) M i (k.take i)=some k:=by
   intro M i hi hM
   refine B7 k.length (fun M i=>CT k (Dm N n) M i (k.take i)=some k) ?_ ?_ hi hM
   ·intro m
    rw[CT,if_neg (by simp[AT]),List.take_length]
   ·intro m i hi ih2
    obtain⟨e,he,hem⟩:=B3 hi
    have h1:=Hh hem
    have h2:=EU e
    rw[CT,if_pos (by simp[AT];omega),BJ he]
    simp only[Option.bind_some,IH]
    rw[ih e.kids (by omega) (by omega)]
    simp only[Option.bind_some]
    rw[← Jl,DX _ _ 40 (by simp;omega) (by simp;omega),BQ (by omega) (by omega),show ((i:Int) + 1)=((i+1:Nat):Int) by omega]
    simp only[Option.bind_some]
    rw[← Cn he];exact ih2
  have:=key N 0 (Nat.zero_le _) (by omega)
  rw[List.take_zero,show ((0:Nat):Int)=0 from rfl] at this
  rw[this];rfl
theorem Ni {N:Nat} (hN:2000000≤N) {k:List AK} (hs:CN k≤1000):Ge N k=some k:=by
 unfold Ge;exact TU hN N k (by omega) hs
theorem R6 {N:Nat} (hN:2000000≤N) {e:AK} (hs:CN e.kids≤1000):GD N e=some e:=by
 unfold GD
 rw[Ni hN hs]
 simp only[Option.bind_some]
 rw[← Jl]
end RC



namespace RC
open Go
theorem YG (a b:List AK):CN (a ++ b)=CN a+CN b:=by
 induction a with
 | nil=>simp[CN]
 | cons x a ih=>simp only[List.cons_append,CN,ih];omega
theorem YN (o n:Int) (k:List AK):en (Tg o n k)≤1+CN k:=by
 unfold Tg
 split
 ·rename_i c d k
  split
  ·rw[EU]
   show 1+CN (c.kids ++ [d])≤_
   have:=EU c
   rw[YG];simp only[CN];omega
  ·rw[EU];exact Nat.le_refl _
 ·rw[EU];exact Nat.le_refl _
mutual
theorem TN :∀e:AK,en (kn e)≤en e
 | .mk o n k=>by
  unfold kn
  have h1:=YN o n (TA k)
  have h2:=O8 k
  rw[EU (.mk o n k)]
  show _≤1+CN k
  omega
theorem O8 :∀l:List AK,CN (TA l)≤CN l
 | []=>by simp[TA,CN]
 | e :: l=>by
  have h1:=TN e
  have h2:=O8 l
  simp only[TA,CN];omega
end
theorem XI {N:Nat} (hN:2000000≤N) :∀(n:Nat) (e:AK),en e≤n→en e≤500→KA e→E9 N n e=some (kn e):=by
 intro n
 induction n with
 | zero=>intro e h;have:=Lm e;omega
 | succ n ih=>
  intro e hn hs hK
  have hlen:=Ff e.kids
  have he:=EU e
  rw[E9]
  unfold JB
  have key :∀(M i:Nat),i≤e.kids.length→e.kids.length - i < M→Db e (E9 N n) M i ((e.kids.map kn).take i)=some (e.kids.map kn):=by
   intro M i hi hM
   refine B7 e.kids.length (fun M i=>Db e (E9 N n) M i ((e.kids.map kn).take i)=some (e.kids.map kn)) ?_ ?_ hi hM
   ·intro m
    rw[Db,if_neg (by simp[AT]),List.take_of_length_le (by simp)]
   ·intro m i hi ih2
    obtain⟨c,hc,hcm⟩:=B3 hi
    have h1:=Hh hcm
    rw[Db,if_pos (by simp[AT];omega),BJ hc]
    simp only[Option.bind_some]
    rw[ih c (by omega) (by omega) (hK.MH hcm)]
    simp only[Option.bind_some]
    rw[DX _ _ 40 (by simp;omega) (by simp;omega),BQ (by omega) (by omega),show ((i:Int) + 1)=((i+1:Nat):Int) by omega]
    simp only[Option.bind_some]
    have hm:(e.kids.map kn)[i]?=some (kn c):=by rw[List.getElem?_map,hc];rfl
    rw[← Cn hm];exact ih2
  have:=key N 0 (Nat.zero_le _) (by omega)
  rw[List.take_zero,show ((0:Nat):Int)=0 from rfl] at this
  rw[this,W1]
  simp only[Option.bind_some]
  have hzl:CN (e.kids.map kn)≤CN e.kids:=by rw[← Qh];exact O8 _
  have hml:(e.kids.map kn).length=e.kids.length:=by simp
  have hk2:=hK.k2
  unfold K2 at hk2
  generalize e.kids.map kn=l at *
  by_cases ho:e.op=11
  ·have:=hk2 ho
   match l,hml,hzl with
   | [],hml,_=>simp at hml;omega
   | [_],hml,_=>simp at hml;omega
   | c :: d :: k,hml,hzl=>
    have h0:Sh.get (c :: d :: k) 0=some c:=rfl
    have h1:Sh.get (c :: d :: k) 1=some d:=rfl
    rw[if_pos (by simpa using ho),h0,h1]
    simp only[Option.bind_some,Tg]
    by_cases hc:c.op=10
    ·have hce:=EU c
     simp only[CN] at hzl
     have hlc:=Ff c.kids
     rw[if_pos (by simpa using hc),if_pos ⟨ho,hc⟩,Ni hN (by omega)]
     simp only[Option.bind_some]
     rw[DX _ _ 40 (by simp;omega) (by simp;omega)];rfl
    ·rw[if_neg (by simpa using hc),if_neg (fun h=>hc h.2)]
  ·rw[if_neg (by simpa using ho)]
   simp only[Option.bind_some,Bool.false_eq_true,if_false]
   congr 1
   unfold Tg
   split
   ·rw[if_neg (fun h=>ho h.1)]
   ·rfl
theorem WS {N:Nat} (hN:2000000≤N) {e:AK} (hs:en e≤500) (hK:KA e):KO N e=some (kn e):=by
 unfold KO;exact XI hN N e (by omega) hs hK
end RC



namespace RC
open Go
def M1 (N:Nat) (ds:List Ah) (e:AK):Prop:=e.op=8→∀t:Nat,1≤t→t < e.kids.length→∃q c f,E6 N ds e.num=some q∧q[t - 1]?=some c∧C6 N ds c=some f
mutual
def MA (N:Nat) (ds:List Ah):AK→Prop | .mk o n k=>M1 N ds (.mk o n k)∧WN N ds k
def WN (N:Nat) (ds:List Ah):List AK→Prop | []=>True | e :: l=>MA N ds e∧WN N ds l
end
theorem UH {N:Nat} {ds:List Ah} :∀{l:List AK},WN N ds l→∀e∈l,MA N ds e
 | [],_,e,h=>by cases h
 | a :: l,h,e,he=>by
  unfold WN at h
  rcases List.mem_cons.1 he with rfl | he
  ·exact h.1
  ·exact UH h.2 e he
theorem MA.m1 {N:Nat} {ds:List Ah} {e:AK} (h:MA N ds e):M1 N ds e:=by cases e;unfold MA at h;exact h.1
theorem MA.MH {N:Nat} {ds:List Ah} {e k:AK} (h:MA N ds e) (hk:k∈e.kids):MA N ds k:=by cases e;unfold MA at h;exact UH h.2 k hk
theorem VF {l:List AK} {o n s:Int} (hz:CN l≤1000) (h2:o=11→2≤l.length):FQ l o n s=some (Tg o n l):=by
 unfold FQ
 by_cases ho:o=11
 ·have:=h2 ho
  match l,hz with
  | [],_=>simp at this
  | [_],_=>simp at this
  | c :: d :: k,hz=>
   have h0:Sh.get (c :: d :: k) 0=some c:=rfl
   have h1:Sh.get (c :: d :: k) 1=some d:=rfl
   rw[if_pos (by simpa using ho),h0,h1]
   simp only[Option.bind_some,Tg]
   by_cases hc:c.op=10
   ·have hce:=EU c
    simp only[CN] at hz
    have hlc:=Ff c.kids
    rw[if_pos (by simpa using hc),if_pos ⟨ho,hc⟩,DX _ _ 40 (by simp;omega) (by simp;omega)];rfl
   ·rw[if_neg (by simpa using hc),if_neg (fun h=>hc h.2)]
 ·rw[if_neg (by simpa using ho)]
  simp only[Option.bind_some,Bool.false_eq_true,if_false]
  congr 1
  unfold Tg
  split
  ·rw[if_neg (fun h=>ho h.1)]
  ·rfl
theorem Rq {N:Nat} (hN:2000000≤N) {ds:List Ah} :∀(n:Nat) (e:AK) (s:Int),en e≤n→en e≤500→KA e→MA N ds e→DC N n e.kids ds e.op e.num s=some (kn e):=by
 intro n
 induction n with
 | zero=>intro e _ h;have:=Lm e;omega
 | succ n ih=>
  intro e s hn hs hK hM
  have hlen:=Ff e.kids
  have he:=EU e
  rw[DC]
  unfold Fw
  have key :∀(M i:Nat),i≤e.kids.length→e.kids.length - i < M→CB N e.kids ds e.op e.num s (DC N n) M i ((e.kids.map kn).take i ++ e.kids.drop i)=some (e.kids.map kn):=by
   intro M i hi hM2
   refine B7 e.kids.length (fun M i=>CB N e.kids ds e.op e.num s (DC N n) M i ((e.kids.map kn).take i ++ e.kids.drop i)=some (e.kids.map kn)) ?_ ?_ hi hM2
   ·intro m
    rw[CB,if_neg (by simp[AT]),List.drop_length,List.append_nil,List.take_of_length_le (by simp)]
   ·intro m i hi ih2
    obtain⟨c,hc,hcm⟩:=B3 hi
    have h1:=Hh hcm
    have hl:((e.kids.map kn).take i).length=i:=by simp;omega
    have hget:Sh.get ((e.kids.map kn).take i ++ e.kids.drop i) (i:Int)=some c:=by
     rw[Mb,List.getElem?_append_right (by omega),hl,Nat.sub_self,List.getElem?_drop,Nat.add_zero,hc]
    have hput:Sh.put ((e.kids.map kn).take i ++ e.kids.drop i) (i:Int) (kn c)=(e.kids.map kn).take (i+1) ++ e.kids.drop (i+1):=by
     have hm:(e.kids.map kn)[i]?=some (kn c):=by rw[List.getElem?_map,hc];rfl
     rw[HX,List.set_append_right _ _ (by omega),hl,Nat.sub_self,drop_cons hc,List.set_cons_zero,Cn hm,List.append_assoc];rfl
    have hsc :∃sc,(Option.bind (
     if (decide (e.op=13))=true then
      some (decide ((i:Int)=1))
     else
      some false
    ) fun t23=>
    if t23=true then
     some (Sh.w (s+1))
    else
     Option.bind (
      if (decide (e.op=8))=true then
       some (decide (0 < (i:Int)))
      else
       some false
     ) fun t27=>
     if t27=true then
      Option.bind (E6 N ds e.num) fun q30=>
      Option.bind (Sh.get q30 (Sh.w ((i:Int) - 1))) fun c31=>
      Option.bind (C6 N ds c31) fun q32=>
      some (Sh.w (s+(Sh.len q32)))
     else
      some s)=some sc:=by
     by_cases h13:e.op=13
     ·have h8:¬ e.op=8:=by omega
      rw[if_pos (by simpa using h13),if_neg (by simpa using h8)]
      simp only[Option.bind_some,Bool.false_eq_true,if_false]
      split <;> exact⟨_,rfl⟩
     ·rw[if_neg (by simpa using h13)]
      simp only[Option.bind_some,Bool.false_eq_true,if_false]
      by_cases h8:e.op=8∧0 < i
      ·obtain⟨q,c',f,q1,q2,q3⟩:=hM.m1 h8.1 i h8.2 hi
       rw[if_pos (by simpa using h8.1)]
       simp only[Option.bind_some]
       rw[if_pos (by simp;omega),q1]
       simp only[Option.bind_some]
       rw[BQ (by omega) (by omega),show ((i:Int) - 1)=((i - 1:Nat):Int) by omega,BJ q2]
       simp only[Option.bind_some]
       rw[q3]
       exact⟨_,rfl⟩
      ·by_cases h:e.op=8
       ·rw[if_pos (by simpa using h)]
        simp only[Option.bind_some]
        rw[if_neg (by simp;omega)]
        exact⟨_,rfl⟩
       ·rw[if_neg (by simpa using h)]
        exact⟨_,rfl⟩
    obtain⟨sc,hsc⟩:=hsc
    rw[CB,if_pos (by simp[AT];omega),hsc]
    simp only[Option.bind_some]
    rw[hget]
    simp only[Option.bind_some]
    rw[ih c sc (by omega) (by omega) (hK.MH hcm) (hM.MH hcm)]
    simp only[Option.bind_some]
    rw[hput,BQ (by omega) (by omega),show ((i:Int) + 1)=((i+1:Nat):Int) by omega]
    exact ih2
  have:=key N 0 (Nat.zero_le _) (by omega)
  rw[List.take_zero,List.nil_append,List.drop_zero,show ((0:Nat):Int)=0 from rfl] at this
  rw[this]
  simp only[Option.bind_some]
  have hzl:CN (e.kids.map kn)≤CN e.kids:=by rw[← Qh];exact O8 _
  rw[VF (by omega) (fun h=>by have:=hK.k2 h;simpa using this),W1];rfl
theorem QJ {N:Nat} (hN:2000000≤N) {ds:List Ah} {e:AK} {s:Int} (hs:en e≤500) (hK:KA e) (hM:MA N ds e):Gu N e.kids ds e.op e.num s=some (kn e):=by
 unfold Gu;exact Rq hN N e s (by omega) hs hK hM
end RC



namespace RC
open Go
theorem UW {N:Nat} (hN:2000000≤N) :∀(n:Nat) (e:AK),en e≤n→en e≤1000→DT e→Ed N n e 0 0=some e:=by
 intro n
 induction n with
 | zero=>intro e h;have:=Lm e;omega
 | succ n ih=>
  intro e hn hs hI
  have hlen:=Ff e.kids
  have he:=EU e
  obtain⟨n1,n2⟩:=hI.num
  rw[Ed]
  unfold Hm
  have key :∀(M i:Nat),i≤e.kids.length→e.kids.length - i < M→C1 e 0 0 (Ed N n) M i (e.kids.take i)=some e.kids:=by
   intro M i hi hM
   refine B7 e.kids.length (fun M i=>C1 e 0 0 (Ed N n) M i (e.kids.take i)=some e.kids) ?_ ?_ hi hM
   ·intro m
    rw[C1,if_neg (by simp[AT]),List.take_length]
   ·intro m i hi ih2
    obtain⟨c,hc,hcm⟩:=B3 hi
    have h1:=Hh hcm
    rw[C1,if_pos (by simp[AT];omega),BJ hc]
    simp only[Option.bind_some]
    rw[ih c (by omega) (by omega) (hI.kids c hcm)]
    simp only[Option.bind_some]
    rw[DX _ _ 40 (by simp;omega) (by simp;omega),BQ (by omega) (by omega),show ((i:Int) + 1)=((i+1:Nat):Int) by omega]
    simp only[Option.bind_some]
    rw[← Cn hc];exact ih2
  have:=key N 0 (Nat.zero_le _) (by omega)
  rw[List.take_zero,show ((0:Nat):Int)=0 from rfl] at this
  rw[this,Int.add_zero,BQ (by omega) (by omega)]
  have hn:(Option.bind (
   Option.bind (
    if (decide (e.op=12))=true then
     some (decide (0≤e.num))
    else
     some false
   ) fun t25=>
   if t25=true then
    some e.num
   else
    some e.num
  ) fun f3=>(some e.kids).bind fun l11=>some (AK.mk e.op f3 l11))=some (AK.mk e.op e.num e.kids):=by
   by_cases h:e.op=12
   ·rw[if_pos (by simpa using h)];simp
   ·rw[if_neg (by simpa using h)];simp
  rw[hn,← Jl]
theorem R5 {N:Nat} (hN:2000000≤N) {e:AK} (hs:en e≤1000) (hI:DT e):GW N e=some e:=by
 unfold GW Kf
 rw[UW hN N e (by omega) hs hI];rfl
end RC



namespace RC
open Go
theorem Pw {N:Nat} (hN:2000000≤N) {p:Ag} (hd:p.decls.length≤1048576) (hz :∀d∈p.decls,dz d≤1048576) (hf:p.funcs.length≤1048576) (hb :∀f∈p.funcs,f.params.length≤1048576∧en f.body≤1000∧DT f.body):FM N p=some p:=by
 unfold FM
 rw[RX hd hz hN]
 simp only[Option.bind_some]
 have key :∀(M i:Nat),i≤p.funcs.length→p.funcs.length - i < M→CI N p M i (p.funcs.take i)=some p.funcs:=by
  intro M i hi hM
  refine B7 p.funcs.length (fun M i=>CI N p M i (p.funcs.take i)=some p.funcs) ?_ ?_ hi hM
  ·intro m
   rw[CI,if_neg (by simp[AT]),List.take_length]
  ·intro m i hi ih
   obtain⟨f,hf1,hfm⟩:=B3 hi
   obtain⟨b1,b2,b3⟩:=hb f hfm
   rw[CI,if_pos (by simp[AT];omega),BJ hf1]
   simp only[Option.bind_some]
   have hcl:Bi f.params=some f.params:=by
    unfold Bi
    rw[DX _ _ _ (by simp;omega) (by simp;omega)];rfl
   rw[hcl,R5 hN b2 b3]
   simp only[Option.bind_some]
   rw[DX _ _ 72 (by simp;omega) (by simp;omega),BQ (by omega) (by omega),show ((i:Int) + 1)=((i+1:Nat):Int) by omega]
   simp only[Option.bind_some]
   have e:Av.mk f.params f.result f.body=f:=by cases f;rfl
   rw[e,← Cn hf1];exact ih
 have:=key N 0 (Nat.zero_le _) (by omega)
 rw[List.take_zero,show ((0:Nat):Int)=0 from rfl] at this
 rw[this]
 cases p;rfl
end RC



namespace RC
open Go
def kf (f:Av):Av:=.mk f.params f.result (kn f.body)
structure KB (N:Nat) (ds:List Ah) (f:Av):Prop where
 par:f.params.length≤1048576
 small:en f.body≤30
 JV:DT f.body
 ka:KA f.body
 ma:MA N ds f.body
theorem SM {N:Nat} (hN:2000000≤N) {p:Ag} (hf:p.funcs.length≤1048576) (hb :∀f∈p.funcs,KB N p.decls f):CW N p p N 0 p.funcs=some (Sum.inr (p.funcs.map kf)):=by
 have key :∀(M i:Nat),i≤p.funcs.length→p.funcs.length - i < M→CW N p p M i ((p.funcs.map kf).take i ++ p.funcs.drop i)=some (Sum.inr (p.funcs.map kf)):=by
  intro M i hi hM
  refine B7 p.funcs.length (fun M i=>CW N p p M i ((p.funcs.map kf).take i ++ p.funcs.drop i)=some (Sum.inr (p.funcs.map kf))) ?_ ?_ hi hM
  ·intro m
   rw[CW,if_neg (by simp[AT]),List.drop_length,List.append_nil,List.take_of_length_le (by simp)]
  ·intro m i hi ih
   obtain⟨f,hf1,hfm⟩:=B3 hi
   have B:=hb f hfm
   have hl:((p.funcs.map kf).take i).length=i:=by simp;omega
   have hm:(p.funcs.map kf)[i]?=some (kf f):=by rw[List.getElem?_map,hf1];rfl
   have hget:Sh.get ((p.funcs.map kf).take i ++ p.funcs.drop i) (i:Int)=some f:=by
    rw[Mb,List.getElem?_append_right (by omega),hl,Nat.sub_self,List.getElem?_drop,Nat.add_zero,hf1]
   have hput:Sh.put ((p.funcs.map kf).take i ++ p.funcs.drop i) (i:Int) (kf f)=(p.funcs.map kf).take (i+1) ++ p.funcs.drop (i+1):=by
    rw[HX,List.set_append_right _ _ (by omega),hl,Nat.sub_self,drop_cons hf1,List.set_cons_zero,Cn hm,List.append_assoc];rfl
   have hget2:Sh.get ((p.funcs.map kf).take (i+1) ++ p.funcs.drop (i+1)) (i:Int)=some (kf f):=by
    rw[Mb,List.getElem?_append_left (by simp;omega),List.getElem?_take,if_pos (by omega),hm]
   have hs:=B.small
   have hkn:=TN f.body
   have hz:=EU (kn f.body)
   rw[CW,if_pos (by simp[AT];omega),hget]
   simp only[Option.bind_some]
   rw[QJ hN (by omega) B.ka B.ma]
   simp only[Option.bind_some]
   rw[show Av.mk f.params f.result (kn f.body)=kf f from rfl,hput,hget2]
   simp only[Option.bind_some]
   rw[show (kf f).body=kn f.body from rfl,LD (by omega) hN,if_pos (by omega)]
   simp only[Option.bind_some]
   rw[if_neg (by simp),BQ (by omega) (by omega),show ((i:Int) + 1)=((i+1:Nat):Int) by omega]
   exact ih
 have:=key N 0 (Nat.zero_le _) (by omega)
 rwa [List.take_zero,List.nil_append,List.drop_zero,show ((0:Nat):Int)=0 from rfl] at this
theorem SQ {N:Nat} (hN:2000000≤N) {p:Ag} (hd:p.decls.length≤1048576) (hz :∀d∈p.decls,dz d≤1048576) (hf:p.funcs.length≤1048576) (hb :∀f∈p.funcs,KB N p.decls f):Gg N p=some (.mk p.decls (p.funcs.map kf),true):=by
 unfold Gg
 rw[Pw hN hd hz hf fun f h=>⟨(hb f h).par,by have:=(hb f h).small;omega,(hb f h).JV⟩]
 simp only[Option.bind_some]
 rw[SM hN hf hb];rfl
end RC



namespace RC
open Go
theorem Vo {N:Nat} (hN:2000000≤N) {p:Ag} (hf:p.funcs.length≤1048576) (hb :∀f∈p.funcs,KB N p.decls f):CK N p N 0 []=some (p.funcs.map fun f=>kn f.body):=by
 have key :∀(M i:Nat),i≤p.funcs.length→p.funcs.length - i < M→CK N p M i ((p.funcs.map fun f=>kn f.body).take i)=some (p.funcs.map fun f=>kn f.body):=by
  intro M i hi hM
  refine B7 p.funcs.length (fun M i=>CK N p M i ((p.funcs.map fun f=>kn f.body).take i)=some (p.funcs.map fun f=>kn f.body)) ?_ ?_ hi hM
  ·intro m
   rw[CK,if_neg (by simp[AT]),List.take_of_length_le (by simp)]
  ·intro m i hi ih
   obtain⟨f,hf1,hfm⟩:=B3 hi
   have B:=hb f hfm
   have hs:=B.small
   have hm:(p.funcs.map fun f=>kn f.body)[i]?=some (kn f.body):=by rw[List.getElem?_map,hf1];rfl
   rw[CK,if_pos (by simp[AT];omega),BJ hf1]
   simp only[Option.bind_some]
   rw[WS hN (by omega) B.ka]
   simp only[Option.bind_some]
   rw[DX _ _ 40 (by simp;omega) (by simp;omega),BQ (by omega) (by omega),show ((i:Int) + 1)=((i+1:Nat):Int) by omega]
   simp only[Option.bind_some]
   rw[← Cn hm];exact ih
 have:=key N 0 (Nat.zero_le _) (by omega)
 rwa [List.take_zero,show ((0:Nat):Int)=0 from rfl] at this
theorem Qz {N:Nat} (hN:2000000≤N) {p:Ag} (hd:p.decls.length≤1048576) (hz :∀d∈p.decls,dz d≤1048576) (hf:p.funcs.length≤1048576) (hb :∀f∈p.funcs,KB N p.decls f):GC N p (p.funcs.map fun f=>kn f.body)=some (.mk p.decls (p.funcs.map kf),true):=by
 unfold GC
 rw[R8 hd hz hN]
 simp only[Option.bind_some]
 have key :∀(M i:Nat),i≤p.funcs.length→p.funcs.length - i < M→Cb N p (p.funcs.map fun f=>kn f.body) M i ((p.funcs.map kf).take i)=some (Sum.inr (p.funcs.map kf)):=by
  intro M i hi hM
  refine B7 p.funcs.length (fun M i=>Cb N p (p.funcs.map fun f=>kn f.body) M i ((p.funcs.map kf).take i)=some (Sum.inr (p.funcs.map kf))) ?_ ?_ hi hM
  ·intro m
   rw[Cb,if_neg (by simp[AT]),List.take_of_length_le (by simp)]
  ·intro m i hi ih
   obtain⟨f,hf1,hfm⟩:=B3 hi
   have B:=hb f hfm
   have hs:=B.small
   have hkn:=TN f.body
   have hze:=EU (kn f.body)
   have hm0:(p.funcs.map fun f=>kn f.body)[i]?=some (kn f.body):=by rw[List.getElem?_map,hf1];rfl
   have hm:(p.funcs.map kf)[i]?=some (kf f):=by rw[List.getElem?_map,hf1];rfl
   rw[Cb,if_pos (by simp[AT];omega),BJ hm0]
   simp only[Option.bind_some]
   rw[I2 (by omega) hN,if_pos (by omega)]
   simp only[Option.bind_some]
   rw[if_neg (by simp),BJ hf1]
   simp only[Option.bind_some]
   have hbp:=B.par
   have hci:Du f.params=some f.params:=by
    unfold Du
    rw[DX _ _ _ (by simp;omega) (by simp;omega)];rfl
   rw[hci,R6 hN (by omega)]
   simp only[Option.bind_some]
   rw[DX _ _ 72 (by simp;omega) (by simp;omega),BQ (by omega) (by omega),show ((i:Int) + 1)=((i+1:Nat):Int) by omega]
   simp only[Option.bind_some]
   rw[show Av.mk f.params f.result (kn f.body)=kf f from rfl,← Cn hm];exact ih
 have:=key N 0 (Nat.zero_le _) (by omega)
 rw[List.take_zero,show ((0:Nat):Int)=0 from rfl] at this
 rw[this];rfl
end RC



namespace RC
open Go
theorem Ph {p:Ag} (S:GM p) {N:Nat} (hN:2000000≤N) (hd:p.decls.length≤1048576) (hz :∀d∈p.decls,dz d≤1048576) (hK:Cv N p=some true→∀f∈p.funcs,KB N p.decls f) :
  ∃r,F5 N p=some r∧EA N p=some r∧(r=(.mk [] [],false)∨(r=(.mk p.decls (p.funcs.map kf),true)∧∀f∈p.funcs,KB N p.decls f)):=by
 obtain⟨b,e1,e2,_⟩:=Jx S hN
 unfold F5 EA
 rw[e1,e2]
 simp only[Option.bind_some]
 cases b with
 | false=>exact⟨_,rfl,rfl,.inl rfl⟩
 | true=>
  have K:=hK e1
  refine⟨(.mk p.decls (p.funcs.map kf),true),?_,?_,.inr ⟨rfl,K⟩⟩
  ·simp only[Bool.not_true,Bool.false_eq_true,if_false]
   rw[Vo hN S.Mr K]
   simp only[Option.bind_some]
   rw[Qz hN hd hz S.Mr K];rfl
  ·simp only[Bool.not_true,Bool.false_eq_true,if_false]
   rw[SQ hN hd hz S.Mr K];rfl
end RC



namespace RC
open Go
theorem V3 :∀{l:List AK},(∀e∈l,KA e)→WL l
 | [],_=>trivial
 | a :: l,h=>by unfold WL;exact⟨h a (by simp),V3 fun e he=>h e (by simp[he])⟩
theorem Zq {e:AK} (h1:K2 e) (h2 :∀k∈e.kids,KA k):KA e:=by
 cases e;unfold KA;exact⟨h1,V3 h2⟩
theorem V6 {N:Nat} {ds:List Ah} :∀{l:List AK},(∀e∈l,MA N ds e)→WN N ds l
 | [],_=>trivial
 | a :: l,h=>by unfold WN;exact⟨h a (by simp),V6 fun e he=>h e (by simp[he])⟩
theorem Zb {N:Nat} {ds:List Ah} {e:AK} (h1:M1 N ds e) (h2 :∀k∈e.kids,MA N ds k):MA N ds e:=by
 cases e;unfold MA;exact⟨h1,V6 h2⟩
section
variable {p : Ag} {R1 : Ag → List Int → AK → Option Int} {R2 : List Int → BH → AK → Option Int} {T : List Int → AK → Int} {e : AK} {v : List Int} {N : Nat}
theorem Z0 {t:Int} (hB:Bd N R1 p v e=some t) (ht:t≠-1):K2 e:=by
 intro h
 by_cases hl:e.kids.length=2
 ·omega
 ·exfalso
  apply ht
  have hl':¬ ((e.kids.length:Int)=2):=by omega
  unfold Bd at hB
  simp only[h,Int.reduceEq,decide_true,decide_false,Bool.false_eq_true,if_true,if_false,Option.bind_some,AT,hl'] at hB
  by_cases c2:e.num=0 <;> simp[c2,Sh.cont] at hB <;> exact hB.symm
theorem Zo (V:Ha p e v) (S:GL p.decls p.funcs) (hN:2000000≤N) {t:Int} (hB:BE N R2 v (FB p) e=some t) (ht:t≠-1):M1 N p.decls e:=by
 intro h8
 have hkl:=V.Jv
 have hD:=S.QC
 have hn:=S.nc
 have hCl:=N8 S.V7 e.num
 unfold BE at hB
 simp only[h8,Int.reduceEq,decide_true,decide_false,Bool.false_eq_true,if_true,if_false] at hB
 have hco:E6 N p.decls e.num=some (Ic p.decls e.num):=JQ (by omega) (by omega) hN
 rw[show (FB p).decls=p.decls from rfl,hco] at hB
 simp only[Option.bind_some] at hB
 generalize hCe:Ic p.decls e.num=C at hCl hB hco
 rw[AT C,AT e.kids,BQ (n:=1+(C.length:Int)) (by omega) (by omega)] at hB
 by_cases h0:C.length=0
 ·simp[h0] at hB;exact absurd hB.symm ht
 ·have hne:¬ C=[]:=fun q=>h0 (by rw[q];rfl)
  by_cases h1:e.kids.length=1+C.length
  ·intro t h2 h3
   obtain⟨c,hc,hcm⟩:=B3 (l:=C) (i:=t - 1) (by omega)
   have F:=S6 S (hCe ▸ hcm) hN
   exact⟨C,c,_,hco,hc,F.2.1⟩
  ·have h1':¬ ((e.kids.length:Int)=1+(C.length:Int)):=by omega
   simp[hne,h1'] at hB;exact absurd hB.symm ht
end
theorem ZZ {p:Ag} (S:GL p.decls p.funcs) {N:Nat} (hN:2000000≤N) {T:List Int→AK→Int} (hT:TT p N T) :∀(n:Nat) (e:AK) (v:List Int),en e≤n→n≤30→Ha p e v→T v e≠-1→KA e∧MA N p.decls e:=by
 intro n
 induction n with
 | zero=>intro e _ h;have:=Lm e;omega
 | succ n ih=>
  intro e v he hn V ht
  have H:Ky p (FB p) (Ch N 31) (Bl N 31) T (en e):=fun v e a b c d=>hT v e a (by omega) c d 31 31 (Nat.le_refl _) (Nat.le_refl _)
  obtain⟨q1,q2,_⟩:=hT v e V.JV (by omega) V.len V.NQ 32 32 (by omega) (by omega)
  rw[Ch] at q1
  rw[Bl] at q2
  have K :∀k∈e.kids,KA k∧MA N p.decls k:=fun k hk=>by
   have hke:=ES hk
   obtain⟨m,m1,m2,m3⟩:=XV H V S hN q2 ht k hk
   exact ih k (v ++ m) (by omega) (by omega) ⟨V.more hk m1,V.Su m2,by omega,V.JV.kids k hk⟩ m3
  exact⟨Zq (Z0 q1 ht) fun k hk=>(K k hk).1,Zb (Zo V S hN q2 ht) fun k hk=>(K k hk).2⟩
theorem XZ {p:Ag} (S:GM p) {N:Nat} (hN:2000000≤N) (hv:Cv N p=some true):GL p.decls p.funcs∧∃T,TT p N T∧∀f∈p.funcs,en f.body≤30∧Ha p f.body f.params∧DW p.decls f.result=true∧T f.params f.body=f.result:=by
 obtain⟨b,h1,_,h3⟩:=Jx S hN
 rw[hv] at h1;cases h1
 obtain⟨SO,hen⟩:=h3 rfl
 obtain⟨T,hT⟩:=Sm SO hN 31
 have hl:=S.Mr
 refine⟨SO,T,hT,fun f hf=>?_⟩
 obtain⟨q1,q2,q3⟩:=SO.Q3 f hf
 have he:=hen f hf
 have V:Ha p f.body f.params:=⟨by omega,q2,by omega,(S.fin hf).body⟩
 have L1:=C8 (l:=p.funcs) (By N p) (fun _ f=>Iy p T f) (fun n=>by rw[By,if_neg (by simp[AT])]) (fun n i f hi=>by
  have hil:=(List.getElem?_eq_some_iff.1 hi).1
  have hf:=List.mem_of_getElem? hi
  obtain⟨q1,q2,q3⟩:=SO.Q3 f hf
  have he:=hen f hf
  have ty:Jh N p f.params f.body=some (T f.params f.body):=(hT f.params f.body (S.fin hf).body (by omega) (by omega) q2 N N (by omega) (by omega)).1
  rw[By,if_pos (by simp[AT];omega),BJ hi]
  simp only[Option.bind_some]
  rw[I2 (S.fz hf).2 hN,BQ (by omega) (by omega),show ((i:Int) + 1)=((i+1:Nat):Int) by omega]
  simp only[Option.bind_some]
  unfold Iy
  rw[if_pos he,if_neg (by simp),ty]
  by_cases hr:T f.params f.body=f.result <;> simp[he,hr]) (by omega:p.funcs.length < N)
 rw[Df] at L1
 have hs:p.funcs.all (Iy p T)=true:=by
  unfold Cv at hv
  rw[RD S hN] at hv
  simp only[Option.bind_some] at hv
  cases hsg:Rw p with
  | false=>rw[hsg] at hv;simp at hv
  | true=>
   rw[hsg] at hv
   simp only[Bool.not_true,Bool.false_eq_true,if_false] at hv
   rw[L1,EK] at hv
   cases hb:p.funcs.all (Iy p T) with
   | true=>rfl
   | false=>rw[hb] at hv;simp at hv
 have hb:=List.all_eq_true.1 hs f hf
 unfold Iy at hb
 simp only[Bool.and_eq_true,decide_eq_true_eq] at hb
 exact⟨he,V,q3,hb.2⟩
theorem Wj {p:Ag} (S:GM p) {N:Nat} (hN:2000000≤N) (hv:Cv N p=some true) :∀f∈p.funcs,KB N p.decls f:=by
 intro f hf
 obtain⟨SO,T,hT,h⟩:=XZ S hN hv
 obtain⟨he,V,ty,hb⟩:=h f hf
 obtain⟨k1,k2⟩:=ZZ SO hN hT 30 f.body f.params he (Nat.le_refl _) V (by rw[hb];have:=(Kc ty).1;omega)
 exact⟨(S.fz hf).1,he,(S.fin hf).body,k1,k2⟩
end RC



namespace RC
open Go
def wE (e:AK):Nat:=2 * en e
theorem YI (l:List AK):(l.map wE).sum=2 * CN l:=by
 induction l with
 | nil=>rfl
 | cons a l ih=>simp[CN,ih,wE];omega
def MX (rec:List AK→Int→Option (Int×List AK)) (rech:List AK→Int→Option Int) (l:List AK):Prop:=∀k:Nat,k+2 * CN l≤20000000→∃(k':Nat) (l':List AK),k'≤k+2 * CN l∧rec l k=some ((k':Int),l')∧rech l' k=some (k':Int)
theorem Vr {N:Nat} (hN:2000000≤N) :∀(m:Nat) (l:List AK),CN l≤1048576→CN l < m→MX (Dj N m) (Dl N m) l:=by
 intro m
 induction m with
 | zero=>intro l _ h;omega
 | succ m ih=>
  intro l hl hm k hk
  have hlen:=Ff l
  rw[← YI] at hk ⊢
  rw[Dj]
  unfold Gs
  obtain⟨k',l',h1,h2,h3⟩:=Th (L:=Cs (Dj N m)) (H:=fun l=>Cr l (Dl N m)) (wt:=wE) (ok:=fun e=>MX (Dj N m) (Dl N m) e.kids) (fun n k l=>by rw[Cs,if_neg (by simp[AT])]) (fun l n k=>by rw[Cr,if_neg (by simp[AT])]) (fun n k A x C hA hx hk=>by
   unfold wE at hk ⊢
   rw[EU] at hk ⊢
   obtain⟨o,nu,kd⟩:=x
   simp only[AK.kids] at hx hk ⊢
   obtain⟨k1,l1,g1,g2,g3⟩:=hx (k+1+1) (by omega)
   refine⟨k1,.mk (k:Int) ((k+1:Nat):Int) l1,by omega,?_,fun q E=>?_⟩
   ·rw[Cs,if_pos (by simp[AT];omega),Ef (n:=k) (by omega),Ef (n:=k+1) (by omega),Ef (n:=A.length) (by omega)]
    simp only[Fk,IQ,Option.bind_some,AK.op,AK.num,AK.kids]
    rw[g2]
    simp only[Option.bind_some]
   ·rw[Cr,if_pos (by simp[AT];omega),Fk]
    simp only[Option.bind_some,AK.op,AK.num,AK.kids]
    rw[Ef (n:=k) (by omega),Ef (n:=k+1) (by omega),Ef (n:=A.length) (by omega),g3]
    simp only[decide_true,Bool.not_true,Bool.false_eq_true,if_false,Option.bind_some]
    rw[if_neg (by simp <;> omega)]) hN (by omega) (fun e he=>by
    have h1:=Hh he
    have h2:=EU e
    exact ih e.kids (by omega) (by omega)) hk
  refine⟨k',l',h1,?_,?_⟩
  ·rw[h2];rfl
  ·rw[Dl]
   unfold Gx
   rw[h3];rfl
theorem YD {N:Nat} (hN:2000000≤N) {l:List AK} (hl:CN l≤1048576):MX (Ho N) (Hj N) l:=by
 unfold Ho Hj
 exact Vr hN N l hl (by omega)
def fM (f:Av):Nat:=f.params.length+1+2+2 * CN f.body.kids
theorem W2 {l:List Av} {k N:Nat} (hN:2000000≤N) (hl:l.length≤1048576) (hok :∀f∈l,Ir f≤1048576) (hk:k+(l.map fM).sum≤20000000) :∃(k':Nat) (l':List Av),k'≤k+(l.map fM).sum∧Gb N l k=some ((k':Int),l')∧Gf N l' k=some (k':Int):=by
 obtain⟨k',l',h1,h2,h3⟩:=Th (L:=DN N) (H:=DS N) (wt:=fM) (ok:=fun f=>Ir f≤1048576) (fun n k l=>by rw[DN,if_neg (by simp[AT])]) (fun l n k=>by rw[DS,if_neg (by simp[AT])]) (fun n k A x C hA hx hk=>by
  unfold Ir at hx
  unfold fM at hk ⊢
  obtain⟨pa,re,bo⟩:=x
  obtain⟨o,nu,kd⟩:=bo
  simp only[AK.kids] at hx hk ⊢
  have e1:=PB (l:=pa) (by omega) (k:=k) (by omega) hN
  have f1:=OV (m:=pa.length) (by omega) (k:=k) (by omega) hN
  obtain⟨k1,l1,g1,g2,g3⟩:=YD hN (l:=kd) (by omega) (k+pa.length+1+1+1) (by omega)
  refine⟨k1,⟨LC k pa.length,((k+pa.length:Nat):Int),.mk ((k+pa.length+1:Nat):Int) ((k+pa.length+1+1:Nat):Int) l1⟩,by omega,?_,fun m E=>?_⟩
  ·rw[DN,if_pos (by simp[AT];omega),Ef (n:=A.length) (by omega)]
   simp only[Fk,IQ,Option.bind_some]
   rw[e1]
   simp only[Fk,IQ,Option.bind_some]
   rw[Ef (n:=k+pa.length) (by omega),Ef (n:=k+pa.length+1) (by omega),Ef (n:=k+pa.length+1+1) (by omega)]
   simp only[AK.op,AK.num,AK.kids]
   rw[g2]
   simp only[Fk,IQ,Option.bind_some]
  ·rw[DS,if_pos (by simp[AT];omega),Fk,Ef (n:=A.length) (by omega)]
   simp only[Option.bind_some]
   rw[f1]
   simp only[Option.bind_some]
   rw[if_neg (by simp <;> omega),Ef (n:=k+pa.length) (by omega),Ef (n:=k+pa.length+1) (by omega),Ef (n:=k+pa.length+1+1) (by omega)]
   simp only[AK.op,AK.num,AK.kids]
   rw[g3]
   simp only[decide_true,Bool.not_true,Bool.false_eq_true,if_false,Option.bind_some]
   rw[if_neg (by simp <;> omega)]) hN hl hok hk
 refine⟨k',l',h1,?_,?_⟩
 ·unfold Gb
  rw[h2];rfl
 ·unfold Gf
  rw[h3];rfl
theorem Rr {p:Ag} (hp:LA p≤1048576) {N:Nat} (hN:2000000≤N) :∃(k:Nat) (d:List Ah) (r:List Av),E0 N p.decls p.funcs 1=some ((k:Int),d,r)∧E1 N ⟨d,r⟩ 1=some (k:Int):=by
 unfold LA at hp
 have s1:(p.decls.map Wa).sum≤2 * p.decls.length+1 * (p.decls.map dz).sum:=Qj fun d _=>by unfold Wa dz;omega
 have s2:(p.funcs.map fM).sum≤3 * p.funcs.length+2 * (p.funcs.map Ir).sum:=Qj fun f _=>by unfold fM Ir;omega
 obtain⟨k1,d,g1,g2,g3⟩:=XC (l:=p.decls) (k:=1) hN (by omega) (fun d hd=>by have:=FK dz hd;omega) (by omega)
 obtain⟨k2,r,g4,g5,g6⟩:=W2 (l:=p.funcs) (k:=k1) hN (by omega) (fun d hd=>by have:=FK Ir hd;omega) (by omega)
 refine⟨k2,d,r,?_,?_⟩
 ·unfold E0
  rw[show (1:Int)=((1:Nat):Int) from rfl,g2]
  simp only[Option.bind_some]
  rw[g5];rfl
 ·unfold E1
  rw[show (1:Int)=((1:Nat):Int) from rfl,g3]
  simp only[Option.bind_some]
  rw[if_neg (by simp <;> omega),g6]
  simp only[Option.bind_some]
  rw[if_neg (by simp <;> omega)]
end RC

