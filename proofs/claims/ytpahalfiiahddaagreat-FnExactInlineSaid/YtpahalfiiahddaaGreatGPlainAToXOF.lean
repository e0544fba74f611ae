import Derived.Test.YtpahalfiiahddaaGreatGAbsZPToSSDefs
import Derived.Test.YtpahalfiiahddaaGreatGHADefsToINDefs

namespace RC
open Go
theorem A3 {n:Int} (h1:-9223372036854775808≤n) (h2:n≤9223372036854775807):Sh.w n=n:=Abs.wrap_i64 h1 h2
theorem AK {α:Type} (l:List α):Sh.len l=(l.length:Int):=rfl
theorem Np {α:Type} (l:List α) (i:Nat):Sh.get l (i:Int)=l[i]?:=by
 unfold Sh.get;rw[if_pos (Int.natCast_nonneg i)];simp
theorem At {α:Type} {l:List α} {i:Nat} {x:α} (h:l[i]?=some x):Sh.get l (i:Int)=some x:=by rw[Np,h]
theorem Nf {α:Type} {l:List α} {j:Int} (h0:0≤j) (h1:j < l.length) :∃x,Sh.get l j=some x∧l[j.toNat]?=some x:=by
 have h:l[j.toNat]?=some (l[j.toNat]'(by omega)):=List.getElem?_eq_getElem (by omega)
 exact⟨_,by unfold Sh.get;rw[if_pos h0,h],h⟩
theorem VP {α:Type} {l:List α} {j:Int} (h0:0≤j):Sh.get l j=l[j.toNat]?:=by unfold Sh.get;rw[if_pos h0]
theorem Hm {α:Type} (l:List α) (i:Nat) (x:α):Sh.put l (i:Int) x=l.set i x:=by simp[Sh.put]
theorem Ie {α:Type} (x:α) (n b:Nat) (h:n * b≤281474976710656) (h2:n≤9223372036854775807):Sh.mk x (n:Int) b=some (List.replicate n x):=by
 unfold Sh.mk
 rw[if_pos ⟨by omega,by rw[← Int.natCast_mul];omega,by omega⟩];simp
theorem CL {α:Type} (l m:List α) (b:Nat) (h:(l.length+m.length) * b≤140737488355328) (h2:l.length+m.length≤9223372036854775807):Sh.app l m b=some (l ++ m):=by
 unfold Sh.app;rw[if_pos ⟨h,h2⟩]
theorem eA {α:Type} {l:List α} {j:Nat} (h:j≤l.length):Sh.hi l (j:Int)=some (l.take j):=by
 unfold Sh.hi;rw[if_pos ⟨by omega,by omega⟩];simp
theorem BO (len:Nat) (P:Nat→Nat→Prop) (h0 :∀n,P (n+1) len) (hs :∀n i,i < len→P n (i+1)→P (n+1) i) :∀{N i:Nat},i≤len→len - i < N→P N i:=by
 intro N i hi hN
 obtain⟨k,hk⟩ :∃k,len - i=k:=⟨_,rfl⟩
 induction k generalizing N i with
 | zero=>
  obtain⟨n,rfl⟩ :∃n,N=n+1:=⟨N - 1,by omega⟩
  have:i=len:=by omega
  subst this;exact h0 n
 | succ k ih=>
  obtain⟨n,rfl⟩ :∃n,N=n+1:=⟨N - 1,by omega⟩
  exact hs n i (by omega) (ih (by omega) (by omega) (by omega))
theorem BV {α:Type} {l:List α} {i:Nat} (h:i < l.length) :∃x,l[i]?=some x∧x∈l:=⟨l[i],List.getElem?_eq_getElem h,List.getElem_mem h⟩
theorem B8 {α:Type} {l:List α} {j:Nat} {x:α} (h:l[j]?=some x):l.take (j+1)=l.take j ++ [x]:=by rw[List.take_add_one,h];rfl
theorem drop_cons {α:Type} {l:List α} {j:Nat} {x:α} (h:l[j]?=some x):l.drop j=x :: l.drop (j+1):=by
 obtain⟨hj,rfl⟩:=List.getElem?_eq_some_iff.1 h
 exact List.drop_eq_getElem_cons hj
def bA (h:List Cell):Nat:=(h.map fun c=>c.fields.length).sum
def Dd (h:List Cell):Nat:=h.length+bA h
structure Hp (h:List Cell):Prop where
 size:Dd h≤1048576
 cells :∀c∈h,Wg c
theorem Z2 {h:List Cell} {c:Cell} (hc:c∈h):c.fields.length≤bA h:=by
 induction h with
 | nil=>cases hc
 | cons d h ih=>
  simp only[bA,List.map_cons,List.sum_cons] at ih ⊢
  rcases List.mem_cons.1 hc with rfl | hc
  ·omega
  ·have:=ih hc;omega
theorem Hp.len {h:List Cell} (H:Hp h):h.length≤1048576:=by have:=H.size;unfold Dd at this;omega
theorem Hp.LF {h:List Cell} (H:Hp h) {c:Cell} (hc:c∈h):c.fields.length≤1048576:=by have:=H.size;have:=Z2 hc;unfold Dd at *;omega
end RC



namespace RC
open Go
def ER {α:Type} (f:Nat→α→Bool):Nat→List α→Bool
 | _,[]=>true
 | k,x :: r=>f k x && ER f (k+1) r
theorem RA {α:Type} {f g:Nat→α→Bool} :∀(l:List α) (k:Nat),(∀(i:Nat) x,l[i]?=some x→f (k+i) x=g (k+i) x)→ER f k l=ER g k l
 | [],_,_=>rfl
 | x :: r,k,h=>by
  have h0:=h 0 x rfl
  rw[Nat.add_zero] at h0
  have h1:=RA r (k+1) fun i y hy=>(show k+(i+1)=k+1+i by omega) ▸ h (i+1) y hy
  rw[ER,ER,h0,h1]
theorem Dn {α:Type} {p:α→Bool} :∀(l:List α) (k:Nat),ER (fun _ x=>p x) k l=l.all p
 | [],_=>rfl
 | x :: r,k=>by rw[ER,Dn r (k+1),List.all_cons]
theorem Cg {α:Type} {l:List α} (L:Nat→Int→Option (Bool ⊕ Unit)) (f:Nat→α→Bool) (h0 :∀n,L (n+1) (l.length:Int)=some (.inr ()))
  (hs :∀n (i:Nat) x,l[i]?=some x→L (n+1) (i:Int)=if f i x=true then L n ((i+1:Nat):Int) else some (.inl false)) {N:Nat} (hN:l.length < N) :
  L N 0=some (if ER f 0 l=true then .inr () else .inl false):=by
 have key :∀{N i:Nat},i≤l.length→l.length - i < N→L N (i:Int)=some (if ER f i (l.drop i)=true then .inr () else .inl false):=by
  intro N i hi hN
  refine BO l.length (fun N i=>L N (i:Int)=some (if ER f i (l.drop i)=true then .inr () else .inl false)) ?_ ?_ hi hN
  ·intro n;rw[h0 n];simp[ER]
  ·intro n i hi ih
   obtain⟨x,hx,_⟩:=BV hi
   rw[hs n i x hx,ih,drop_cons hx,ER]
   cases h:f i x <;> simp
 have:=key (Nat.zero_le _) (by omega:l.length - 0 < N)
 simpa using this
theorem De {β:Type} {b:Bool} {g:Bool→β} {K:Unit→Option β}:Sh.cont (some (if b=true then Sum.inr () else Sum.inl false)) g K=if b=true then K () else some (g false):=by
 cases b <;> rfl
theorem Xd {α:Type} {l:List α} {j:Nat} (h:j≤l.length) (h2:l.length≤9223372036854775807):Sh.sl l 0 (j:Int)=some (l.take j):=by
 unfold Sh.sl
 rw[if_pos ⟨by omega,by omega,by omega⟩];simp
end RC


namespace RC
open Go
theorem T4 {l:List Int} {left:Int} (h0:0≤left) (h1:left≤1048576) (hl:l.length≤9223372036854775807):H2 l left=some (if left - l.length < 0 then -1 else left - l.length):=by
 unfold H2
 rw[AK,A3 (by omega) (by omega)]
 by_cases h:left - l.length < 0 <;> simp[h]
theorem Ux {l:List Int} (hl:l.length≤1048576) {N i:Nat} (hi:i≤l.length) (hN:l.length - i < N) :∀m:List Int,m.length=l.length→m.take i=l.take i→EV l N i m=some l:=by
 refine BO l.length (fun N i=>∀m:List Int,m.length=l.length→m.take i=l.take i→EV l N i m=some l) ?_ ?_ hi hN
 ·intro n m hm ht
  rw[EV,if_neg (by simp[AK])]
  rw[List.take_of_length_le (by omega),List.take_length] at ht
  rw[ht]
 ·intro n i hi ih m hm ht
  obtain⟨x,hx,_⟩:=BV hi
  obtain⟨y,hy,_⟩:=BV (l:=m) (i:=i) (by omega)
  rw[EV,if_pos (by simp[AK];omega),At hx]
  simp only[Option.bind_some]
  rw[At hy]
  simp only[Option.bind_some]
  rw[A3 (by omega) (by omega),Hm,show ((i:Int) + 1)=((i+1:Nat):Int) by omega]
  refine ih _ (by simp[hm]) ?_
  rw[B8 hx,B8 (x:=x) (by rw[List.getElem?_set];simp;omega),List.take_set_of_le (Nat.le_refl _),ht]
theorem Tr {l:List Int} (hl:l.length≤1048576) {N:Nat} (hN:2000000≤N):Hv N l=some l:=by
 unfold Hv
 rw[AK,Ie 0 l.length 8 (by omega) (by omega)]
 simp only[Option.bind_some]
 have:=Ux hl (Nat.zero_le _) (by omega:l.length - 0 < N) (List.replicate l.length 0) (by simp) (by simp)
 rw[show ((0:Nat):Int)=0 from rfl] at this
 rw[this];rfl
theorem U3 {l:List Int} (hl:l.length≤1048576) {N i:Nat} (hi:i≤l.length) (hN:l.length - i < N):EX l l N i=some (Sum.inr ()):=by
 refine BO l.length (fun N i=>EX l l N i=some (Sum.inr ())) ?_ ?_ hi hN
 ·intro n
  rw[EX,if_neg (by simp[AK])]
 ·intro n i hi ih
  obtain⟨x,hx,_⟩:=BV hi
  rw[EX,if_pos (by simp[AK];omega),At hx]
  simp only[Option.bind_some]
  rw[A3 (by omega) (by omega),show ((i:Int) + 1)=((i+1:Nat):Int) by omega]
  simpa using ih
theorem Tt {l:List Int} (hl:l.length≤1048576) {N:Nat} (hN:2000000≤N):Hw N l l=some true:=by
 unfold Hw
 have:=U3 hl (Nat.zero_le _) (by omega:l.length - 0 < N)
 rw[show ((0:Nat):Int)=0 from rfl] at this
 simp[this]
end RC


namespace RC
open Go
def eM (h:List Cell) (w:Int):Bool:=decide (1000≤w) && (match h[(w - 1000).toNat]? with | some c=>decide (0 < c.count) | none=>false)
theorem C3 (a b c:Int):B4 a b c=some (decide (b≤a) && decide (a≤c)):=by
 unfold B4
 by_cases h:b≤a <;> simp[h]
end RC



namespace RC
open Go
def C1 (D:List Ab) (t:Int):Bool:=decide (0≤t) && decide (t≤(D.length:Int))
theorem Le {D:List Ab} {x:Int}:B4 x 0 (Sh.len D)=some (C1 D x):=by rw[C3];rfl
theorem LU {D:List Ab} {l:List Int} (hl:l.length≤1048576) {N:Nat} (hN:l.length < N):GY N D l=some (l.all (C1 D)):=by
 unfold GY
 rw[Cg (l:=l) (EC D l) (fun _ x=>C1 D x) (fun n=>by rw[EC,if_neg (by simp[AK])]) (fun n i x hx=>?_) hN,De,Dn]
 ·cases l.all (C1 D) <;> rfl
 ·have hi:=(List.getElem?_eq_some_iff.1 hx).1
  rw[EC,if_pos (by simp[AK];omega),At hx]
  simp only[Option.bind_some]
  rw[Le,A3 (by omega) (by omega),show ((i:Int) + 1)=((i+1:Nat):Int) by omega]
  simp only[Option.bind_some]
  cases C1 D x <;> rfl
theorem IW {D:List Ab} {t:Int}:GM D t=some (C1 D t):=by
 unfold GM C1
 by_cases h:0≤t <;> by_cases h2:t≤(D.length:Int) <;> simp[h,h2,AK]
theorem JI {D:List Ab} {l:List Int} (hl:l.length≤1048576) {N:Nat} (hN:l.length < N):Fy N D l=some (l.all (C1 D)):=by
 unfold Fy
 rw[Cg (l:=l) (EF D l) (fun _ x=>C1 D x) (fun n=>by rw[EF,if_neg (by simp[AK])]) (fun n i x hx=>?_) hN,De,Dn]
 ·cases l.all (C1 D) <;> rfl
 ·have hi:=(List.getElem?_eq_some_iff.1 hx).1
  rw[EF,if_pos (by simp[AK];omega),At hx]
  simp only[Option.bind_some]
  rw[IW,A3 (by omega) (by omega),show ((i:Int) + 1)=((i+1:Nat):Int) by omega]
  simp only[Option.bind_some]
  cases C1 D x <;> rfl
def O7 (D:List Ab) (c:BP):Bool:=decide (c.fields.length≤3) && c.fields.all (C1 D)
def GS (a b:Ab):Bool:=decide (a.cons.length=0) && (decide (a.from_=b.from_) && decide (a.to=b.to))
def KL (D:List Ab) (i:Nat) (d:Ab):Bool:=
 if 0 < d.cons.length then (decide (d.cons.length≤3) && (decide (d.from_=0) && decide (d.to=0))) && d.cons.all (O7 D)
 else (D.take i).all (fun e=>!GS e d) && (C1 D d.from_ && C1 D d.to)
def R0 (D:List Ab) (i:Nat) (d:Ab):Bool:=
 ((C1 D d.from_ && (C1 D d.to && (decide (d.cons.length≤3) && (!(decide (0 < d.cons.length) && (!decide (d.from_=0) || !decide (d.to=0))))))) && d.cons.all (O7 D)) && (D.take i).all (fun e=>!(decide (d.cons.length=0) && GS e d))
theorem YJ (D:List Ab) (i:Nat) (d:Ab):R0 D i d=KL D i d:=by
 unfold R0 KL
 by_cases h:0 < d.cons.length
 ·have h0:¬ d.cons.length=0:=by omega
  have ha:(D.take i).all (fun e=>!(decide (d.cons.length=0) && GS e d))=true:=by simp[h0]
  rw[if_pos h,ha]
  by_cases h1:d.from_=0 <;> by_cases h2:d.to=0 <;> simp[h,h1,h2,C1]
 ·have h0:d.cons.length=0:=by omega
  have hc:d.cons=[]:=List.eq_nil_of_length_eq_zero h0
  rw[if_neg h]
  simp only[hc,h0,List.length_nil,List.all_nil,decide_true,Bool.true_and,Bool.and_true]
  cases C1 D d.from_ <;> cases C1 D d.to <;> simp
structure OY (D:List Ab):Prop where
 len:D.length≤1048576
 cons :∀d∈D,d.cons.length≤1048576
 NK :∀d∈D,∀c∈d.cons,c.fields.length≤1048576
theorem Pr {D:List Ab} (hD:OY D) {i:Nat} {d:Ab} (hd:D[i]?=some d) {N:Nat} (hN:2000000≤N):HE N D i=some (KL D i d):=by
 have hm:=List.mem_of_getElem? hd
 have hi:=(List.getElem?_eq_some_iff.1 hd).1
 have hlen:=hD.len
 have hc:=hD.cons d hm
 unfold HE KL
 rw[At hd]
 simp only[Option.bind_some]
 by_cases h:0 < d.cons.length
 ·rw[if_pos (by simp[AK];omega),if_pos h]
  rw[Cg (l:=d.cons) (Dl N d D) (fun _ c=>O7 D c) (fun n=>by rw[Dl,if_neg (by simp[AK])]) (fun n j c hj=>?_) (by omega),De,Dn]
  ·simp only[AK]
   by_cases h3:d.cons.length≤3
   ·have e3:¬ (3:Int) < (d.cons.length:Int):=by omega
    generalize d.cons.all (O7 D)=z
    cases z <;> by_cases h1:d.from_=0 <;> by_cases h2:d.to=0 <;> simp[h1,h2,h3,e3]
   ·have e3:(3:Int) < (d.cons.length:Int):=by omega
    simp[h3,e3]
  ·have hj':=(List.getElem?_eq_some_iff.1 hj).1
   have hf:=hD.NK d hm c (List.mem_of_getElem? hj)
   rw[Dl,if_pos (by simp[AK];omega),At hj]
   simp only[Option.bind_some]
   rw[LU hf (by omega),A3 (by omega) (by omega),show ((j:Int) + 1)=((j+1:Nat):Int) by omega]
   unfold O7
   by_cases h3:c.fields.length≤3
   ·have e3:¬ (3:Int) < (c.fields.length:Int):=by omega
    simp only[AK]
    cases c.fields.all (C1 D) <;> simp[h3,e3]
   ·have e3:(3:Int) < (c.fields.length:Int):=by omega
    simp[h3,e3,AK]
 ·have h0:d.cons.length=0:=by omega
  have e0:¬ decide ((0:Int) < Sh.len d.cons)=true:=by rw[AK,h0];simp
  rw[if_neg e0,if_neg h]
  have hlt:(D.take i).length=i:=by simp;omega
  rw[Cg (l:=D.take i) (Ds d D i) (fun _ e=>!GS e d) (fun n=>by rw[Ds,if_neg (by simp;omega)]) (fun n j e hj=>?_) (by omega),De,Dn]
  ·rw[Le,Le]
   simp only[Option.bind_some]
   cases (D.take i).all (fun e=>!GS e d) <;> cases C1 D d.from_ <;> simp
  ·have hj':=(List.getElem?_eq_some_iff.1 hj).1
   have hje:D[j]?=some e:=by rw[List.getElem?_take] at hj;split at hj <;> first | exact hj | cases hj
   rw[Ds,if_pos (by simp;omega),At hje]
   simp only[Option.bind_some]
   rw[A3 (by omega) (by omega),show ((j:Int) + 1)=((j+1:Nat):Int) by omega]
   unfold GS
   simp only[AK]
   by_cases a0:e.cons.length=0 <;> by_cases a1:e.from_=d.from_ <;> by_cases a2:e.to=d.to <;> simp[a0,a1,a2]
def LZ (D:List Ab):Bool:=decide (D.length≤4) && ER (KL D) 0 D
theorem Om {D:List Ab} (hD:OY D) {N:Nat} (hN:2000000≤N):Gb N D=some (LZ D):=by
 have hlen:=hD.len
 unfold Gb LZ
 rw[Cg (l:=D) (DS N D) (KL D) (fun n=>by rw[DS,if_neg (by simp[AK])]) (fun n i d hd=>?_) (by omega),De]
 ·simp only[AK]
  by_cases h:D.length≤4
  ·have e4:¬ (4:Int) < (D.length:Int):=by omega
   cases ER (KL D) 0 D <;> simp[h,e4]
  ·have e4:(4:Int) < (D.length:Int):=by omega
   simp[h,e4]
 ·have hi:=(List.getElem?_eq_some_iff.1 hd).1
  rw[DS,if_pos (by simp[AK];omega),Pr hD hd hN]
  simp only[Option.bind_some]
  rw[A3 (by omega) (by omega),show ((i:Int) + 1)=((i+1:Nat):Int) by omega]
  cases KL D i d <;> rfl
theorem Of {D:List Ab} (hD:OY D) {N:Nat} (hN:2000000≤N):Ge N D=some (LZ D):=by
 have hlen:=hD.len
 unfold Ge LZ
 rw[← RA (f:=R0 D) D 0 (fun i d _=>YJ D _ d)]
 rw[Cg (l:=D) (DP N D) (R0 D) (fun n=>by rw[DP,if_neg (by simp[AK])]) (fun n i d hd=>?_) (by omega),De]
 ·simp only[AK]
  by_cases h:D.length≤4
  ·have e4:¬ (4:Int) < (D.length:Int):=by omega
   cases ER (R0 D) 0 D <;> simp[h,e4]
  ·have e4:(4:Int) < (D.length:Int):=by omega
   simp[h,e4]
 ·have hi:=(List.getElem?_eq_some_iff.1 hd).1
  have hm:=List.mem_of_getElem? hd
  have hc:=hD.cons d hm
  have l2:Cm N d D N 0=some (if d.cons.all (O7 D)=true then .inr () else .inl false):=by
   rw[Cg (l:=d.cons) (Cm N d D) (fun _ c=>O7 D c) (fun n=>by rw[Cm,if_neg (by simp[AK])]) (fun n j c hj=>?_) (by omega),Dn]
   have hj':=(List.getElem?_eq_some_iff.1 hj).1
   have hf:=hD.NK d hm c (List.mem_of_getElem? hj)
   rw[Cm,if_pos (by simp[AK];omega),At hj]
   simp only[Option.bind_some]
   rw[JI hf (by omega),A3 (by omega) (by omega),show ((j:Int) + 1)=((j+1:Nat):Int) by omega]
   unfold O7
   by_cases h3:c.fields.length≤3
   ·have e3:¬ (3:Int) < (c.fields.length:Int):=by omega
    simp only[AK]
    cases c.fields.all (C1 D) <;> simp[h3,e3]
   ·have e3:(3:Int) < (c.fields.length:Int):=by omega
    simp[h3,e3,AK]
  have hlt:(D.take i).length=i:=by simp;omega
  have l3:Ck d (D.take i) N 0=some (if (D.take i).all (fun e=>!(decide (d.cons.length=0) && GS e d))=true then .inr () else .inl false):=by
   rw[Cg (l:=D.take i) (Ck d (D.take i)) (fun _ e=>!(decide (d.cons.length=0) && GS e d)) (fun n=>by rw[Ck,if_neg (by simp[AK])]) (fun n j e hj=>?_) (by omega),Dn]
   have hj':=(List.getElem?_eq_some_iff.1 hj).1
   rw[Ck,if_pos (by simp only[AK];simp;omega),At hj]
   simp only[Option.bind_some]
   rw[A3 (by omega) (by omega),show ((j:Int) + 1)=((j+1:Nat):Int) by omega]
   unfold GS
   simp only[AK]
   by_cases b0:d.cons.length=0 <;> by_cases a0:e.cons.length=0 <;> by_cases a1:e.from_=d.from_ <;> by_cases a2:e.to=d.to <;> simp[a0,a1,a2,b0]
  rw[DP,if_pos (by simp[AK];omega),At hd]
  simp only[Option.bind_some]
  rw[IW,IW,l2,Xd (by omega) (by omega),A3 (by omega) (by omega),show ((i:Int) + 1)=((i+1:Nat):Int) by omega]
  simp only[Option.bind_some]
  rw[l3,De,De]
  unfold R0
  simp only[AK]
  generalize d.cons.all (O7 D)=z1
  generalize (D.take i).all (fun e=>!(decide (d.cons.length=0) && GS e d))=z2
  by_cases h3:d.cons.length≤3
  ·have e3:¬ (3:Int) < (d.cons.length:Int):=by omega
   by_cases h0:0 < d.cons.length
   ·have e0:(0:Int) < (d.cons.length:Int):=by omega
    cases C1 D d.from_ <;> cases C1 D d.to <;> cases z1 <;> cases z2 <;> by_cases h1:d.from_=0 <;> by_cases h2:d.to=0 <;> simp[h1,h2,h3,e3,h0]
   ·have e0:¬ (0:Int) < (d.cons.length:Int):=by omega
    cases C1 D d.from_ <;> cases C1 D d.to <;> cases z1 <;> cases z2 <;> simp[h3,e3,h0]
  ·have e3:(3:Int) < (d.cons.length:Int):=by omega
   cases C1 D d.from_ <;> cases C1 D d.to <;> simp[h3,e3]
end RC



namespace RC
open Go
def KK (ps ls:List Int) (i:Nat) (v:Int):Bool:=
 (decide (0≤v) && decide (v < (ps.length:Int))) && (!decide (ps[v.toNat]?=some 0) && !(decide (0 < i) && decide (v≤(ls[i - 1]?).getD 0)))
theorem aZ {ls:List Int} {i:Nat} (h0:0 < i) (hi:i < ls.length) :∃x,ls[i - 1]?=some x∧Sh.get ls (((i:Nat):Int) - 1)=some x:=by
 obtain⟨x,hx,_⟩:=BV (l:=ls) (i:=i - 1) (by omega)
 exact⟨x,hx,by rw[show ((i:Int) - 1)=((i - 1:Nat):Int) by omega,At hx]⟩
theorem VJ {c:BI} (hp:c.params.length≤1048576) (hl:c.E4.length≤1048576) {N:Nat} (hN:2000000≤N):DC c N 0=some (if ER (KK c.params c.E4) 0 c.E4=true then .inr () else .inl false):=by
 refine Cg (l:=c.E4) (DC c) (KK c.params c.E4) (fun n=>by rw[DC,if_neg (by simp[AK])]) (fun n i v hv=>?_) (by omega)
 have hi:=(List.getElem?_eq_some_iff.1 hv).1
 rw[DC,if_pos (by simp[AK];omega),At hv]
 simp only[Option.bind_some]
 rw[AK,A3 (n:=(i:Int) + 1) (by omega) (by omega),A3 (n:=(i:Int) - 1) (by omega) (by omega),show ((i:Int) + 1)=((i+1:Nat):Int) by omega]
 unfold KK
 by_cases h0:0≤v
 ·have h0':¬ v < 0:=by omega
  by_cases h1:v < (c.params.length:Int)
  ·have h1':¬ (c.params.length:Int)≤v:=by omega
   obtain⟨d,e1,e2⟩:=Nf h0 h1
   rw[e1,e2]
   by_cases hi0:0 < i
   ·obtain⟨x,g1,g2⟩:=aZ hi0 hi
    rw[g1,g2]
    by_cases hc:d=0 <;> by_cases hx:v≤x <;> simp[h0,h0',h1,h1',hc,hi0,hx]
   ·by_cases hc:d=0 <;> simp[h0,h0',h1,h1',hc,hi0]
  ·have h1':(c.params.length:Int)≤v:=by omega
   simp[h0,h0',h1,h1']
 ·have h0':v < 0:=by omega
  simp[h0,h0']
def L9 (D:List Ab) (ps:List Int) (r:Int):Bool:=decide (ps.length≤3) && (ps.all (C1 D) && C1 D r)
theorem Rs {p:AN} (hf:p.funcs.length≤1048576) (hp :∀f∈p.funcs,f.params.length≤1048576) {N:Nat} (hN:2000000≤N):C7 N p N 0=some (if (p.funcs.all fun f=>L9 p.decls f.params f.result)=true then .inr () else .inl false):=by
 rw[← Dn _ 0]
 refine Cg (l:=p.funcs) (C7 N p) (fun _ f=>L9 p.decls f.params f.result) (fun n=>by rw[C7,if_neg (by simp[AK])]) (fun n i f hi=>?_) (by omega)
 have hi':=(List.getElem?_eq_some_iff.1 hi).1
 have hpf:=hp f (List.mem_of_getElem? hi)
 rw[C7,if_pos (by simp[AK];omega),At hi]
 simp only[Option.bind_some]
 rw[LU hpf (by omega),Le,A3 (by omega) (by omega),show ((i:Int) + 1)=((i+1:Nat):Int) by omega]
 unfold L9
 simp only[AK]
 by_cases h3:f.params.length≤3
 ·have e3:¬ (3:Int) < (f.params.length:Int):=by omega
  generalize f.params.all (C1 p.decls)=z
  cases z <;> cases C1 p.decls f.result <;> simp[h3,e3]
 ·have e3:(3:Int) < (f.params.length:Int):=by omega
  simp[h3,e3]
theorem R9 {D:List Ab} {l:List BI} (hf:l.length≤1048576) (hp :∀f∈l,f.params.length≤1048576∧f.E4.length≤1048576) {N:Nat} (hN:2000000≤N):C6 N D l N 0=some (if (l.all fun f=>L9 D f.params f.result && ER (KK f.params f.E4) 0 f.E4)=true then .inr () else .inl false):=by
 rw[← Dn _ 0]
 refine Cg (l:=l) (C6 N D l) (fun _ f=>L9 D f.params f.result && ER (KK f.params f.E4) 0 f.E4) (fun n=>by rw[C6,if_neg (by simp[AK])]) (fun n i f hi=>?_) (by omega)
 have hi':=(List.getElem?_eq_some_iff.1 hi).1
 have hpf:=hp f (List.mem_of_getElem? hi)
 rw[C6,if_pos (by simp[AK];omega),At hi]
 simp only[Option.bind_some]
 rw[JI hpf.1 (by omega),IW,VJ hpf.1 hpf.2 hN,De,A3 (by omega) (by omega),show ((i:Int) + 1)=((i+1:Nat):Int) by omega]
 unfold L9
 simp only[AK]
 generalize ER (KK f.params f.E4) 0 f.E4=y
 by_cases h3:f.params.length≤3
 ·have e3:¬ (3:Int) < (f.params.length:Int):=by omega
  generalize f.params.all (C1 D)=z
  cases z <;> cases C1 D f.result <;> cases y <;> simp[h3,e3]
 ·have e3:(3:Int) < (f.params.length:Int):=by omega
  simp[h3,e3]
end RC
namespace RC
open Go
def WC (D:List (List Int×Int)):Bool:=match D with | []=>false | (ps,r) :: _=>decide (ps.length=0) && decide (r=0)
def Mh (D:List Ab) (l:List (List Int×Int)):Bool:=LZ D && ((decide (1≤l.length) && decide (l.length≤4)) && (l.all (fun s=>L9 D s.1 s.2) && WC l))
theorem Px {p:AN} (hD:OY p.decls) (hf:p.funcs.length≤1048576) (hp :∀f∈p.funcs,f.params.length≤1048576) {N:Nat} (hN:2000000≤N):GC N p=some (Mh p.decls (p.funcs.map fun f=>(f.params,f.result))):=by
 unfold GC Mh
 rw[Om hD hN,Rs hf hp hN,De,C3]
 simp only[Option.bind_some,List.length_map,List.all_map,Function.comp_def]
 cases LZ p.decls with
 | false=>simp
 | true=>
  cases hl:p.funcs with
  | nil=>simp[AK]
  | cons f r=>
   have e0:Sh.get (f :: r) 0=some f:=rfl
   rw[e0]
   generalize (f :: r).all (fun f=>L9 p.decls f.params f.result)=z
   simp only[List.map_cons,WC]
   have q1:decide ((1:Int)≤Sh.len (f :: r))=true:=decide_eq_true (by rw[AK,List.length_cons];omega)
   have q2:decide (1≤(f :: r).length)=true:=by simp
   have q3:decide (Sh.len (f :: r)≤4)=decide ((f :: r).length≤4):=decide_eq_decide.2 (by rw[AK];omega)
   have q4:decide (Sh.len f.params=0)=decide (f.params.length=0):=decide_eq_decide.2 (by rw[AK];omega)
   simp only[q1,q2,q3,q4,Option.bind_some]
   cases decide ((f :: r).length≤4) <;> cases z <;> by_cases a1:f.params.length=0 <;> by_cases a2:f.result=0 <;> simp[a1,a2]
theorem PS {D:List Ab} {l:List BI} (hD:OY D) (hf:l.length≤1048576) (hp :∀f∈l,f.params.length≤1048576∧f.E4.length≤1048576) {N:Nat} (hN:2000000≤N) :
  G2 N D l=some (Mh D (l.map fun f=>(f.params,f.result)) && l.all (fun f=>ER (KK f.params f.E4) 0 f.E4)):=by
 unfold G2 Mh
 rw[Of hD hN,R9 hf hp hN,De]
 have hsplit:(l.all fun f=>L9 D f.params f.result && ER (KK f.params f.E4) 0 f.E4)=((l.all fun f=>L9 D f.params f.result) && (l.all fun f=>ER (KK f.params f.E4) 0 f.E4)):=by
  clear hf hp
  induction l with
  | nil=>rfl
  | cons f r ih=>
   simp only[List.all_cons,ih]
   cases L9 D f.params f.result <;> cases ER (KK f.params f.E4) 0 f.E4 <;> simp
 rw[hsplit]
 simp only[Option.bind_some,List.length_map,List.all_map,Function.comp_def]
 cases LZ D with
 | false=>simp
 | true=>
  cases hl:l with
  | nil=>simp[AK]
  | cons f r=>
   have e0:Sh.get (f :: r) 0=some f:=rfl
   rw[e0]
   generalize (f :: r).all (fun f=>L9 D f.params f.result)=z
   generalize (f :: r).all (fun f=>ER (KK f.params f.E4) 0 f.E4)=y
   simp only[List.map_cons,WC]
   have q1:decide (Sh.len (f :: r) < 1)=false:=decide_eq_false (by rw[AK,List.length_cons];omega)
   have q2:decide (1≤(f :: r).length)=true:=by simp
   have q3:decide ((4:Int) < Sh.len (f :: r))=!decide ((f :: r).length≤4):=by rw[← decide_not];exact decide_eq_decide.2 (by rw[AK];omega)
   have q4:decide ((0:Int) < Sh.len f.params)=!decide (f.params.length=0):=by rw[← decide_not];exact decide_eq_decide.2 (by rw[AK];omega)
   simp only[q1,q2,q3,q4,Option.bind_some]
   cases decide ((f :: r).length≤4) <;> cases z <;> cases y <;> by_cases a1:f.params.length=0 <;> by_cases a2:f.result=0 <;> simp[a1,a2]
end RC



namespace RC
open Go
def nc (D:List Ab):Nat:=(D.map (·.cons.length)).sum
theorem LJ {D:List Ab} {i:Nat} {d:Ab} (h:D[i]?=some d):nc (D.take (i+1))=nc (D.take i) + d.cons.length:=by
 rw[B8 h];simp[nc]
theorem Qa {D:List Ab} {i:Nat} {d:Ab} (h:D[i]?=some d):nc (D.drop i)=d.cons.length+nc (D.drop (i+1)):=by
 rw[drop_cons h];simp[nc]
theorem Gf (D:List Ab) (i:Nat):nc D=nc (D.take i) + nc (D.drop i):=by
 unfold nc
 rw[← List.sum_append_nat,← List.map_append,List.take_append_drop]
theorem HV {D:List Ab} (hD:D.length≤1048576) (hn:nc D≤1048576) {i:Nat} (hi:i≤D.length) {N:Nat} (hN:2000000≤N):Fu N D i=some (nc (D.take i):Int):=by
 unfold Fu
 have key :∀{N j:Nat},j≤i→i - j < N→DW D i N (nc (D.take j)) j=some (nc (D.take i):Int):=by
  intro N j hj hN
  refine BO i (fun N j=>DW D i N (nc (D.take j)) j=some (nc (D.take i):Int)) ?_ ?_ hj hN
  ·intro n;rw[DW,if_neg (by simp)]
  ·intro n j hj ih
   obtain⟨d,hd,_⟩:=BV (l:=D) (i:=j) (by omega)
   have hs:=Gf D (j+1)
   have ht:=LJ hd
   rw[DW,if_pos (by simp;omega),At hd]
   simp only[Option.bind_some]
   rw[AK,A3 (n:=(j:Int) + 1) (by omega) (by omega),A3 (by omega) (by omega),show ((nc (D.take j):Int) + (d.cons.length:Int))=((nc (D.take (j+1)):Nat):Int) by omega,show ((j:Int) + 1)=((j+1:Nat):Int) by omega]
   exact ih
 have:=key (Nat.zero_le _) (by omega:i - 0 < N)
 rw[show (((nc (D.take 0):Nat):Int))=0 from rfl,show (((0:Nat):Int))=0 from rfl] at this
 rw[this];rfl
theorem Qe {D:List Ab} (hD:D.length≤1048576) (hn:nc D≤1048576) {N:Nat} (hN:2000000≤N):Hi N D=some (nc D:Int):=by
 unfold Hi
 have key :∀{N j:Nat},j≤D.length→D.length - j < N→DV D N (nc (D.take j)) j=some (nc D:Int):=by
  intro N j hj hN
  refine BO D.length (fun N j=>DV D N (nc (D.take j)) j=some (nc D:Int)) ?_ ?_ hj hN
  ·intro n;rw[DV,if_neg (by simp[AK]),List.take_length]
  ·intro n j hj ih
   obtain⟨d,hd,_⟩:=BV hj
   have hs:=Gf D (j+1)
   have ht:=LJ hd
   rw[DV,if_pos (by simp[AK];omega),At hd]
   simp only[Option.bind_some]
   rw[AK,A3 (n:=(j:Int) + 1) (by omega) (by omega),A3 (by omega) (by omega),show ((nc (D.take j):Int) + (d.cons.length:Int))=((nc (D.take (j+1)):Nat):Int) by omega,show ((j:Int) + 1)=((j+1:Nat):Int) by omega]
   exact ih
 have:=key (Nat.zero_le _) (by omega:D.length - 0 < N)
 rw[show (((nc (D.take 0):Nat):Int))=0 from rfl,show (((0:Nat):Int))=0 from rfl] at this
 rw[this];rfl
def KW:List Ab→Nat→Nat→Option (Nat×BP)
 | [],_,_=>none
 | d :: r,k,c=>match d.cons[c]? with
  | some x=>some (k+1,x)
  | none=>KW r (k+1) (c - d.cons.length)
theorem OE {D:List Ab} (hD:D.length≤1048576) (hn:nc D≤1048576) {c:Nat} (hc:c < nc D) {N:Nat} (hN:2000000≤N) :∃t x,KW D 0 c=some (t,x)∧Gk N D c=some ((t:Int),x):=by
 have key :∀(m j N c:Nat),D.length - j=m→j≤D.length→m < N→c < nc (D.drop j)→∃t x,KW (D.drop j) j c=some (t,x)∧EP D N c j=some (.inl ((t:Int),x)):=by
  intro m
  induction m with
  | zero=>
   intro j N c h1 h2 _ h3
   rw[List.drop_eq_nil_of_le (by omega)] at h3;simp[nc] at h3
  | succ m ih=>
   intro j N c h1 h2 h3 h4
   obtain⟨N,rfl⟩ :∃n,N=n+1:=⟨N - 1,by omega⟩
   obtain⟨d,hd,_⟩:=BV (l:=D) (i:=j) (by omega)
   have hs:=Gf D j
   rw[Qa hd] at h4 hs
   rw[drop_cons hd]
   unfold KW
   rw[EP,if_pos (by simp[AK];omega),At hd]
   simp only[Option.bind_some]
   rw[if_pos (by simp),AK,A3 (n:=(j:Int) + 1) (by omega) (by omega),A3 (by omega) (by omega)]
   cases hx:d.cons[c]? with
   | some x=>
    have hlt:=(List.getElem?_eq_some_iff.1 hx).1
    refine⟨j+1,x,rfl,?_⟩
    have e:((c:Int) < (d.cons.length:Int)):=by omega
    simp[e,At hx]
   | none=>
    have hle:d.cons.length≤c:=by simpa using hx
    obtain⟨t,x,g1,g2⟩:=ih (j+1) N (c - d.cons.length) (by omega) (by omega) (by omega) (by omega)
    refine⟨t,x,g1,?_⟩
    have e:¬ ((c:Int) < (d.cons.length:Int)):=by omega
    rw[← g2,show ((c:Int) - (d.cons.length:Int))=((c - d.cons.length:Nat):Int) by omega,show ((j:Int) + 1)=((j+1:Nat):Int) by omega]
    simp[e]
 obtain⟨t,x,g1,g2⟩:=key D.length 0 N c (by omega) (by omega) (by omega) (by simpa using hc)
 refine⟨t,x,by simpa using g1,?_⟩
 unfold Gk
 rw[show (((0:Nat):Int))=0 from rfl] at g2
 rw[g2];rfl
end RC
namespace RC
open Go
theorem ML {D:List Ab} (hD:D.length≤1048576) (hn:nc D≤1048576) {c:Nat} (hc:c < nc D) {N:Nat} (hN:2000000≤N) :∃t x,KW D 0 c=some (t,x)∧FI N D c=some (t:Int):=by
 have key :∀(m j M c:Nat),D.length - j=m→j≤D.length→m < M→c < nc (D.drop j)→∃t x,KW (D.drop j) j c=some (t,x)∧Ct N D ((nc (D.take j) + c:Nat):Int) M j=some (.inl (t:Int)):=by
  intro m
  induction m with
  | zero=>
   intro j M c h1 h2 _ h3
   rw[List.drop_eq_nil_of_le (by omega)] at h3;simp[nc] at h3
  | succ m ih=>
   intro j M c h1 h2 h3 h4
   obtain⟨M,rfl⟩ :∃n,M=n+1:=⟨M - 1,by omega⟩
   obtain⟨d,hd,_⟩:=BV (l:=D) (i:=j) (by omega)
   have hs:=Gf D j
   rw[Qa hd] at h4 hs
   have ht:=LJ hd
   rw[drop_cons hd]
   unfold KW
   rw[Ct,if_pos (by simp[AK];omega),HV hD hn (by omega) hN,At hd]
   simp only[Option.bind_some]
   rw[AK,A3 (n:=(j:Int) + 1) (by omega) (by omega),A3 (n:=(nc (D.take j):Int) + (d.cons.length:Int)) (by omega) (by omega),A3 (by omega) (by omega),C3]
   simp only[Option.bind_some]
   cases hx:d.cons[c]? with
   | some x=>
    have hlt:=(List.getElem?_eq_some_iff.1 hx).1
    refine⟨j+1,x,rfl,?_⟩
    rw[if_pos (by simp;omega)]
    rfl
   | none=>
    have hle:d.cons.length≤c:=by simpa using hx
    obtain⟨t,x,g1,g2⟩:=ih (j+1) M (c - d.cons.length) (by omega) (by omega) (by omega) (by omega)
    refine⟨t,x,g1,?_⟩
    rw[if_neg (by simp;omega),← g2,show nc (D.take j) + c=nc (D.take (j+1)) + (c - d.cons.length) by omega]
    rfl
 obtain⟨t,x,g1,g2⟩:=key D.length 0 N c (by omega) (by omega) (by omega) (by simpa using hc)
 refine⟨t,x,by simpa using g1,?_⟩
 unfold FI
 rw[show nc (D.take 0) + c=c by simp[nc],show (((0:Nat):Int))=0 from rfl] at g2
 rw[g2];rfl
theorem Q0 {D:List Ab} (hD:D.length≤1048576) (hn:nc D≤1048576) {c:Int} (hc:c < 0∨(nc D:Int)≤c) {N:Nat} (hN:2000000≤N):FI N D c=some (-1):=by
 unfold FI
 have key :∀{M j:Nat},j≤D.length→D.length - j < M→Ct N D c M j=some (.inr ()):=by
  intro M j hj hM
  refine BO D.length (fun M j=>Ct N D c M j=some (.inr ())) ?_ ?_ hj hM
  ·intro n;rw[Ct,if_neg (by simp[AK])]
  ·intro n j hj ih
   obtain⟨d,hd,_⟩:=BV hj
   have hs:=Gf D (j+1)
   have ht:=LJ hd
   rw[Ct,if_pos (by simp[AK];omega),HV hD hn (by omega) hN,At hd]
   simp only[Option.bind_some]
   rw[AK,A3 (n:=(j:Int) + 1) (by omega) (by omega),A3 (n:=(nc (D.take j):Int) + (d.cons.length:Int)) (by omega) (by omega),A3 (by omega) (by omega),C3]
   simp only[Option.bind_some]
   rw[if_neg (by simp;omega)]
   exact ih
 have:=key (Nat.zero_le _) (by omega:D.length - 0 < N)
 rw[show (((0:Nat):Int))=0 from rfl] at this
 rw[this];rfl
end RC
namespace RC
open Go
theorem Yx {D:List Ab} :∀(m j c t:Nat) (x:BP),D.length - j=m→j≤D.length→KW (D.drop j) j c=some (t,x)→∃d,1≤t∧D[t - 1]?=some d∧nc (D.take (t - 1))≤nc (D.take j) + c∧d.cons[nc (D.take j) + c - nc (D.take (t - 1))]?=some x:=by
 intro m
 induction m with
 | zero=>
  intro j c t x h1 h2 h
  rw[List.drop_eq_nil_of_le (by omega)] at h;simp[KW] at h
 | succ m ih=>
  intro j c t x h1 h2 h
  obtain⟨d,hd,_⟩:=BV (l:=D) (i:=j) (by omega)
  have ht:=LJ hd
  rw[drop_cons hd] at h
  unfold KW at h
  cases hx:d.cons[c]? with
  | some y=>
   rw[hx] at h
   simp only[Option.some.injEq,Prod.mk.injEq] at h
   obtain⟨rfl,rfl⟩:=h
   exact⟨d,by omega,by simpa using hd,by simp,by simpa using hx⟩
  | none=>
   rw[hx] at h
   have hle:d.cons.length≤c:=by simpa using hx
   obtain⟨e,g1,g2,g3,g4⟩:=ih (j+1) (c - d.cons.length) t x (by omega) (by omega) h
   rw[show nc (D.take (j+1)) + (c - d.cons.length)=nc (D.take j) + c by omega] at g3 g4
   exact⟨e,g1,g2,g3,g4⟩
theorem LI {D:List Ab} (hD:D.length≤1048576) (hn:nc D≤1048576) {c:Nat} (hc:c < nc D) {N:Nat} (hN:2000000≤N) :∃t x,KW D 0 c=some (t,x)∧CP N D c=some x.fields:=by
 obtain⟨t,x,e1,e2⟩:=ML hD hn hc hN
 obtain⟨d,g1,g2,g3,g4⟩:=Yx (D:=D) D.length 0 c t x (by omega) (by omega) (by simpa using e1)
 have hlt:=(List.getElem?_eq_some_iff.1 g2).1
 have hs:=Gf D (t - 1)
 rw[show nc (D.take 0) + c=c by simp[nc]] at g3 g4
 refine⟨t,x,e1,?_⟩
 unfold CP
 rw[e2]
 simp only[Option.bind_some]
 rw[if_neg (by simp;omega),A3 (n:=(t:Int) - 1) (by omega) (by omega),show ((t:Int) - 1)=((t - 1:Nat):Int) by omega,At g2,HV hD hn (by omega) hN]
 simp only[Option.bind_some]
 rw[A3 (by omega) (by omega),show ((c:Int) - (nc (D.take (t - 1)):Int))=((c - nc (D.take (t - 1)):Nat):Int) by omega,At g4]
 rfl
theorem RE {D:List Ab} (hD:D.length≤1048576) (hn:nc D≤1048576) {c:Nat} (hc:c < nc D) {N:Nat} (hN:2000000≤N) :∃t x,KW D 0 c=some (t,x)∧DK N D c=some x.fields:=by
 obtain⟨t,x,e1,e2⟩:=OE hD hn hc hN
 exact⟨t,x,e1,by unfold DK;rw[e2];rfl⟩
end RC
namespace RC
open Go
def Db (D:List Ab) (t:Int):List Int:=
 if 1≤t∧t≤(D.length:Int) then (List.range ((D[(t - 1).toNat]?).elim 0 (·.cons.length))).map fun (i:Nat)=>(nc (D.take (t - 1).toNat):Int) + (i:Int) else []
theorem SM {f:Nat→Int} {i:Nat}:(List.range (i+1)).map f=(List.range i).map f ++ [f i]:=by rw[List.range_succ,List.map_append];rfl
theorem NA {D:List Ab} (hD:D.length≤1048576) (hn:nc D≤1048576) {t:Int} {N:Nat} (hN:2000000≤N):Ho N D t=some (Db D t):=by
 unfold Ho Db
 rw[C3,AK]
 simp only[Option.bind_some]
 by_cases h:1≤t∧t≤(D.length:Int)
 ·obtain⟨a,ha⟩ :∃a:Nat,t=(a:Int) + 1:=⟨(t - 1).toNat,by omega⟩
  subst ha
  obtain⟨d,hd,_⟩:=BV (l:=D) (i:=a) (by omega)
  have hs:=Gf D (a+1)
  have ht:=LJ hd
  rw[if_neg (by simp;omega),if_pos h,show (((a:Int) + 1) - 1).toNat=a by omega,hd]
  simp only[Option.elim_some]
  have key :∀{M i:Nat},i≤d.cons.length→d.cons.length - i < M→EZ N D ((a:Int) + 1) M i ((List.range i).map fun (i:Nat)=>(nc (D.take a):Int) + (i:Int))=some ((List.range d.cons.length).map fun (i:Nat)=>(nc (D.take a):Int) + (i:Int)):=by
   intro M i hi hM
   refine BO d.cons.length (fun M i=>EZ N D ((a:Int) + 1) M i ((List.range i).map fun (i:Nat)=>(nc (D.take a):Int) + (i:Int))=some ((List.range d.cons.length).map fun (i:Nat)=>(nc (D.take a):Int) + (i:Int))) ?_ ?_ hi hM
   ·intro n
    rw[EZ,A3 (by omega) (by omega),show ((a:Int) + 1 - 1)=((a:Nat):Int) by omega,At hd]
    simp only[Option.bind_some]
    rw[if_neg (by simp[AK])]
   ·intro n i hi ih
    rw[EZ,A3 (n:=(a:Int) + 1 - 1) (by omega) (by omega),show ((a:Int) + 1 - 1)=((a:Nat):Int) by omega,At hd]
    simp only[Option.bind_some]
    rw[if_pos (by simp[AK];omega),HV hD hn (by omega) hN]
    simp only[Option.bind_some]
    rw[CL _ _ _ (by simp;omega) (by simp;omega),A3 (n:=(i:Int) + 1) (by omega) (by omega),A3 (by omega) (by omega),show ((i:Int) + 1)=((i+1:Nat):Int) by omega]
    simp only[Option.bind_some]
    rw[← ih,SM]
  have:=key (Nat.zero_le _) (by omega:d.cons.length - 0 < N)
  rw[show (((0:Nat):Int))=0 from rfl,List.range_zero,List.map_nil] at this
  rw[this];rfl
 ·rw[if_pos (by simp;omega),if_neg h]
theorem G3 {D:List Ab} (hD:D.length≤1048576) (hn:nc D≤1048576) {t:Int} {N:Nat} (hN:2000000≤N):Gt N D t=some (Db D t):=by
 unfold Gt Db
 rw[AK]
 by_cases h:1≤t∧t≤(D.length:Int)
 ·obtain⟨a,ha⟩ :∃a:Nat,t=(a:Int) + 1:=⟨(t - 1).toNat,by omega⟩
  subst ha
  obtain⟨d,hd,_⟩:=BV (l:=D) (i:=a) (by omega)
  have hs:=Gf D (a+1)
  have hs0:=Gf D a
  have ht:=LJ hd
  have e1:¬ ((a:Int) + 1 < 1):=by omega
  have e2:¬ ((D.length:Int) < (a:Int) + 1):=by omega
  rw[if_pos h,show (((a:Int) + 1) - 1).toNat=a by omega,hd,A3 (by omega) (by omega),show ((a:Int) + 1 - 1)=((a:Nat):Int) by omega,Xd (by omega) (by omega),At hd]
  simp only[Option.elim_some,e1,e2,decide_false,Bool.false_eq_true,if_false,Option.bind_some]
  rw[Qe (by simp;omega) (by omega) hN]
  simp only[Option.bind_some]
  have key :∀{M i:Nat},i≤d.cons.length→d.cons.length - i < M→ES d (nc (D.take a):Int) M i ((List.range i).map fun (i:Nat)=>(nc (D.take a):Int) + (i:Int))=some ((List.range d.cons.length).map fun (i:Nat)=>(nc (D.take a):Int) + (i:Int)):=by
   intro M i hi hM
   refine BO d.cons.length (fun M i=>ES d (nc (D.take a):Int) M i ((List.range i).map fun (i:Nat)=>(nc (D.take a):Int) + (i:Int))=some ((List.range d.cons.length).map fun (i:Nat)=>(nc (D.take a):Int) + (i:Int))) ?_ ?_ hi hM
   ·intro n;rw[ES,if_neg (by simp[AK])]
   ·intro n i hi ih
    rw[ES,if_pos (by simp[AK];omega)]
    rw[CL _ _ _ (by simp;omega) (by simp;omega),A3 (n:=(i:Int) + 1) (by omega) (by omega),A3 (by omega) (by omega),show ((i:Int) + 1)=((i+1:Nat):Int) by omega]
    simp only[Option.bind_some]
    rw[← ih,SM]
  have:=key (Nat.zero_le _) (by omega:d.cons.length - 0 < N)
  rw[show (((0:Nat):Int))=0 from rfl,List.range_zero,List.map_nil] at this
  rw[this];rfl
 ·rw[if_neg h]
  by_cases e1:t < 1
  ·simp[e1]
  ·have e2:(D.length:Int) < t:=by omega
   simp[e1,e2]
end RC



namespace RC
open Go
theorem Uk {α:Type} {l:List α} (f:α→Nat) (L:Nat→Int→Int→Option (Int ⊕ Int)) (h0 :∀n left,L (n+1) left (l.length:Int)=some (.inr left))
  (hs :∀n (i:Nat) x left,l[i]?=some x→0≤left→left≤1048576→L (n+1) left (i:Int)=if left - (f x:Int) < 0 then some (.inl (-1)) else L n (left - (f x:Int)) ((i+1:Nat):Int))
  {N:Nat} (hN:l.length < N) {left:Int} (hl0:0≤left) (hl1:left≤1048576):L N left 0=some (if left - ((l.map f).sum:Nat) < 0 then .inl (-1) else .inr (left - ((l.map f).sum:Nat))):=by
 have key :∀{N i:Nat},i≤l.length→l.length - i < N→∀left:Int,0≤left→left≤1048576→L N left (i:Int)=some (if left - (((l.drop i).map f).sum:Nat) < 0 then .inl (-1) else .inr (left - (((l.drop i).map f).sum:Nat))):=by
  intro N i hi hN
  refine BO l.length (fun N i=>∀left:Int,0≤left→left≤1048576→L N left (i:Int)=some (if left - (((l.drop i).map f).sum:Nat) < 0 then .inl (-1) else .inr (left - (((l.drop i).map f).sum:Nat)))) ?_ ?_ hi hN
  ·intro n left a b
   rw[h0,List.drop_length]
   simp
   omega
  ·intro n i hi ih left a b
   obtain⟨x,hx,_⟩:=BV hi
   rw[hs n i x left hx a b,drop_cons hx,List.map_cons,List.sum_cons]
   by_cases h:left - (f x:Int) < 0
   ·rw[if_pos h,if_pos (by omega)]
   ·rw[if_neg h,ih (left - (f x:Int)) (by omega) (by omega)]
    rw[show left - ((f x+(List.map f (l.drop (i+1))).sum:Nat):Int)=left - (f x:Int) - ((List.map f (l.drop (i+1))).sum:Nat) by omega]
 have:=key (Nat.zero_le _) (by omega:l.length - 0 < N) left hl0 hl1
 simpa using this
theorem Q2 {α:Type} {l:List α} (L:Nat→Int→List α→Option (List α)) (h0 :∀n m,L (n+1) (l.length:Int) m=some m)
  (hs :∀n (i:Nat) x m,l[i]?=some x→m.length=l.length→L (n+1) (i:Int) m=L n ((i+1:Nat):Int) (m.set i x)) {N:Nat} (hN:l.length < N) {m:List α} (hm:m.length=l.length):L N 0 m=some l:=by
 have key :∀{N i:Nat},i≤l.length→l.length - i < N→∀m:List α,m.length=l.length→m.take i=l.take i→L N (i:Int) m=some l:=by
  intro N i hi hN
  refine BO l.length (fun N i=>∀m:List α,m.length=l.length→m.take i=l.take i→L N (i:Int) m=some l) ?_ ?_ hi hN
  ·intro n m a b
   rw[h0]
   rw[List.take_length,← a,List.take_length] at b
   rw[b]
  ·intro n i hi ih m a b
   obtain⟨x,hx,_⟩:=BV hi
   rw[hs n i x m hx a]
   refine ih (m.set i x) (by simp[a]) ?_
   have hi':(m.set i x)[i]?=some x:=by rw[List.getElem?_set_self (by omega)]
   rw[B8 hi',B8 hx,← b,List.take_set_of_le (Nat.le_refl _)]
 exact key (Nat.zero_le _) (by omega:l.length - 0 < N) m hm rfl
end RC



namespace RC
open Go
def Ow (left:Int) (s:Nat):Int:=if left - s < 0 then -1 else left - s
theorem Cr {left:Int} {s:Nat} (h:left - s < 0):Ow left s=-1:=if_pos h
theorem Eo {left:Int} {s:Nat} (h:¬ left - s < 0):Ow left s=left - s:=if_neg h
def cz (c:BP):Nat:=c.fields.length
def dz (d:Ab):Nat:=d.cons.length+(d.cons.map cz).sum
theorem aW {c:BP} (hc:QP c) {left:Int} (h0:0≤left) (h1:left≤1048576):J7 c left=some (Ow left (cz c)):=by
 unfold J7
 rw[T4 h0 h1 hc.fields.2]
 unfold Ow cz
 by_cases h:left - (c.fields.length:Int) < 0
 ·rw[if_pos h];rfl
 ·rw[if_neg h];simp[h]
theorem YH {l:List BP} (hl:Es QP l) {left:Int} (h0:0≤left) (h1:left≤1048576) {N:Nat} (hN:2000000≤N):JL N l left=some (Ow left (l.length+(l.map cz).sum)):=by
 unfold JL
 have hlen:=hl.2
 rw[AK,A3 (by omega) (by omega)]
 by_cases h:left - (l.length:Int) < 0
 ·rw[if_pos (by simpa using h),Cr (by omega)]
 ·rw[if_neg (by simpa using h),Uk (l:=l) cz (Ey l) (fun n left=>by rw[Ey,if_neg (by simp[AK])]) (fun n i x left hx a b=>?_) (by omega) (by omega) (by omega)]
  ·by_cases g:left - (l.length:Int) - ((l.map cz).sum:Nat) < 0
   ·rw[if_pos g,Cr (by omega)];rfl
   ·rw[if_neg g,Eo (by omega)]
    show some _=some _
    congr 1;omega
  ·have hi:=(List.getElem?_eq_some_iff.1 hx).1
   rw[Ey,if_pos (by simp[AK];omega),At hx]
   simp only[Option.bind_some]
   rw[aW (hl.1 x (List.mem_of_getElem? hx)) a b,A3 (by omega) (by omega),show ((i:Int) + 1)=((i+1:Nat):Int) by omega]
   simp only[Option.bind_some]
   by_cases g:left - (cz x:Int) < 0
   ·rw[if_pos g,Cr g];rfl
   ·rw[if_neg g,Eo g,if_neg (by simpa using g)]
end RC
namespace RC
open Go
theorem X8 {d:Ab} (hd:Nb d) {left:Int} (h0:0≤left) (h1:left≤1048576) {N:Nat} (hN:2000000≤N):JQ N d left=some (Ow left (dz d)):=by
 unfold JQ
 rw[YH hd.cons h0 h1 hN]
 simp only[Option.bind_some]
 by_cases a:left - ((d.cons.length+(d.cons.map cz).sum:Nat):Int) < 0
 ·rw[Cr a,Cr (by unfold dz;omega)];rfl
 ·rw[Eo a,if_neg (by simpa using a),Eo (by unfold dz;omega)];rfl
theorem W9 {l:List Ab} (hl:Es Nb l) {left:Int} (h0:0≤left) (h1:left≤1048576) {N:Nat} (hN:2000000≤N):IN N l left=some (Ow left (l.length+(l.map dz).sum)):=by
 unfold IN
 have hlen:=hl.2
 rw[AK,A3 (by omega) (by omega)]
 by_cases h:left - (l.length:Int) < 0
 ·rw[if_pos (by simpa using h),Cr (by omega)]
 ·rw[if_neg (by simpa using h),Uk (l:=l) dz (Em N l) (fun n left=>by rw[Em,if_neg (by simp[AK])]) (fun n i x left hx a b=>?_) (by omega) (by omega) (by omega)]
  ·by_cases g:left - (l.length:Int) - ((l.map dz).sum:Nat) < 0
   ·rw[if_pos g,Cr (by omega)];rfl
   ·rw[if_neg g,Eo (by omega)]
    show some _=some _
    congr 1;omega
  ·have hi:=(List.getElem?_eq_some_iff.1 hx).1
   rw[Em,if_pos (by simp[AK];omega),At hx]
   simp only[Option.bind_some]
   rw[X8 (hl.1 x (List.mem_of_getElem? hx)) a b hN,A3 (by omega) (by omega),show ((i:Int) + 1)=((i+1:Nat):Int) by omega]
   simp only[Option.bind_some]
   by_cases g:left - (dz x:Int) < 0
   ·rw[if_pos g,Cr g];rfl
   ·rw[if_neg g,Eo g,if_neg (by simpa using g)]
end RC



namespace RC
open Go
end RC


namespace RC
open Go
end RC



namespace RC
open Go
section
variable {im : dI} {p : al} {at_ : Nat} {i : ZY} {N : Nat}
end
end RC



namespace RC
open Go
theorem Fx {α:Type} (f:α→Nat) {l:List α} {x:α} (h:x∈l):f x≤(l.map f).sum:=by
 induction l with
 | nil=>cases h
 | cons y r ih=>
  rw[List.map_cons,List.sum_cons]
  rcases List.mem_cons.1 h with rfl | h
  ·omega
  ·have:=ih h;omega
theorem aQ {c:BP} (h:cz c≤1048576) {N:Nat} (hN:2000000≤N):KA N c=some c:=by
 unfold cz at h
 unfold KA;rw[Tr h hN];rfl
theorem YF {l:List BP} (hl:l.length+(l.map cz).sum≤1048576) {N:Nat} (hN:2000000≤N):JR N l=some l:=by
 unfold JR
 rw[AK,Ie _ _ _ (by omega) (by omega)]
 simp only[Option.bind_some]
 rw[Q2 (l:=l) (E2 N l) (fun n m=>by rw[E2,if_neg (by simp[AK])]) (fun n i x m hx hm=>?_) (by omega) (by simp)]
 ·rfl
 ·have hi:=(List.getElem?_eq_some_iff.1 hx).1
  have hz:=Fx cz (List.mem_of_getElem? hx)
  obtain⟨y,hy,_⟩:=BV (l:=m) (i:=i) (by omega)
  rw[E2,if_pos (by simp[AK];omega),At hx]
  simp only[Option.bind_some]
  rw[aQ (by omega) hN,At hy]
  simp only[Option.bind_some]
  rw[Hm,A3 (by omega) (by omega),show ((i:Int) + 1)=((i+1:Nat):Int) by omega]
theorem Yi {d:Ab} (h:dz d≤1048576) {N:Nat} (hN:2000000≤N):JM N d=some d:=by
 unfold dz at h
 unfold JM;rw[YF h hN];rfl
theorem Xf {l:List Ab} (hl:l.length+(l.map dz).sum≤1048576) {N:Nat} (hN:2000000≤N):ID N l=some l:=by
 unfold ID
 rw[AK,Ie _ _ _ (by omega) (by omega)]
 simp only[Option.bind_some]
 rw[Q2 (l:=l) (Ec N l) (fun n m=>by rw[Ec,if_neg (by simp[AK])]) (fun n i x m hx hm=>?_) (by omega) (by simp)]
 ·rfl
 ·have hi:=(List.getElem?_eq_some_iff.1 hx).1
  have hz:=Fx dz (List.mem_of_getElem? hx)
  obtain⟨y,hy,_⟩:=BV (l:=m) (i:=i) (by omega)
  rw[Ec,if_pos (by simp[AK];omega),At hx]
  simp only[Option.bind_some]
  rw[Yi (by omega) hN,At hy]
  simp only[Option.bind_some]
  rw[Hm,A3 (by omega) (by omega),show ((i:Int) + 1)=((i+1:Nat):Int) by omega]
end RC



namespace RC
open Go
theorem Zl {c:BP} (h:cz c≤1048576) {N:Nat} (hN:2000000≤N):KF N c c=some true:=by
 unfold cz at h
 unfold KF;rw[Tt h hN];rfl
theorem YT {l:List BP} (hl:l.length+(l.map cz).sum≤1048576) {N:Nat} (hN:2000000≤N):I9 N l l=some true:=by
 unfold I9
 have L:=Cg (l:=l) (Ez N l l) (fun _ _=>true) (fun n=>by rw[Ez,if_neg (by simp[AK])]) (fun n i x hx=>?_) (by omega:l.length < N)
 ·rw[Dn (p:=fun _=>true)] at L
  simp[L,Sh.cont]
 ·have hi:=(List.getElem?_eq_some_iff.1 hx).1
  have hz:=Fx cz (List.mem_of_getElem? hx)
  rw[Ez,if_pos (by simp[AK];omega),At hx]
  simp only[Option.bind_some]
  rw[Zl (by omega) hN,A3 (by omega) (by omega),show ((i:Int) + 1)=((i+1:Nat):Int) by omega]
  rfl
theorem YX {d:Ab} (h:dz d≤1048576) {N:Nat} (hN:2000000≤N):Iy N d d=some true:=by
 unfold dz at h
 unfold Iy;rw[YT h hN];simp
theorem XD {l:List Ab} (hl:l.length+(l.map dz).sum≤1048576) {N:Nat} (hN:2000000≤N):IP N l l=some true:=by
 unfold IP
 have L:=Cg (l:=l) (Eh N l l) (fun _ _=>true) (fun n=>by rw[Eh,if_neg (by simp[AK])]) (fun n i x hx=>?_) (by omega:l.length < N)
 ·rw[Dn (p:=fun _=>true)] at L
  simp[L,Sh.cont]
 ·have hi:=(List.getElem?_eq_some_iff.1 hx).1
  have hz:=Fx dz (List.mem_of_getElem? hx)
  rw[Eh,if_pos (by simp[AK];omega),At hx]
  simp only[Option.bind_some]
  rw[YX (by omega) hN,A3 (by omega) (by omega),show ((i:Int) + 1)=((i+1:Nat):Int) by omega]
  rfl
end RC



namespace RC
open Go
end RC



namespace RC
open Go
mutual
def en:AD→Nat | .mk _ _ k=>1+Cn k
def Cn:List AD→Nat | []=>0 | e :: l=>en e+Cn l
end
theorem FG (e:AD):en e=1+Cn e.kids:=by cases e;simp[en,AD.kids]
theorem RP {k:List AD} {i:Nat} {e:AD} (h:k[i]?=some e):Cn (k.drop i)=en e+Cn (k.drop (i+1)):=by rw[drop_cons h];simp[Cn]
theorem Gz (e:AD):1≤en e:=by rw[FG];omega
theorem HD {k:List AD} {e:AD} (h:e∈k):en e≤Cn k:=by
 induction k with
 | nil=>cases h
 | cons c k ih=>
  simp only[Cn]
  rcases List.mem_cons.1 h with rfl | h
  ·omega
  ·have:=ih h;omega
theorem Fh (k:List AD):k.length≤Cn k:=by
 induction k with
 | nil=>simp
 | cons c k ih=>have:=Gz c;simp only[Cn,List.length_cons];omega
theorem B7 {e k:AD} (h:k∈e.kids):en k < en e:=by have:=HD h;rw[FG e];omega
theorem TS {rec:AD→Int→Option Int} {k:List AD} {L:Int} (hL:L≤1048576) (hk:k.length≤1048576) (hrec :∀b∈k,∀left:Int,0≤left→left≤L→rec b left=some (Ow left (Cn b.kids))) {N i:Nat} (hi:i≤k.length) (hN:k.length - i < N) :
  ∀left:Int,0≤left→left≤L→D0 k rec N left i=some (if left+(k.length - i:Nat) - Cn (k.drop i) < 0 then Sum.inl (-1) else Sum.inr (left+(k.length - i:Nat) - Cn (k.drop i))):=by
 refine BO k.length (fun N i=>∀left:Int,0≤left→left≤L→D0 k rec N left i=some (if left+(k.length - i:Nat) - Cn (k.drop i) < 0 then Sum.inl (-1) else Sum.inr (left+(k.length - i:Nat) - Cn (k.drop i)))) ?_ ?_ hi hN
 ·intro n left h0 h1
  rw[D0,if_neg (by simp[AK])]
  simp[Cn];omega
 ·intro n i hi ih left h0 h1
  obtain⟨b,hb,hbm⟩:=BV hi
  have e1:=FG b
  have hle:=Fh (k.drop (i+1))
  rw[List.length_drop] at hle
  rw[D0,if_pos (by simp[AK];omega),At hb]
  simp only[Option.bind_some]
  rw[hrec b hbm left h0 h1,RP hb]
  simp only[Option.bind_some]
  by_cases h2:left - (Cn b.kids:Int) < 0
  ·rw[Cr h2,if_pos (by simp),if_pos (by omega)]
  ·rw[Eo h2,if_neg (by simpa using h2),A3 (by omega) (by omega),show ((i:Int) + 1)=((i+1:Nat):Int) by omega,ih (left - (Cn b.kids:Int)) (by omega) (by omega)]
   have e:left - (Cn b.kids:Int) + ((k.length - (i+1):Nat):Int) - (Cn (k.drop (i+1)):Int)=left+((k.length - i:Nat):Int) - ((en b+Cn (k.drop (i+1)):Nat):Int):=by omega
   rw[e]
theorem XK {N:Nat} (hN:2000000≤N) {rec:AD→Int→Option Int} {k:List AD} (hk:k.length≤9223372036854775807) {left:Int} (h0:0≤left) (h1:left≤1048576)
  (hrec :∀b∈k,∀l:Int,0≤l→l < left→rec b l=some (Ow l (Cn b.kids))):IK N rec k left=some (Ow left (Cn k)):=by
 unfold IK
 have hle:=Fh k
 rw[AK,A3 (by omega) (by omega)]
 by_cases h2:left - (k.length:Int) < 0
 ·rw[if_pos (by simpa using h2),Cr (by omega)]
 ·rw[if_neg (by simpa using h2)]
  have:=TS (L:=left - k.length) (by omega) (by omega) (fun b hb l l0 l1=>hrec b hb l l0 (by have:=List.length_pos_of_mem hb;omega)) (Nat.zero_le _) (by omega:k.length - 0 < N) (left - k.length) (by omega) (by omega)
  rw[show ((0:Nat):Int)=0 from rfl,List.drop_zero,Nat.sub_zero] at this
  rw[this,show left - (k.length:Int) + (k.length:Int) - (Cn k:Int)=left - (Cn k:Int) by omega]
  by_cases h3:left - (Cn k:Int) < 0
  ·rw[if_pos h3,Cr h3];rfl
  ·rw[if_neg h3,Eo h3];rfl
theorem WD {N:Nat} (hN:2000000≤N) :∀(n:Nat) (e:AD) (left:Int),Bn e→0≤left→left≤1048576→left < n→Gi N n e left=some (Ow left (Cn e.kids)):=by
 intro n
 induction n with
 | zero=>intro b left _ h0 _ h2;omega
 | succ n ih=>
  intro e left he h0 h1 h2
  rw[Gi]
  unfold JX
  rw[XK hN he.Il h0 h1 (fun b hb l l0 l1=>ih b l (he.kids b hb) l0 (by omega) (by omega))]
  simp only[Option.bind_some]
  by_cases h3:left - (Cn e.kids:Int) < 0
  ·rw[Cr h3];rfl
  ·rw[Eo h3,if_neg (by simpa using h3)]
theorem Yy {e:AD} (he:Bn e) {left:Int} (h0:0≤left) (h1:left≤1048576) {N:Nat} (hN:2000000≤N):Kb N e left=some (Ow left (Cn e.kids)):=by
 unfold Kb
 exact WD hN N e left he h0 h1 (by omega)
def JT (f:Ah):Nat:=f.params.length+Cn f.body.kids
def LN (p:AN):Nat:=(p.decls.length+(p.decls.map dz).sum) + (p.funcs.length+(p.funcs.map JT).sum)
theorem Yz {f:Ah} (hf:MI f) {left:Int} (h0:0≤left) (h1:left≤1048576) {N:Nat} (hN:2000000≤N):JK N f left=some (Ow left (JT f)):=by
 unfold JK JT
 rw[T4 h0 h1 hf.params.2]
 simp only[Option.bind_some]
 by_cases h:left - (f.params.length:Int) < 0
 ·rw[if_pos h,Cr (by omega)];rfl
 ·rw[if_neg h,if_neg (by simpa using h),Yy hf.body (by omega) (by omega) hN]
  simp only[Option.bind_some]
  by_cases h3:left - (f.params.length:Int) - (Cn f.body.kids:Int) < 0
  ·rw[Cr h3,Cr (by omega)];rfl
  ·rw[Eo h3,Eo (by omega),if_neg (by simpa using h3)]
   congr 1;omega
theorem XY {l:List Ah} (hl:Es MI l) {left:Int} (h0:0≤left) (h1:left≤1048576) {N:Nat} (hN:2000000≤N):IG N l left=some (Ow left (l.length+(l.map JT).sum)):=by
 have hlen:=hl.2
 unfold IG
 rw[AK,A3 (by omega) (by omega)]
 by_cases h2:left - (l.length:Int) < 0
 ·rw[if_pos (by simpa using h2),Cr (by omega)]
 ·rw[if_neg (by simpa using h2),Uk (l:=l) JT (Ef N l) (fun n l=>by rw[Ef,if_neg (by simp[AK])]) (fun n i x l' hx l0 l1=>?_) (by omega) (by omega) (by omega)]
  ·by_cases h3:left - (l.length:Int) - ((l.map JT).sum:Nat) < 0
   ·rw[if_pos h3,Cr (by omega)];rfl
   ·rw[if_neg h3,Eo (by omega)]
    simp only[Sh.Kl]
    congr 1;omega
  ·have hi:=(List.getElem?_eq_some_iff.1 hx).1
   rw[Ef,if_pos (by simp[AK];omega),At hx]
   simp only[Option.bind_some]
   rw[Yz (hl.1 x (List.mem_of_getElem? hx)) l0 l1 hN]
   simp only[Option.bind_some]
   by_cases h3:l' - (JT x:Int) < 0
   ·rw[Cr h3,if_pos h3];rfl
   ·rw[Eo h3,if_neg h3,if_neg (by simpa using h3),A3 (by omega) (by omega),show ((i:Int) + 1)=((i+1:Nat):Int) by omega]
theorem U4 {p:AN} (H:LX p) {left:Int} (h0:0≤left) (h1:left≤1048576) {N:Nat} (hN:2000000≤N):HA N p left=some (Ow left (LN p)):=by
 unfold HA LN
 rw[W9 H.decls h0 h1 hN]
 simp only[Option.bind_some]
 by_cases h:left - ((p.decls.length+(p.decls.map dz).sum:Nat):Int) < 0
 ·rw[Cr h,Cr (by omega)];rfl
 ·rw[Eo h,if_neg (by simpa using h),XY H.funcs (by omega) (by omega) hN]
  simp only[Option.bind_some]
  by_cases h3:left - ((p.decls.length+(p.decls.map dz).sum:Nat):Int) - ((p.funcs.length+(p.funcs.map JT).sum:Nat):Int) < 0
  ·rw[Cr h3,Cr (by omega)];rfl
  ·rw[Eo h3,Eo (by omega),if_neg (by simpa using h3)]
   congr 1;omega
theorem Vt {N:Nat} (hN:2000000≤N) :∀(n:Nat) (e:AD),Cn e.kids≤1048576→en e≤n→Fv N n e=some e:=by
 intro n
 induction n with
 | zero=>intro e _ h;have:=Gz e;omega
 | succ n ih=>
  intro e hz hn
  have hle:=Fh e.kids
  rw[Fv]
  unfold JU Jz
  rw[AK,Ie _ _ _ (by omega) (by omega)]
  simp only[Option.bind_some]
  rw[Q2 (l:=e.kids) (Ed e.kids (Fv N n)) (fun n m=>by rw[Ed,if_neg (by simp[AK])]) (fun k i x m hx hm=>?_) (by omega) (by simp)]
  ·simp only[Option.bind_some]
   rw[← Hy]
  ·have hi:=(List.getElem?_eq_some_iff.1 hx).1
   have hk:=B7 (List.mem_of_getElem? hx)
   have hz2:=HD (List.mem_of_getElem? hx)
   have e1:=FG x
   obtain⟨y,hy,_⟩:=BV (l:=m) (i:=i) (by omega)
   rw[Ed,if_pos (by simp[AK];omega),At hx]
   simp only[Option.bind_some]
   rw[ih x (by omega) (by omega),At hy]
   simp only[Option.bind_some]
   rw[Hm,A3 (by omega) (by omega),show ((i:Int) + 1)=((i+1:Nat):Int) by omega]
theorem YY {e:AD} (hz:Cn e.kids≤1048576) {N:Nat} (hN:2000000≤N):KZ N e=some e:=by
 unfold KZ
 exact Vt hN N e hz (by rw[FG];omega)
theorem YV {f:Ah} (h:JT f≤1048576) {N:Nat} (hN:2000000≤N):I6 N f=some f:=by
 unfold JT at h
 unfold I6;rw[Tr (by omega) hN,YY (by omega) hN];rfl
theorem XO {l:List Ah} (hl:l.length+(l.map JT).sum≤1048576) {N:Nat} (hN:2000000≤N):IS N l=some l:=by
 unfold IS
 rw[AK,Ie _ _ _ (by omega) (by omega)]
 simp only[Option.bind_some]
 rw[Q2 (l:=l) (Ek N l) (fun n m=>by rw[Ek,if_neg (by simp[AK])]) (fun n i x m hx hm=>?_) (by omega) (by simp)]
 ·rfl
 ·have hi:=(List.getElem?_eq_some_iff.1 hx).1
  have hz:=Fx JT (List.mem_of_getElem? hx)
  obtain⟨y,hy,_⟩:=BV (l:=m) (i:=i) (by omega)
  rw[Ek,if_pos (by simp[AK];omega),At hx]
  simp only[Option.bind_some]
  rw[YV (by omega) hN,At hy]
  simp only[Option.bind_some]
  rw[Hm,A3 (by omega) (by omega),show ((i:Int) + 1)=((i+1:Nat):Int) by omega]
theorem U5 {p:AN} (h:LN p≤1048576) {N:Nat} (hN:2000000≤N):E1 N p=some p:=by
 unfold LN at h
 unfold E1;rw[Xf (by omega) hN,XO (by omega) hN];rfl
theorem WV {N:Nat} (hN:2000000≤N) :∀(n:Nat) (e:AD),Cn e.kids≤1048576→en e≤n→Fz N n e e=some true:=by
 intro n
 induction n with
 | zero=>intro e _ h;have:=Gz e;omega
 | succ n ih=>
  intro e hz hn
  have hle:=Fh e.kids
  rw[Fz]
  unfold I4 J3
  have L:=Cg (l:=e.kids) (Ee e.kids e.kids (Fz N n)) (fun _ _=>true) (fun n=>by rw[Ee,if_neg (by simp[AK])]) (fun k i x hx=>?_) (by omega:e.kids.length < N)
  ·rw[Dn (p:=fun _=>true)] at L
   simp[L,Sh.cont]
  ·have hi:=(List.getElem?_eq_some_iff.1 hx).1
   have hk:=B7 (List.mem_of_getElem? hx)
   have hz2:=HD (List.mem_of_getElem? hx)
   have e1:=FG x
   rw[Ee,if_pos (by simp[AK];omega),At hx]
   simp only[Option.bind_some]
   rw[ih x (by omega) (by omega),A3 (by omega) (by omega),show ((i:Int) + 1)=((i+1:Nat):Int) by omega]
   rfl
theorem Y2 {e:AD} (hz:Cn e.kids≤1048576) {N:Nat} (hN:2000000≤N):KY N e e=some true:=by
 unfold KY
 exact WV hN N e hz (by rw[FG];omega)
theorem Y7 {f:Ah} (h:JT f≤1048576) {N:Nat} (hN:2000000≤N):Iz N f f=some true:=by
 unfold JT at h
 unfold Iz;rw[Tt (by omega) hN,Y2 (by omega) hN];simp
theorem XW {l:List Ah} (hl:l.length+(l.map JT).sum≤1048576) {N:Nat} (hN:2000000≤N):IL N l l=some true:=by
 unfold IL
 have L:=Cg (l:=l) (Ei N l l) (fun _ _=>true) (fun n=>by rw[Ei,if_neg (by simp[AK])]) (fun n i x hx=>?_) (by omega:l.length < N)
 ·rw[Dn (p:=fun _=>true)] at L
  simp[L,Sh.cont]
 ·have hi:=(List.getElem?_eq_some_iff.1 hx).1
  have hz:=Fx JT (List.mem_of_getElem? hx)
  rw[Ei,if_pos (by simp[AK];omega),At hx]
  simp only[Option.bind_some]
  rw[Y7 (by omega) hN,A3 (by omega) (by omega),show ((i:Int) + 1)=((i+1:Nat):Int) by omega]
  rfl
theorem O3 {p:AN} (h:LN p≤1048576) {N:Nat} (hN:2000000≤N):E0 N p p=some true:=by
 unfold LN at h
 unfold E0;rw[XD (by omega) hN,XW (by omega) hN];rfl
theorem S5 {N:Nat} (hN:2000000≤N) :∀(n:Nat) (e:AD) (left:Int),left≤1000→0≤left→left < n→Cn e.kids≤1048576→EG N n e left=some (Ow left (en e)):=by
 intro n
 induction n with
 | zero=>intro e left _ _ h;omega
 | succ n ih=>
  intro e left h0 hl0 h1 hz
  rw[EG]
  unfold HX
  have hp:=FG e
  have hle:=Fh e.kids
  by_cases h2:left < 1
  ·rw[if_pos (by simpa using h2),Cr (by omega)]
  ·rw[if_neg (by simpa using h2),A3 (by omega) (by omega)]
   have key :∀{M i:Nat},i≤e.kids.length→e.kids.length - i < M→∀l:Int,0≤l→l < left→CY e (EG N n) M l i=some (if l - (Cn (e.kids.drop i):Int) < 0 then .inl (-1) else .inr (l - (Cn (e.kids.drop i):Int))):=by
    intro M i hi hM
    refine BO e.kids.length (fun M i=>∀l:Int,0≤l→l < left→CY e (EG N n) M l i=some (if l - (Cn (e.kids.drop i):Int) < 0 then .inl (-1) else .inr (l - (Cn (e.kids.drop i):Int)))) ?_ ?_ hi hM
    ·intro m l l0 l1
     rw[CY,if_neg (by simp[AK])]
     simp[Cn];omega
    ·intro m i hi ih2 l l0 l1
     obtain⟨x,hx,hxm⟩:=BV hi
     have hz2:=HD hxm
     have e1:=FG x
     rw[CY,if_pos (by simp[AK];omega),At hx]
     simp only[Option.bind_some]
     rw[ih x l (by omega) l0 (by omega) (by omega),RP hx]
     simp only[Option.bind_some]
     by_cases h3:l - (en x:Int) < 0
     ·rw[Cr h3,if_pos (by simp),if_pos (by omega)]
     ·rw[Eo h3,if_neg (by simpa using h3),A3 (by omega) (by omega),show ((i:Int) + 1)=((i+1:Nat):Int) by omega,ih2 (l - (en x:Int)) (by omega) (by omega)]
      rw[show l - (en x:Int) - (Cn (e.kids.drop (i+1)):Int)=l - ((en x+Cn (e.kids.drop (i+1)):Nat):Int) by omega]
   have:=key (Nat.zero_le _) (by omega:e.kids.length - 0 < N) (left - 1) (by omega) (by omega)
   rw[show ((0:Nat):Int)=0 from rfl,List.drop_zero] at this
   rw[this]
   by_cases h3:left - 1 - (Cn e.kids:Int) < 0
   ·rw[if_pos h3,Cr (by omega)];rfl
   ·rw[if_neg h3,Eo (by omega)]
    simp only[Sh.Kl]
    congr 1;omega
theorem Hx {e:AD} (hz:Cn e.kids≤1048576) {N:Nat} (hN:2000000≤N):GU N e=some (if en e≤30 then (en e:Int) else -1):=by
 unfold GU KR
 rw[S5 hN N e 30 (by omega) (by omega) (by omega) hz]
 simp only[Option.bind_some]
 by_cases h:en e≤30
 ·rw[Eo (by omega),if_pos h,if_neg (by simp;omega),A3 (by omega) (by omega)]
  congr 1;omega
 ·rw[Cr (by omega),if_neg h];rfl
theorem SB {N:Nat} (hN:2000000≤N) :∀(n:Nat) (e:AD) (c:Nat),c≤30→31 - c < n→Cn e.kids≤1048576→Dm N n c e=some (if c+en e≤30 then (true,((c+en e:Nat):Int)) else (false,31)):=by
 intro n
 induction n with
 | zero=>intro e c _ h;omega
 | succ n ih=>
  intro e c h0 h1 hz
  rw[Dm]
  unfold Gr
  have hp:=FG e
  have hle:=Fh e.kids
  rw[A3 (by omega) (by omega)]
  by_cases h2:c=30
  ·subst h2
   rw[if_pos (by simp),if_neg (by omega)];rfl
  ·rw[if_neg (by simp;omega)]
   have key :∀{M i:Nat},i≤e.kids.length→e.kids.length - i < M→∀d:Nat,c < d→d≤30→B9 e (Dm N n) M i d=some (if d+Cn (e.kids.drop i)≤30 then .inr ((d+Cn (e.kids.drop i):Nat):Int) else .inl (false,31)):=by
    intro M i hi hM
    refine BO e.kids.length (fun M i=>∀d:Nat,c < d→d≤30→B9 e (Dm N n) M i d=some (if d+Cn (e.kids.drop i)≤30 then .inr ((d+Cn (e.kids.drop i):Nat):Int) else .inl (false,31))) ?_ ?_ hi hM
    ·intro m d l0 l1
     rw[B9,if_neg (by simp[AK])]
     simp[Cn,l1]
    ·intro m i hi ih2 d l0 l1
     obtain⟨x,hx,hxm⟩:=BV hi
     have hz2:=HD hxm
     have e1:=FG x
     rw[B9,if_pos (by simp[AK];omega),At hx]
     simp only[Option.bind_some]
     rw[ih x d l1 (by omega) (by omega),RP hx]
     simp only[Option.bind_some]
     by_cases h3:d+en x≤30
     ·rw[if_pos h3]
      simp only[Bool.not_true,Bool.false_eq_true,if_false]
      rw[A3 (by omega) (by omega),show ((i:Int) + 1)=((i+1:Nat):Int) by omega,ih2 (d+en x) (by omega) h3,Nat.add_assoc]
     ·have h4:¬ (d+(en x+Cn (List.drop (i+1) e.kids))≤30):=by omega
      rw[if_neg h3,if_neg h4];rfl
   have:=key (Nat.zero_le _) (by omega:e.kids.length - 0 < N) (c+1) (by omega) (by omega)
   rw[show ((0:Nat):Int)=0 from rfl,List.drop_zero,show ((c+1:Nat):Int)=(c:Int) + 1 by omega] at this
   rw[this]
   by_cases h3:c+1+Cn e.kids≤30
   ·rw[if_pos h3,if_pos (by omega)]
    simp only[Sh.Kl]
    rw[show c+1+Cn e.kids=c+en e by omega]
   ·rw[if_neg h3,if_neg (by omega)];rfl
theorem L8 {e:AD} (hz:Cn e.kids≤1048576) {N:Nat} (hN:2000000≤N):HM N e=some (if en e≤30 then (en e:Int) else -1):=by
 unfold HM Jy
 have:=SB hN N e 0 (by omega) (by omega) hz
 rw[show ((0:Nat):Int)=0 from rfl,Nat.zero_add] at this
 rw[this]
 simp only[Option.bind_some]
 by_cases h:en e≤30
 ·rw[if_pos h,if_pos h];rfl
 ·rw[if_neg h,if_neg h];rfl
end RC



namespace RC
open Go
theorem N2 {α:Type} {g:Nat→α→Bool} :∀(l:List α) (k:Nat),ER g k l=true↔∀(i:Nat) x,l[i]?=some x→g (k+i) x=true
 | [],_=>by simp[ER]
 | x :: r,k=>by
  rw[ER,Bool.and_eq_true,N2 r (k+1)]
  constructor
  ·rintro⟨h1,h2⟩ i y hy
   cases i with
   | zero=>simp only[List.getElem?_cons_zero,Option.some.injEq] at hy;subst hy;exact h1
   | succ i=>have:=h2 i y hy;rw[show k+(i+1)=k+1+i by omega];exact this
  ·intro h
   exact⟨h 0 x rfl,fun i y hy=>by have:=h (i+1) y hy;rw[show k+(i+1)=k+1+i by omega] at this;exact this⟩
theorem Q9 {a b:List Int} (h:a.length=b.length):ER (fun i x=>decide (b[i]?=some x)) 0 a=decide (a=b):=by
 rw[Bool.eq_iff_iff,N2,decide_eq_true_iff]
 constructor
 ·intro g
  refine List.ext_getElem? fun i=>?_
  by_cases hi:i < a.length
  ·obtain⟨x,hx,_⟩:=BV hi
   have:=g i x hx
   rw[decide_eq_true_iff,Nat.zero_add] at this
   rw[hx,this]
  ·rw[List.getElem?_eq_none (by omega),List.getElem?_eq_none (by omega)]
 ·rintro rfl i x hx
  rw[decide_eq_true_iff,Nat.zero_add,hx]
theorem L4 {a b:List Int} (ha:a.length≤1048576) {N:Nat} (hN:2000000≤N):CC N a b=some (decide (a=b)):=by
 unfold CC
 by_cases h:a.length=b.length
 ·rw[if_neg (by simp[AK,h]),Cg (l:=a) (B5 a b) (fun i x=>decide (b[i]?=some x)) (fun n=>by rw[B5,if_neg (by simp[AK])]) (fun n i x hx=>?_) (by omega),De,Q9 h]
  ·cases decide (a=b) <;> rfl
  ·have hi:=(List.getElem?_eq_some_iff.1 hx).1
   obtain⟨y,hy,_⟩:=BV (l:=b) (i:=i) (by omega)
   rw[B5,if_pos (by simp[AK];omega),At hx]
   simp only[Option.bind_some]
   rw[At hy,hy,A3 (by omega) (by omega),show ((i:Int) + 1)=((i+1:Nat):Int) by omega]
   simp only[Option.bind_some]
   by_cases e:x=y
   ·simp[e]
   ·have e':¬ y=x:=fun q=>e q.symm
    simp[e,e']
 ·have hne:¬ a=b:=fun e=>h (by rw[e])
  have h':¬ ((a.length:Int)=(b.length:Int)):=by omega
  simp[AK,h',hne]
structure E6 (D:List Ab) (F:List Ah):Prop where
 NY:D.length≤4
 Tj :∀d∈D,d.cons.length≤3
 NK :∀d∈D,∀c∈d.cons,c.fields.length≤3∧∀t∈c.fields,C1 D t=true
 dg :∀d∈D,C1 D d.from_=true∧C1 D d.to=true
 LF:F.length≤4
 MN :∀f∈F,f.params.length≤3∧(∀t∈f.params,C1 D t=true)∧C1 D f.result=true
theorem bg {D:List Ab} (h :∀d∈D,d.cons.length≤3):nc D≤3 * D.length:=by
 induction D with
 | nil=>simp[nc]
 | cons d r ih=>
  have h1:=h d (by simp)
  have h2:=ih fun e he=>h e (by simp[he])
  simp only[nc,List.map_cons,List.sum_cons,List.length_cons] at h2 ⊢
  omega
theorem E6.nc {D:List Ab} {F:List Ah} (S:E6 D F):nc D≤12:=by have:=bg S.Tj;have:=S.NY;omega
theorem J0 {D:List Ab} {t:Int} (h:C1 D t=true):0≤t∧t≤(D.length:Int):=by
 unfold C1 at h
 simpa using h
theorem E6.of {p:AN} (h:Mh p.decls (p.funcs.map fun f=>(f.params,f.result))=true):E6 p.decls p.funcs:=by
 unfold Mh at h
 simp only[Bool.and_eq_true,List.length_map,List.all_map,decide_eq_true_eq] at h
 obtain⟨h1,⟨_,h2⟩,h3,_⟩:=h
 unfold LZ at h1
 simp only[Bool.and_eq_true,decide_eq_true_eq] at h1
 obtain⟨h4,h5⟩:=h1
 rw[N2] at h5
 have hd :∀d∈p.decls,∃i,KL p.decls i d=true:=fun d hd=>by
  obtain⟨i,hi⟩:=List.mem_iff_getElem?.1 hd
  exact⟨_,h5 i d hi⟩
 refine⟨h4,fun d hm=>?_,fun d hm c hc=>?_,fun d hm=>?_,h2,fun f hf=>?_⟩
 ·obtain⟨i,hi⟩:=hd d hm
  unfold KL at hi
  split at hi
  ·simp only[Bool.and_eq_true,decide_eq_true_eq] at hi;exact hi.1.1
  ·omega
 ·obtain⟨i,hi⟩:=hd d hm
  unfold KL at hi
  split at hi
  ·simp only[Bool.and_eq_true,decide_eq_true_eq,List.all_eq_true] at hi
   have:=hi.2 c hc
   unfold O7 at this
   simp only[Bool.and_eq_true,decide_eq_true_eq,List.all_eq_true] at this
   exact this
  ·have:=List.length_pos_of_mem hc;omega
 ·obtain⟨i,hi⟩:=hd d hm
  unfold KL at hi
  split at hi
  ·simp only[Bool.and_eq_true,decide_eq_true_eq] at hi
   rw[hi.1.2.1,hi.1.2.2]
   have:C1 p.decls 0=true:=by unfold C1;simp
   exact⟨this,this⟩
  ·simp only[Bool.and_eq_true] at hi;exact hi.2
 ·have:=List.all_eq_true.1 h3 f hf
  simp only[Function.comp,L9,Bool.and_eq_true,decide_eq_true_eq,List.all_eq_true] at this
  exact this
def Jd (p:AN) (sg:A1) (R1:AN→List Int→AD→Option Int) (R2:List Int→A1→AD→Option Int) (T:List Int→AD→Int) (m:Nat):Prop:=
 ∀(v:List Int) (e:AD),Bn e→en e < m→v.length+3 * en e≤1000→(∀x∈v,C1 p.decls x=true)→R1 p v e=some (T v e)∧R2 v sg e=some (T v e)∧(T v e=-1∨C1 p.decls (T v e)=true)
section
variable {p : AN} {sg : A1} {R1 : AN → List Int → AD → Option Int} {R2 : List Int → A1 → AD → Option Int} {T : List Int → AD → Int} {e : AD} {v : List Int} {N : Nat}
structure Gn (p:AN) (e:AD) (v:List Int):Prop where
 len:v.length+3 * en e≤1000
 It :∀x∈v,C1 p.decls x=true
 small:en e≤340
 FE:Bn e
theorem Gn.Jg (V:Gn p e v) {k:AD} (hk:k∈e.kids):v.length+3 * en k≤1000:=by have:=V.len;have:=B7 hk;omega
theorem Gn.more (V:Gn p e v) {k:AD} (hk:k∈e.kids) {m:List Int} (hm:m.length≤3):(v ++ m).length+3 * en k≤1000:=by have:=V.len;have:=B7 hk;rw[List.length_append];omega
theorem Gn.Uc (V:Gn p e v) {m:List Int} (hm :∀x∈m,C1 p.decls x=true) :∀x∈v ++ m,C1 p.decls x=true:=fun x hx=>by
 rcases List.mem_append.1 hx with h | h
 ·exact V.It x h
 ·exact hm x h
theorem Gn.Il (V:Gn p e v):e.kids.length≤340:=by have:=Fh e.kids;have:=V.small;have:=FG e;omega
theorem SW (H:Jd p sg R1 R2 T (en e)) (V:Gn p e v) (hN:2000000≤N) (m:Nat):HL N R1 p v e.kids m=some (decide (e.kids.map (T v)=List.replicate m 0)):=by
 unfold HL
 have hk:=V.Il
 by_cases h:e.kids.length=m
 ·subst h
  rw[if_neg (by simp[AK]),Cg (l:=e.kids) (Ej p v e.kids e.kids.length R1) (fun _ x=>decide (T v x=0)) (fun n=>by rw[Ej,if_neg (by simp)]) (fun n i x hx=>?_) (by omega),De,Dn]
  ·have e1:e.kids.all (fun x=>decide (T v x=0))=decide (e.kids.map (T v)=List.replicate e.kids.length 0):=by
    rw[Bool.eq_iff_iff,decide_eq_true_iff,List.all_eq_true,List.eq_replicate_iff]
    simp
   rw[e1]
   cases decide (e.kids.map (T v)=List.replicate e.kids.length 0) <;> rfl
  ·have hi:=(List.getElem?_eq_some_iff.1 hx).1
   have hm:=List.mem_of_getElem? hx
   rw[Ej,if_pos (by simp;omega),At hx]
   simp only[Option.bind_some]
   rw[(H v x (V.FE.kids x hm) (B7 hm) (V.Jg hm) V.It).1,A3 (by omega) (by omega),show ((i:Int) + 1)=((i+1:Nat):Int) by omega]
   simp only[Option.bind_some]
   by_cases e1:T v x=0 <;> simp[e1]
 ·have h1:¬ ((e.kids.length:Int)=(m:Int)):=by omega
  have h2:¬ e.kids.map (T v)=List.replicate m 0:=fun q=>h (by have:=congrArg List.length q;simpa using this)
  simp[AK,h1,h2]
theorem OW (H:Jd p sg R1 R2 T (en e)) (V:Gn p e v) (hN:2000000≤N) (l:List Int):He N R1 p v e.kids l=some (decide (e.kids.map (T v)=l)):=by
 unfold He
 have hk:=V.Il
 by_cases h:e.kids.length=l.length
 ·rw[if_neg (by simp[AK,h]),Cg (l:=l) (FR p v e.kids l R1) (fun i x=>decide ((e.kids.map (T v))[i]?=some x)) (fun n=>by rw[FR,if_neg (by simp[AK])]) (fun n i x hx=>?_) (by omega),De,Q9 (by simp[h])]
  ·by_cases q:l=e.kids.map (T v)
   ·simp[q]
   ·have q':¬ e.kids.map (T v)=l:=fun z=>q z.symm
    simp[q,q']
  ·have hi:=(List.getElem?_eq_some_iff.1 hx).1
   obtain⟨y,hy,hm⟩:=BV (l:=e.kids) (i:=i) (by omega)
   rw[FR,if_pos (by simp[AK];omega),At hy]
   simp only[Option.bind_some]
   rw[(H v y (V.FE.kids y hm) (B7 hm) (V.Jg hm) V.It).1,At hx,A3 (by omega) (by omega),show ((i:Int) + 1)=((i+1:Nat):Int) by omega]
   simp only[Option.bind_some]
   rw[List.getElem?_map,hy,Option.map_some]
   by_cases e1:T v y=x <;> simp[e1]
 ·have h1:¬ ((e.kids.length:Int)=(l.length:Int)):=by omega
  have h2:¬ e.kids.map (T v)=l:=fun q=>h (by have:=congrArg List.length q;simpa using this)
  simp[AK,h1,h2]
theorem Vx (H:Jd p sg R1 R2 T (en e)) (V:Gn p e v) (hN:2000000≤N) :
  BT v sg e R2 N 0 (List.replicate e.kids.length 0)=some (if (e.kids.map (T v)).any (fun t=>decide (t < 0))=true then .inl (-1) else .inr (e.kids.map (T v))):=by
 have hk:=V.Il
 have key :∀{N i:Nat},i≤e.kids.length→e.kids.length - i < N→∀m:List Int,m.length=e.kids.length→m.take i=(e.kids.map (T v)).take i→
   BT v sg e R2 N i m=some (if ((e.kids.map (T v)).drop i).any (fun t=>decide (t < 0))=true then .inl (-1) else .inr (e.kids.map (T v))):=by
  intro N i hi hN
  refine BO e.kids.length (fun N i=>∀m:List Int,m.length=e.kids.length→m.take i=(e.kids.map (T v)).take i→
   BT v sg e R2 N i m=some (if ((e.kids.map (T v)).drop i).any (fun t=>decide (t < 0))=true then .inl (-1) else .inr (e.kids.map (T v)))) ?_ ?_ hi hN
  ·intro n m a b
   rw[BT,if_neg (by simp[AK])]
   rw[List.take_of_length_le (by omega),List.take_of_length_le (by simp)] at b
   rw[b,List.drop_of_length_le (by simp)];simp
  ·intro n i hi ih m a b
   obtain⟨x,hx,hxm⟩:=BV hi
   obtain⟨y,hy,_⟩:=BV (l:=m) (i:=i) (by omega)
   have hx2:(e.kids.map (T v))[i]?=some (T v x):=by rw[List.getElem?_map,hx];rfl
   have hi':(m.set i (T v x))[i]?=some (T v x):=by rw[List.getElem?_set_self (by omega)]
   rw[BT,if_pos (by simp[AK];omega),At hx]
   simp only[Option.bind_some]
   rw[(H v x (V.FE.kids x hxm) (B7 hxm) (V.Jg hxm) V.It).2.1,At hy]
   simp only[Option.bind_some]
   rw[Hm,At hi',drop_cons hx2]
   simp only[Option.bind_some,List.any_cons]
   by_cases h:T v x < 0
   ·simp[h]
   ·rw[if_neg (by simpa using h),A3 (by omega) (by omega),show ((i:Int) + 1)=((i+1:Nat):Int) by omega,ih (m.set i (T v x)) (by simp[a]) (by rw[B8 hi',B8 hx2,← b,List.take_set_of_le (Nat.le_refl _)])]
    simp[h]
 have:=key (Nat.zero_le _) (by omega:e.kids.length - 0 < N) (List.replicate e.kids.length 0) (by simp) rfl
 simpa using this
theorem TU {a b:List Int} (ha:a.length≤1000) (hb:b.length≤1000):GQ a b=some (a ++ b):=by
 unfold GQ Dk
 rw[CL [] a 8 (by simp;omega) (by simp;omega)]
 simp only[Option.bind_some,List.nil_append]
 rw[CL a b 8 (by omega) (by omega)];rfl
theorem Y4 {a b:List Int} (ha:a.length≤1000) (hb:b.length≤1000) (hN:2000000≤N):Et N [a,b]=some (a ++ b):=by
 obtain⟨n,rfl⟩ :∃n,N=n+3:=⟨N - 3,by omega⟩
 unfold Et
 have e1:Bl [a,b] (n+3) 0 0=some ((a.length+b.length:Nat):Int):=by
  rw[Bl,if_pos (by simp[AK]),show Sh.get [a,b] 0=some a from rfl]
  simp only[Option.bind_some]
  rw[AK,A3 (n:=(0:Int) + 1) (by omega) (by omega),A3 (by omega) (by omega),if_neg (by rw[decide_eq_true_eq];omega)]
  rw[Bl,if_pos (by simp[AK]),show Sh.get [a,b] (0+1)=some b from rfl]
  simp only[Option.bind_some]
  rw[AK,A3 (n:=(0:Int) + 1+1) (by omega) (by omega),A3 (by omega) (by omega),if_neg (by rw[decide_eq_true_eq];omega)]
  rw[Bl,if_neg (by simp[AK])]
  congr 1;omega
 have e2:Bm [a,b] (n+3) 0 []=some (a ++ b):=by
  rw[Bm,if_pos (by simp[AK]),show Sh.get [a,b] 0=some a from rfl]
  simp only[Option.bind_some]
  rw[CL [] a 8 (by simp;omega) (by simp;omega),A3 (n:=(0:Int) + 1) (by omega) (by omega)]
  simp only[Option.bind_some,List.nil_append]
  rw[Bm,if_pos (by simp[AK]),show Sh.get [a,b] (0+1)=some b from rfl]
  simp only[Option.bind_some]
  rw[CL a b 8 (by omega) (by omega),A3 (n:=(0:Int) + 1+1) (by omega) (by omega)]
  simp only[Option.bind_some]
  rw[Bm,if_neg (by simp[AK])]
 have e3:FV ((a.length+b.length:Nat):Int)=some []:=by
  unfold FV
  rw[if_neg (by simp;omega),A3 (n:=(0:Int) - 0) (by omega) (by omega),A3 (by omega) (by omega)]
  by_cases h:0 < a.length+b.length
  ·rw[if_pos (by simp;omega),show (((a.length+b.length:Nat):Int) - (0 - 0))=((a.length+b.length:Nat):Int) by omega,Ie _ _ _ (by omega) (by omega)]
   simp only[Option.bind_some]
   have:=eA (l:=List.replicate (a.length+b.length) (0:Int)) (j:=0) (by omega)
   rw[show ((0:Nat):Int)=0 from rfl] at this
   rw[this];rfl
  ·rw[if_neg (by simp;omega)];rfl
 rw[e1]
 simp only[Option.bind_some]
 rw[e3]
 simp only[Option.bind_some]
 rw[e2];rfl
def J6:List Int→Int
 | []=>-1
 | t :: r=>if r.all (fun x=>decide (x=t))=true then t else -1
theorem Iq (H:Jd p sg R1 R2 T (en e)) (V:Gn p e v) (hN:2000000≤N) {ks:List AD} {ms:List (List Int)} (hks :∀k∈ks,k∈e.kids) (hkl:ks.length≤340) (hl:ms.length=ks.length) (hm :∀m∈ms,m.length≤3∧∀x∈m,C1 p.decls x=true) :
  DL N R2 sg v ks ms=some (J6 (List.zipWith (fun m k=>T (v ++ m) k) ms ks)):=by
 unfold DL
 have hvl:v.length≤1000:=by have:=V.len;omega
 have step :∀(n i:Nat) (r:Int) k m,ks[i]?=some k→ms[i]?=some m→BE N sg v ks ms R2 (n+1) r i=if T (v ++ m) k < 0∨(0 < i∧T (v ++ m) k≠r) then some (.inl (-1)) else BE N sg v ks ms R2 n (T (v ++ m) k) ((i+1:Nat):Int):=by
  intro n i r k m hk hmm
  have hi:=(List.getElem?_eq_some_iff.1 hk).1
  have hmo:=hm m (List.mem_of_getElem? hmm)
  have hke:=hks k (List.mem_of_getElem? hk)
  rw[BE,if_pos (by simp[AK];omega),At hk]
  simp only[Option.bind_some]
  rw[At hmm]
  simp only[Option.bind_some]
  rw[Y4 hvl (by omega) hN]
  simp only[Option.bind_some]
  rw[(H (v ++ m) k (V.FE.kids k hke) (B7 hke) (V.more hke hmo.1) (V.Uc hmo.2)).2.1]
  simp only[Option.bind_some]
  rw[A3 (by omega) (by omega),show ((i:Int) + 1)=((i+1:Nat):Int) by omega]
  by_cases h1:T (v ++ m) k < 0
  ·simp[h1]
  ·by_cases h2:0 < i
   ·by_cases h3:T (v ++ m) k=r
    ·have h1':¬ r < 0:=h3 ▸ h1
     simp[h1',h2,h3]
    ·simp[h1,h2,h3]
   ·simp[h1,h2]
 have rest :∀(d i n:Nat) (r:Int),ks.length - i=d→0 < i→i≤ks.length→d < n→BE N sg v ks ms R2 n r i=some (if ((List.zipWith (fun m k=>T (v ++ m) k) ms ks).drop i).all (fun x=>decide (x=r))=true then (if ((List.zipWith (fun m k=>T (v ++ m) k) ms ks).drop i).any (fun x=>decide (x < 0))=true then .inl (-1) else .inr r) else .inl (-1)):=by
  intro d
  induction d with
  | zero=>
   intro i n r h1 h2 h3 h4
   obtain⟨n,rfl⟩ :∃q,n=q+1:=⟨n - 1,by omega⟩
   rw[BE,if_neg (by simp[AK];omega),List.drop_of_length_le (by simp;omega)];rfl
  | succ d ih=>
   intro i n r h1 h2 h3 h4
   obtain⟨n,rfl⟩ :∃q,n=q+1:=⟨n - 1,by omega⟩
   obtain⟨k,hk,_⟩:=BV (l:=ks) (i:=i) (by omega)
   obtain⟨m,hmm,_⟩:=BV (l:=ms) (i:=i) (by omega)
   have hz:(List.zipWith (fun m k=>T (v ++ m) k) ms ks)[i]?=some (T (v ++ m) k):=by rw[List.getElem?_zipWith,hk,hmm]
   rw[step n i r k m hk hmm,drop_cons hz,List.all_cons,List.any_cons]
   by_cases h5:T (v ++ m) k=r
   ·by_cases h6:T (v ++ m) k < 0
    ·rw[if_pos (.inl h6)]
     have h6':r < 0:=h5 ▸ h6
     simp[h5,h6']
    ·rw[if_neg (by rintro (h | h);exact h6 h;exact h.2 h5),ih (i+1) n _ (by omega) (by omega) (by omega) (by omega)]
     have h6':¬ r < 0:=h5 ▸ h6
     simp[h5,h6']
   ·rw[if_pos (.inr ⟨h2,h5⟩)]
    simp[h5]
 cases hks0:ks with
 | nil=>
  obtain⟨n,rfl⟩ :∃q,N=q+1:=⟨N - 1,by omega⟩
  rw[BE,if_neg (by simp[AK])]
  simp[J6]
 | cons k r=>
  cases hms0:ms with
  | nil=>rw[hks0,hms0] at hl;simp at hl
  | cons m s=>
   rw[← hks0,← hms0]
   obtain⟨n,hn⟩ :∃q,N=q+1:=⟨N - 1,by omega⟩
   have h0:=step n 0 (-1) k m (by rw[hks0];rfl) (by rw[hms0];rfl)
   rw[show ((0:Nat):Int)=0 from rfl] at h0
   have hke:=hks k (by rw[hks0];simp)
   have hmo:=hm m (by rw[hms0];simp)
   have hT:=(H (v ++ m) k (V.FE.kids k hke) (B7 hke) (V.more hke hmo.1) (V.Uc hmo.2)).2.2
   rw[show BE N sg v ks ms R2 N (-1) 0=BE N sg v ks ms R2 (n+1) (-1) 0 by rw[← hn],h0]
   have hzc:List.zipWith (fun m k=>T (v ++ m) k) ms ks=T (v ++ m) k :: List.zipWith (fun m k=>T (v ++ m) k) s r:=by rw[hks0,hms0];rfl
   rw[hzc]
   unfold J6
   by_cases h1:T (v ++ m) k < 0
   ·rw[if_pos (.inl h1)]
    have:T (v ++ m) k=-1:=by
     rcases hT with h | h
     ·exact h
     ·have:=(J0 h).1;omega
    rw[this]
    simp
   ·rw[if_neg (by rintro (h | h);exact h1 h;omega),rest _ 1 n _ rfl (by omega) (by rw[hks0];simp) (by omega),hzc,List.drop_succ_cons,List.drop_zero]
    by_cases h2:(List.zipWith (fun m k=>T (v ++ m) k) s r).all (fun x=>decide (x=T (v ++ m) k))=true
    ·have h3:¬ (List.zipWith (fun m k=>T (v ++ m) k) s r).any (fun x=>decide (x < 0))=true:=fun h=>by
      obtain⟨x,hx,hx2⟩:=List.any_eq_true.1 h
      have:=List.all_eq_true.1 h2 x hx
      simp only[decide_eq_true_eq] at this hx2
      omega
     rw[if_pos h2,if_neg h3]
     dsimp only
     rw[if_pos h2];rfl
    ·rw[if_neg h2]
     dsimp only
     rw[if_neg h2];rfl
end
end RC



namespace RC
open Go
theorem Za {n:Int} (h1:n < -9223372036854775808) (h2:-18446744073709551616≤n):Sh.w n=n+18446744073709551616:=by
 unfold Sh.w
 rw[IntKind.wrap_i64];omega
theorem Si {D:List Ab} (hD:D.length≤1048576) (hn:nc D≤1048576) {c:Int} (hI:GL c) (hc:c < 0∨(nc D:Int)≤c) {N:Nat} (hN:2000000≤N):Gk N D c=some (-1,⟨[]⟩):=by
 have key :∀(m j N:Nat) (c:Int),D.length - j=m→j≤D.length→m < N→GL c→(c < 0∨(nc (D.drop j):Int)≤c)→EP D N c j=some (.inr ()):=by
  intro m
  induction m with
  | zero=>
   intro j N c h1 h2 h3 _ _
   obtain⟨N,rfl⟩ :∃n,N=n+1:=⟨N - 1,by omega⟩
   rw[EP,if_neg (by simp[AK];omega)]
  | succ m ih=>
   intro j N c h1 h2 h3 hI h4
   obtain⟨N,rfl⟩ :∃n,N=n+1:=⟨N - 1,by omega⟩
   obtain⟨d,hd,_⟩:=BV (l:=D) (i:=j) (by omega)
   have hs:=Gf D j
   rw[Qa hd] at h4 hs
   rw[EP,if_pos (by simp[AK];omega),At hd]
   simp only[Option.bind_some]
   have hlo:=hI.1
   have hhi:=hI.2
   have e1:¬ (0≤c∧c < (d.cons.length:Int)):=by omega
   have e2:(if decide (0≤c)=true then some (decide (c < Sh.len d.cons)) else some false)=some false:=by
    by_cases h0:0≤c
    ·have:¬ c < (d.cons.length:Int):=by omega
     simp[h0,AK,this]
    ·simp[h0]
   rw[A3 (n:=(j:Int) + 1) (by omega) (by omega),show ((j:Int) + 1)=((j+1:Nat):Int) by omega,AK]
   rw[AK] at e2
   by_cases h5:c - (d.cons.length:Int) < -9223372036854775808
   ·have:=ih (j+1) N (Sh.w (c - (d.cons.length:Int))) (by omega) (by omega) (by omega) (by rw[Za h5 (by omega)];unfold GL;omega) (by rw[Za h5 (by omega)];omega)
    rw[e2]
    simp only[Option.bind_some,Bool.false_eq_true,if_false]
    exact this
   ·have:=ih (j+1) N (Sh.w (c - (d.cons.length:Int))) (by omega) (by omega) (by omega) (by rw[A3 (by omega) (by omega)];unfold GL;omega) (by rw[A3 (by omega) (by omega)];omega)
    rw[e2]
    simp only[Option.bind_some,Bool.false_eq_true,if_false]
    exact this
 have:=key D.length 0 N c (by omega) (by omega) (by omega) hI (by simpa using hc)
 unfold Gk
 rw[show (((0:Nat):Int))=0 from rfl] at this
 rw[this];rfl
theorem Rp :∀{D:List Ab} {k c t:Nat} {x:BP},KW D k c=some (t,x)→k < t∧t≤k+D.length∧∃d∈D,x∈d.cons
 | [],_,_,_,_,h=>by simp[KW] at h
 | d :: r,k,c,t,x,h=>by
  unfold KW at h
  cases hx:d.cons[c]? with
  | some y=>
   rw[hx] at h
   simp only[Option.some.injEq,Prod.mk.injEq] at h
   obtain⟨rfl,rfl⟩:=h
   exact⟨by omega,by simp,d,by simp,List.mem_of_getElem? hx⟩
  | none=>
   rw[hx] at h
   obtain⟨h1,h2,e,h3,h4⟩:=Rp h
   exact⟨by omega,by simp;omega,e,by simp[h3],h4⟩
def RV (a b:Int) (d:Ab):Bool:=decide (d.cons.length=0) && (decide (d.from_=a) && decide (d.to=b))
def H4 (a b:Int):List Ab→Nat→Int
 | [],_=>-1
 | d :: r,k=>if RV a b d=true then (k:Int) + 1 else H4 a b r (k+1)
theorem XX {a b:Int} :∀(l:List Ab) (k:Nat),H4 a b l k=-1∨((k:Int) < H4 a b l k∧H4 a b l k≤k+l.length)
 | [],_=>.inl rfl
 | d :: r,k=>by
  unfold H4
  by_cases h:RV a b d=true
  ·rw[if_pos h];right;simp only[List.length_cons];omega
  ·rw[if_neg h]
   rcases XX r (k+1) with h1 | h1
   ·exact .inl h1
   ·right;simp only[List.length_cons];omega
theorem VM {a b:Int} {d:Ab}:(if decide ((Sh.len d.cons)=0)=true then if decide (d.from_=a)=true then some (decide (d.to=b)) else some false else some false)=some (RV a b d):=by
 unfold RV
 by_cases h1:d.cons.length=0 <;> by_cases h2:d.from_=a <;> simp[AK,h1,h2]
theorem RI {D:List Ab} (hD:D.length≤1048576) {a b:Int} {N:Nat} (hN:2000000≤N):IQ N D a b=some (H4 a b D 0):=by
 unfold IQ
 have key :∀{M i:Nat},i≤D.length→D.length - i < M→Sh.cont (D7 D a b M i) id (fun ()=>some (-1))=some (H4 a b (D.drop i) i):=by
  intro M i hi hM
  refine BO D.length (fun M i=>Sh.cont (D7 D a b M i) id (fun ()=>some (-1))=some (H4 a b (D.drop i) i)) ?_ ?_ hi hM
  ·intro n;rw[D7,if_neg (by simp[AK])];simp[H4,Sh.cont]
  ·intro n i hi ih
   obtain⟨d,hd,_⟩:=BV hi
   rw[D7,if_pos (by simp[AK];omega),At hd,drop_cons hd]
   simp only[Option.bind_some]
   rw[VM,A3 (by omega) (by omega),show ((i:Int) + 1)=((i+1:Nat):Int) by omega]
   simp only[Option.bind_some,H4]
   by_cases h:RV a b d=true
   ·rw[if_pos h,if_pos h];simp[Sh.cont]
   ·rw[if_neg h,if_neg h,ih]
 have:=key (Nat.zero_le _) (by omega:D.length - 0 < N)
 simpa using this
theorem RX {D:List Ab} (hD:D.length≤1048576) {a b:Int} {N:Nat} (hN:2000000≤N):IE N D a b=some (H4 a b D 0):=by
 unfold IE
 have key :∀{M i:Nat},i≤D.length→D.length - i < M→Sh.cont (D4 D a b M i) id (fun ()=>some (-1))=some (H4 a b (D.drop i) i):=by
  intro M i hi hM
  refine BO D.length (fun M i=>Sh.cont (D4 D a b M i) id (fun ()=>some (-1))=some (H4 a b (D.drop i) i)) ?_ ?_ hi hM
  ·intro n;rw[D4,if_neg (by simp[AK])];simp[H4,Sh.cont]
  ·intro n i hi ih
   obtain⟨d,hd,_⟩:=BV hi
   rw[D4,if_pos (by simp[AK];omega),At hd,drop_cons hd]
   simp only[Option.bind_some]
   rw[VM,A3 (by omega) (by omega),show ((i:Int) + 1)=((i+1:Nat):Int) by omega]
   simp only[Option.bind_some,H4]
   by_cases h:RV a b d=true
   ·rw[if_pos h,if_pos h];simp[Sh.cont]
   ·rw[if_neg h,if_neg h,ih]
 have:=key (Nat.zero_le _) (by omega:D.length - 0 < N)
 simpa using this
def O4 (D:List Ab) (t:Int):Option Ab:=if 1≤t∧t≤(D.length:Int) then (D[(t - 1).toNat]?).bind fun d=>if d.cons.length=0 then some d else none else none
theorem Ry {D:List Ab} {t:Int} {d:Ab} (h:O4 D t=some d):d∈D∧1≤t∧t≤(D.length:Int)∧D[(t - 1).toNat]?=some d:=by
 unfold O4 at h
 split at h
 ·rename_i h1
  obtain⟨e,he,h2⟩:=Option.bind_eq_some_iff.1 h
  split at h2
  ·cases h2;exact⟨List.mem_of_getElem? he,h1.1,h1.2,he⟩
  ·cases h2
 ·cases h
theorem RR {D:List Ab} (hD:D.length≤1048576) {t:Int}:IH D t=some ((O4 D t).elim (⟨0,0,[]⟩,false) fun d=>(d,true)):=by
 unfold IH O4
 by_cases h:1≤t∧t≤(D.length:Int)
 ·obtain⟨a,ha⟩ :∃a:Nat,t=(a:Int) + 1:=⟨(t - 1).toNat,by omega⟩
  subst ha
  obtain⟨d,hd,_⟩:=BV (l:=D) (i:=a) (by omega)
  have e1:¬ ((a:Int) + 1 < 1):=by omega
  have e2:¬ ((D.length:Int) < (a:Int) + 1):=by omega
  rw[if_pos h,A3 (by omega) (by omega),show ((a:Int) + 1 - 1)=((a:Nat):Int) by omega,At hd,Int.toNat_natCast,hd]
  by_cases h2:d.cons.length=0
  ·have h2':d.cons=[]:=List.eq_nil_of_length_eq_zero h2
   simp[e1,e2,AK,h2']
  ·have h3:0 < d.cons.length:=by omega
   have h2':¬ d.cons=[]:=fun q=>h2 (by rw[q];rfl)
   simp[e1,e2,AK,h2',h3]
 ·rw[if_neg h]
  by_cases h1:t < 1
  ·simp[h1]
  ·have h2:(D.length:Int) < t:=by omega
   simp[h1,AK,h2]
theorem Rn {D:List Ab} (hD:D.length≤1048576) {t:Int}:IB D t=some (O4 D t).isSome:=by
 unfold IB O4
 rw[C3]
 by_cases h:1≤t∧t≤(D.length:Int)
 ·obtain⟨a,ha⟩ :∃a:Nat,t=(a:Int) + 1:=⟨(t - 1).toNat,by omega⟩
  subst ha
  obtain⟨d,hd,_⟩:=BV (l:=D) (i:=a) (by omega)
  have e1:((1:Int)≤(a:Int) + 1):=by omega
  have e2:((a:Int) + 1≤(D.length:Int)):=by omega
  rw[if_pos h,A3 (by omega) (by omega),show ((a:Int) + 1 - 1)=((a:Nat):Int) by omega,At hd,Int.toNat_natCast,hd]
  by_cases h2:d.cons=[] <;> simp[e1,e2,AK,h2]
 ·rw[if_neg h]
  have:(decide (1≤t) && decide (t≤Sh.len D))=false:=by
   rw[AK]
   by_cases h1:1≤t
   ·have h2:¬ t≤(D.length:Int):=fun q=>h ⟨h1,q⟩
    simp[h1,h2]
   ·simp[h1]
  simp[this]
section
variable {p : AN} {sg : A1} {R1 : AN → List Int → AD → Option Int} {R2 : List Int → A1 → AD → Option Int} {T : List Int → AD → Int} {e : AD} {v : List Int} {N : Nat}
theorem FO (H:Jd p sg R1 R2 T (en e)) (V:Gn p e v) (hN:2000000≤N) (h1:¬ e.op=12) (h2:¬ e.op=13) (h3:¬ e.op=7) (h4:¬ e.op=8) :
  Al N R2 v sg e=if (e.kids.map (T v)).any (fun t=>decide (t < 0))=true then some (-1) else Option.bind (Av N sg e.op e.num (e.kids.map (T v))) fun q=>if q.2=true then some q.1 else some (-1):=by
 unfold Al
 have hk:=V.Il
 simp only[h1,h2,h3,h4,decide_false,Bool.false_eq_true,if_false]
 rw[AK,Ie _ _ _ (by omega) (by omega)]
 simp only[Option.bind_some]
 rw[Vx H V hN]
 by_cases h:(e.kids.map (T v)).any (fun t=>decide (t < 0))=true
 ·rw[if_pos h,if_pos h];rfl
 ·rw[if_neg h,if_neg h]
  simp only[Sh.Kl]
  cases Av N sg e.op e.num (e.kids.map (T v)) with
  | none=>rfl
  | some q=>simp only[Option.bind_some];cases q.2 <;> rfl
theorem Js (H:Jd p sg R1 R2 T (en e)) (V:Gn p e v) (hN:2000000≤N) (h1:¬ e.op=12) (h2:¬ e.op=13) (h3:¬ e.op=7) (h4:¬ e.op=8) {want:List Int} {c:Bool} {t:Int} (hw :∀x∈want,0≤x)
  (hs:Av N sg e.op e.num (e.kids.map (T v))=some (t,c && decide (e.kids.map (T v)=want))) :
  Al N R2 v sg e=some (if c=true∧e.kids.map (T v)=want then t else -1):=by
 rw[FO H V hN h1 h2 h3 h4,hs]
 by_cases h:e.kids.map (T v)=want
 ·have:¬ (e.kids.map (T v)).any (fun t=>decide (t < 0))=true:=fun q=>by
   obtain⟨x,hx,hx2⟩:=List.any_eq_true.1 q
   have:=hw x (h ▸ hx)
   simp only[decide_eq_true_eq] at hx2
   omega
  rw[if_neg this]
  cases c <;> simp[h]
 ·have hn:¬ (c=true∧e.kids.map (T v)=want):=fun q=>h q.2
  rw[if_neg hn]
  simp[h]
end
end RC



namespace RC
open Go
def ET (p:AN):A1:=⟨p.decls,p.funcs.map fun f=>⟨f.params,[],f.result⟩⟩
section
variable {p : AN} {R1 : AN → List Int → AD → Option Int} {R2 : List Int → A1 → AD → Option Int} {T : List Int → AD → Int} {e : AD} {v : List Int} {N : Nat}
def Jh (p:AN) (R1:AN→List Int→AD→Option Int) (R2:List Int→A1→AD→Option Int) (N:Nat) (v:List Int) (e:AD):Prop:=
 ∃t,BK N R1 p v e=some t∧Al N R2 v (ET p) e=some t∧(t=-1∨C1 p.decls t=true)
theorem eO {D:List Ab}:C1 D 0=true:=by unfold C1;simp
theorem len_nil {α:Type} {l:List α}:decide ((Sh.len l)=0)=decide (l=[]):=by
 cases l with
 | nil=>rfl
 | cons x r=>exact decide_eq_decide.2 (by rw[AK,List.length_cons];exact⟨fun h=>by omega,fun h=>nomatch h⟩)
theorem Zk (H:Jd p (ET p) R1 R2 T (en e)) (V:Gn p e v) (hN:2000000≤N) (h:e.op=0):Jh p R1 R2 N v e:=by
 have h1:=Js H V hN (by omega) (by omega) (by omega) (by omega) (want:=[]) (c:=decide (-999≤e.num) && decide (e.num≤999)) (t:=0) (by simp) (by
  unfold Av
  simp only[h,decide_true,if_true,len_nil]
  by_cases a:-999≤e.num <;> by_cases b:e.num≤999 <;> simp[a,b,Sh.cont])
 refine⟨_,?_,h1,?_⟩
 ·unfold BK
  simp only[h,decide_true,if_true,len_nil,C3]
  by_cases a:-999≤e.num <;> by_cases b:e.num≤999 <;> by_cases c:e.kids=[] <;> simp[a,b,c,Sh.cont]
 ·split
  ·exact .inr eO
  ·exact .inl rfl
theorem Xr (H:Jd p (ET p) R1 R2 T (en e)) (V:Gn p e v) (hN:2000000≤N) (h:e.op=1∨e.op=2∨e.op=3∨e.op=4):Jh p R1 R2 N v e:=by
 have hk:=V.Il
 have h1:=Js H V hN (by omega) (by omega) (by omega) (by omega) (want:=[0,0]) (c:=decide (e.num=0)) (t:=0) (by simp) (by
  unfold Av
  have e3:CC N (e.kids.map (T v)) [0,0]=some (decide (e.kids.map (T v)=[0,0])):=L4 (by simp;omega) hN
  rcases h with h | h | h | h <;> simp only[h,Int.reduceEq,decide_true,decide_false,Bool.false_eq_true,if_true,if_false,Option.bind_some,Sh.Kl] <;> rw[e3] <;> by_cases a:e.num=0 <;> simp[a])
 refine⟨_,?_,h1,?_⟩
 ·unfold BK
  have e2:=SW H V hN 2
  rw[show ((2:Nat):Int)=2 from rfl,show List.replicate 2 (0:Int)=[0,0] from rfl] at e2
  rcases h with h | h | h | h <;> simp only[h,Int.reduceEq,decide_true,decide_false,Bool.false_eq_true,if_true,if_false,Option.bind_some] <;> rw[e2] <;> by_cases a:e.num=0 <;> by_cases b:e.kids.map (T v)=[0,0] <;> simp[a,b,Sh.cont]
 ·split
  ·exact .inr eO
  ·exact .inl rfl
theorem W5 (H:Jd p (ET p) R1 R2 T (en e)) (V:Gn p e v) (hN:2000000≤N) (h:e.op=5):Jh p R1 R2 N v e:=by
 have hk:=V.Il
 have h1:=Js H V hN (by omega) (by omega) (by omega) (by omega) (want:=[0]) (c:=decide (e.num=0)) (t:=0) (by simp) (by
  unfold Av
  simp only[h,Int.reduceEq,decide_true,decide_false,Bool.false_eq_true,if_true,if_false,Option.bind_some,Sh.Kl]
  rw[L4 (by simp;omega) hN]
  by_cases a:e.num=0 <;> simp[a])
 refine⟨_,?_,h1,?_⟩
 ·unfold BK
  have e2:=SW H V hN 1
  rw[show ((1:Nat):Int)=1 from rfl,show List.replicate 1 (0:Int)=[0] from rfl] at e2
  simp only[h,Int.reduceEq,decide_true,decide_false,Bool.false_eq_true,if_true,if_false,Option.bind_some]
  rw[e2]
  by_cases a:e.num=0 <;> by_cases b:e.kids.map (T v)=[0] <;> simp[a,b,Sh.cont]
 ·split
  ·exact .inr eO
  ·exact .inl rfl
theorem aS (H:Jd p (ET p) R1 R2 T (en e)) (V:Gn p e v) (S:E6 p.decls p.funcs) (hN:2000000≤N) (h:e.op=6):Jh p R1 R2 N v e:=by
 have hk:=V.Il
 have hD:=S.NY
 have hn:=S.nc
 by_cases hr:0≤e.num∧e.num < (nc p.decls:Int)
 ·obtain⟨c,hc⟩:=Int.eq_ofNat_of_zero_le hr.1
  have hc2:c < nc p.decls:=by omega
  obtain⟨t,x,e1,e2⟩:=ML (D:=p.decls) (by omega) (by omega) hc2 hN
  obtain⟨t',x',e1',e3⟩:=LI (D:=p.decls) (by omega) (by omega) hc2 hN
  obtain⟨t'',x'',e1'',e4⟩:=OE (D:=p.decls) (by omega) (by omega) hc2 hN
  rw[e1] at e1' e1''
  cases e1';cases e1''
  obtain⟨g1,g2,d,g3,g4⟩:=Rp e1
  have hx:=S.NK d g3 x g4
  have h1:=Js H V hN (by omega) (by omega) (by omega) (by omega) (want:=x.fields) (c:=true) (t:=(t:Int)) (fun y hy=>(J0 (hx.2 y hy)).1) (by
   unfold Av
   simp only[h,Int.reduceEq,decide_true,decide_false,Bool.false_eq_true,if_true,if_false,Option.bind_some]
   rw[hc,show (ET p).decls=p.decls from rfl,e4]
   simp only[Option.bind_some]
   rw[L4 (by simp;omega) hN,if_pos (by simp)]
   simp[Sh.cont])
  refine⟨_,?_,h1,?_⟩
  ·unfold BK
   simp only[h,Int.reduceEq,decide_true,decide_false,Bool.false_eq_true,if_true,if_false,Option.bind_some]
   rw[hc,e2,e3]
   simp only[Option.bind_some]
   rw[OW H V hN,if_pos (by simp;omega)]
   by_cases b:e.kids.map (T v)=x.fields <;> simp[b,Sh.cont]
  ·split
   ·right;unfold C1;simp;omega
   ·exact .inl rfl
 ·refine⟨-1,?_,?_,.inl rfl⟩
  ·unfold BK
   simp only[h,Int.reduceEq,decide_true,decide_false,Bool.false_eq_true,if_true,if_false,Option.bind_some]
   rw[Q0 (by omega) (by omega) (by omega) hN]
   simp[Sh.cont]
  ·rw[FO H V hN (by omega) (by omega) (by omega) (by omega)]
   unfold Av
   simp only[h,Int.reduceEq,decide_true,decide_false,Bool.false_eq_true,if_true,if_false,Option.bind_some]
   rw[show (ET p).decls=p.decls from rfl,Si (by omega) (by omega) V.FE.num (by omega) hN]
   simp[Sh.cont]
theorem XS (H:Jd p (ET p) R1 R2 T (en e)) (V:Gn p e v) (hN:2000000≤N) (h:e.op < 0∨13 < e.op):Jh p R1 R2 N v e:=by
 refine⟨-1,?_,?_,.inl rfl⟩
 ·unfold BK
  simp only[show ¬ e.op=0 by omega,show ¬ e.op=12 by omega,show ¬ e.op=1 by omega,show ¬ e.op=2 by omega,show ¬ e.op=3 by omega,show ¬ e.op=4 by omega,show ¬ e.op=5 by omega,show ¬ e.op=6 by omega,show ¬ e.op=13 by omega,show ¬ e.op=7 by omega,show ¬ e.op=8 by omega,show ¬ e.op=9 by omega,show ¬ e.op=10 by omega,show ¬ e.op=11 by omega,decide_false,Bool.false_eq_true,if_false,Option.bind_some]
  simp[Sh.cont]
 ·rw[FO H V hN (by omega) (by omega) (by omega) (by omega)]
  unfold Av
  simp only[show ¬ e.op=0 by omega,show ¬ e.op=12 by omega,show ¬ e.op=1 by omega,show ¬ e.op=2 by omega,show ¬ e.op=3 by omega,show ¬ e.op=4 by omega,show ¬ e.op=5 by omega,show ¬ e.op=6 by omega,show ¬ e.op=13 by omega,show ¬ e.op=7 by omega,show ¬ e.op=8 by omega,show ¬ e.op=9 by omega,show ¬ e.op=10 by omega,show ¬ e.op=11 by omega,decide_false,Bool.false_eq_true,if_false,Option.bind_some]
  simp[Sh.cont]
theorem Z8 (V:Gn p e v) (h:e.op=12):Jh p R1 R2 N v e:=by
 have hv:v.length≤1000:=by have:=V.len;omega
 unfold Jh BK Al
 simp only[h,Int.reduceEq,decide_true,decide_false,Bool.false_eq_true,if_true,if_false,Option.bind_some,len_nil,C3]
 rw[AK,A3 (by omega) (by omega)]
 cases hks:e.kids with
 | cons a r=>exact⟨-1,by simp[Sh.cont],by simp[AK],.inl rfl⟩
 | nil=>
  by_cases h1:0≤e.num
  ·by_cases h2:e.num < (v.length:Int)
   ·obtain⟨x,g1,g2⟩:=Nf h1 h2
    have h3:e.num≤(v.length:Int) - 1:=by omega
    have h4:¬ e.num < 0:=by omega
    have h5:¬ (v.length:Int)≤e.num:=by omega
    refine⟨x,?_,?_,.inr (V.It x (List.mem_of_getElem? g2))⟩
    ·simp[h1,h3,g1,Sh.cont]
    ·simp[h4,h5,g1,AK]
   ·have h3:¬ e.num≤(v.length:Int) - 1:=by omega
    have h4:¬ e.num < 0:=by omega
    have h5:(v.length:Int)≤e.num:=by omega
    exact⟨-1,by simp[h1,h3,Sh.cont],by simp[h4,h5,AK],.inl rfl⟩
  ·have h4:e.num < 0:=by omega
   exact⟨-1,by simp[h1,Sh.cont],by simp[h4,AK],.inl rfl⟩
end
end RC



namespace RC
open Go
section
variable {p : AN} {R1 : AN → List Int → AD → Option Int} {R2 : List Int → A1 → AD → Option Int} {T : List Int → AD → Int} {e : AD} {v : List Int} {N : Nat}
theorem aR (H:Jd p (ET p) R1 R2 T (en e)) (V:Gn p e v) (h:e.op=13):Jh p R1 R2 N v e:=by
 have hv:v.length≤1000:=by have:=V.len;omega
 unfold Jh BK Al
 simp only[h,Int.reduceEq,decide_true,decide_false,Bool.false_eq_true,if_true,if_false,Option.bind_some]
 by_cases hl:e.kids.length=2
 ·obtain⟨a,b,hk⟩ :∃a b,e.kids=[a,b]:=by
   match hk:e.kids,hl with
   | [a,b],_=>exact⟨a,b,rfl⟩
  have hma:a∈e.kids:=by rw[hk];simp
  have hmb:b∈e.kids:=by rw[hk];simp
  obtain⟨a1,a2,a3⟩:=H v a (V.FE.kids a hma) (B7 hma) (V.Jg hma) V.It
  have g0:Sh.get e.kids 0=some a:=by rw[hk];rfl
  have g1:Sh.get e.kids 1=some b:=by rw[hk];rfl
  rw[g0,g1]
  simp only[Option.bind_some,AK,hl]
  rw[a1,a2]
  simp only[Option.bind_some]
  by_cases hn:e.num=0
  ·by_cases ht:0≤T v a
   ·have ht':¬ T v a < 0:=by omega
    have hty:C1 p.decls (T v a)=true:=by
     rcases a3 with q | q
     ·omega
     ·exact q
    obtain⟨b1,b2,b3⟩:=H (v ++ [T v a]) b (V.FE.kids b hmb) (B7 hmb) (V.more hmb (by simp)) (V.Uc (by simp[hty]))
    refine⟨T (v ++ [T v a]) b,?_,?_,b3⟩
    ·rw[TU hv (by simp)]
     simp[hn,ht,b1,Sh.cont]
    ·rw[CL v [T v a] 8 (by simp;omega) (by simp;omega)]
     simp[hn,ht',b2]
   ·have ht':T v a < 0:=by omega
    exact⟨-1,by simp[hn,ht,Sh.cont],by simp[hn,ht'],.inl rfl⟩
  ·exact⟨-1,by simp[hn,Sh.cont],by simp[hn],.inl rfl⟩
 ·have hl':¬ ((e.kids.length:Int)=2):=by omega
  refine⟨-1,?_,?_,.inl rfl⟩
  ·by_cases hn:e.num=0 <;> simp[hn,AK,hl',Sh.cont]
  ·simp[AK,hl']
theorem Vp (x y:Int):J6 [x,y]=if y=x then x else -1:=by
 unfold J6
 by_cases h:y=x <;> simp[h]
theorem cJ (H:Jd p (ET p) R1 R2 T (en e)) (V:Gn p e v) (hN:2000000≤N) (h:e.op=7):Jh p R1 R2 N v e:=by
 have hv:v.length≤1000:=by have:=V.len;omega
 unfold Jh BK Al
 simp only[h,Int.reduceEq,decide_true,decide_false,Bool.false_eq_true,if_true,if_false,Option.bind_some]
 by_cases hl:e.kids.length=3
 ·obtain⟨a,b,c,hk⟩ :∃a b c,e.kids=[a,b,c]:=by
   match hk:e.kids,hl with
   | [a,b,c],_=>exact⟨a,b,c,rfl⟩
  have hma:a∈e.kids:=by rw[hk];simp
  have hmb:b∈e.kids:=by rw[hk];simp
  have hmc:c∈e.kids:=by rw[hk];simp
  obtain⟨a1,a2,a3⟩:=H v a (V.FE.kids a hma) (B7 hma) (V.Jg hma) V.It
  obtain⟨b1,b2,b3⟩:=H v b (V.FE.kids b hmb) (B7 hmb) (V.Jg hmb) V.It
  obtain⟨c1,c2,c3⟩:=H v c (V.FE.kids c hmc) (B7 hmc) (V.Jg hmc) V.It
  have g0:Sh.get e.kids 0=some a:=by rw[hk];rfl
  have g1:Sh.get e.kids 1=some b:=by rw[hk];rfl
  have g2:Sh.get e.kids 2=some c:=by rw[hk];rfl
  have g3:Sh.sl e.kids 1 3=some [b,c]:=by rw[hk];rfl
  have o:=Iq (ks:=[b,c]) (ms:=[[],[]]) H V hN (by intro k hk;simp only[List.mem_cons,List.not_mem_nil,or_false] at hk;rcases hk with rfl | rfl <;> assumption) (by simp) rfl (by simp)
  have mk2:Sh.mk ([]:List Int) 2 24=some [[],[]]:=Ie [] 2 24 (by omega) (by omega)
  rw[g0,g1,g2]
  simp only[Option.bind_some,AK,hl]
  rw[a1,a2,b1,c1,show ((3:Nat):Int)=3 from rfl,g3,mk2]
  simp only[Option.bind_some]
  rw[o]
  simp only[Option.bind_some,List.zipWith,List.append_nil,Vp]
  by_cases hn:e.num=0
  ·by_cases ht:T v a=0
   ·by_cases hq:T v c=T v b
    ·exact⟨T v b,by simp[hn,ht,hq,Sh.cont],by simp[hn,ht,hq],b3⟩
    ·exact⟨-1,by simp[hn,ht,hq,Sh.cont],by simp[hn,ht,hq],.inl rfl⟩
   ·exact⟨-1,by simp[hn,ht,Sh.cont],by simp[hn,ht],.inl rfl⟩
  ·exact⟨-1,by simp[hn,Sh.cont],by simp[hn],.inl rfl⟩
 ·have hl':¬ ((e.kids.length:Int)=3):=by omega
  refine⟨-1,?_,?_,.inl rfl⟩
  ·by_cases hn:e.num=0 <;> simp[hn,AK,hl',Sh.cont]
  ·simp[AK,hl']
theorem WU {n:Int}:(∃f,0≤n∧n < (p.funcs.length:Int)∧p.funcs[n.toNat]?=some f∧f∈p.funcs∧Sh.get p.funcs n=some f∧Sh.get (ET p).funcs n=some ⟨f.params,[],f.result⟩)∨(n < 0∨(p.funcs.length:Int)≤n):=by
 by_cases h:0≤n∧n < (p.funcs.length:Int)
 ·obtain⟨f,h1,h2⟩:=Nf h.1 h.2
  refine .inl ⟨f,h.1,h.2,h2,List.mem_of_getElem? h2,h1,?_⟩
  rw[VP h.1]
  show ((p.funcs.map fun f=>(⟨f.params,[],f.result⟩:BI)))[n.toNat]?=_
  rw[List.getElem?_map,h2];rfl
 ·exact .inr (by omega)
theorem LV:(ET p).funcs.length=p.funcs.length:=by show (p.funcs.map _).length=_;simp
theorem YN (H:Jd p (ET p) R1 R2 T (en e)) (V:Gn p e v) (S:E6 p.decls p.funcs) (hN:2000000≤N) (h:e.op=9):Jh p R1 R2 N v e:=by
 have hk:=V.Il
 have hF:=S.LF
 rcases WU (p:=p) (n:=e.num) with ⟨f,f0,f1,f2,f3,f4,f5⟩ | hr
 ·obtain⟨q1,q2,q3⟩:=S.MN f f3
  have f0':¬ e.num < 0:=by omega
  have f1':¬ (p.funcs.length:Int)≤e.num:=by omega
  have f1'':e.num≤(p.funcs.length:Int) - 1:=by omega
  have h1:=Js H V hN (by omega) (by omega) (by omega) (by omega) (want:=f.params) (c:=true) (t:=f.result) (fun y hy=>(J0 (q2 y hy)).1) (by
   unfold Av
   simp only[h,Int.reduceEq,decide_true,decide_false,Bool.false_eq_true,if_true,if_false,Option.bind_some,AK,LV,f0',f1']
   rw[f5]
   simp only[Option.bind_some]
   rw[L4 (by simp;omega) hN]
   simp[Sh.cont])
  refine⟨_,?_,h1,?_⟩
  ·unfold BK EK
   simp only[h,Int.reduceEq,decide_true,decide_false,Bool.false_eq_true,if_true,if_false,Option.bind_some]
   rw[C3,AK p.funcs,A3 (n:=(p.funcs.length:Int) - 1) (by omega) (by omega),f4]
   simp only[h,Int.reduceEq,decide_true,decide_false,Bool.false_eq_true,if_true,if_false,Option.bind_some,f0,f1'',Bool.and_self,Bool.not_true]
   rw[OW H V hN]
   by_cases b:e.kids.map (T v)=f.params <;> simp[b,Sh.cont]
  ·split
   ·exact .inr q3
   ·exact .inl rfl
 ·refine⟨-1,?_,?_,.inl rfl⟩
  ·unfold BK EK
   simp only[h,Int.reduceEq,decide_true,decide_false,Bool.false_eq_true,if_true,if_false,Option.bind_some]
   rw[C3,AK p.funcs,A3 (n:=(p.funcs.length:Int) - 1) (by omega) (by omega)]
   have:(decide (0≤e.num) && decide (e.num≤(p.funcs.length:Int) - 1))=false:=by
    rw[Bool.and_eq_false_iff,decide_eq_false_iff_not,decide_eq_false_iff_not];omega
   rw[this]
   simp only[h,Int.reduceEq,decide_true,decide_false,Bool.false_eq_true,if_true,if_false,Option.bind_some]
   simp[Sh.cont]
  ·rw[FO H V hN (by omega) (by omega) (by omega) (by omega)]
   unfold Av
   simp only[h,Int.reduceEq,decide_true,decide_false,Bool.false_eq_true,if_true,if_false,Option.bind_some,AK,LV]
   rcases hr with hr | hr
   ·simp[hr,Sh.cont]
   ·have:¬ e.num < 0:=by omega
    simp[hr,this,Sh.cont]
theorem Xi {α:Type} {l:List α} {m:Nat} (h:m≤l.length):Sh.sl l 0 (m:Int)=some (l.take m):=by
 unfold Sh.sl
 rw[if_pos ⟨by omega,by omega,by omega⟩];simp
theorem Xq (H:Jd p (ET p) R1 R2 T (en e)) (V:Gn p e v) (S:E6 p.decls p.funcs) (hN:2000000≤N) (h:e.op=10):Jh p R1 R2 N v e:=by
 have hk:=V.Il
 have hF:=S.LF
 have hD:=S.NY
 rcases WU (p:=p) (n:=e.num) with ⟨f,f0,f1,f2,f3,f4,f5⟩ | hr
 ·obtain⟨q1,q2,q3⟩:=S.MN f f3
  have f0':¬ e.num < 0:=by omega
  have f1':¬ (p.funcs.length:Int)≤e.num:=by omega
  have f1'':e.num≤(p.funcs.length:Int) - 1:=by omega
  by_cases hp:f.params.length=0
  ·have hp':f.params=[]:=List.eq_nil_of_length_eq_zero hp
   refine⟨-1,?_,?_,.inl rfl⟩
   ·unfold BK EK
    simp only[h,Int.reduceEq,decide_true,decide_false,Bool.false_eq_true,if_true,if_false,Option.bind_some]
    rw[C3,AK p.funcs,A3 (n:=(p.funcs.length:Int) - 1) (by omega) (by omega),f4]
    simp only[h,Int.reduceEq,decide_true,decide_false,Bool.false_eq_true,if_true,if_false,Option.bind_some,f0,f1'',Bool.and_self,Bool.not_true,len_nil,hp']
    simp[Sh.cont]
   ·rw[FO H V hN (by omega) (by omega) (by omega) (by omega)]
    unfold Av
    simp only[h,Int.reduceEq,decide_true,decide_false,Bool.false_eq_true,if_true,if_false,Option.bind_some,AK,LV,f0',f1']
    rw[f5]
    simp only[Option.bind_some,hp]
    rw[A3 (by omega) (by omega)]
    simp[Sh.cont]
  ·obtain⟨m,hm⟩ :∃m,f.params.length=m+1:=⟨f.params.length - 1,by omega⟩
   obtain⟨x,hx,hxm⟩:=BV (l:=f.params) (i:=m) (by omega)
   have hp':¬ f.params=[]:=fun q=>hp (by rw[q];rfl)
   have hw:Sh.w ((f.params.length:Int) - 1)=(m:Int):=by rw[A3 (by omega) (by omega)];omega
   have hm0:¬ ((m:Int) < 0):=by omega
   have hty:H4 x f.result p.decls 0=-1∨C1 p.decls (H4 x f.result p.decls 0)=true:=by
    rcases XX (a:=x) (b:=f.result) p.decls 0 with q | q
    ·exact .inl q
    ·right;unfold C1;simp;omega
   have h1:=Js H V hN (by omega) (by omega) (by omega) (by omega) (want:=f.params.take m) (c:=decide (0≤H4 x f.result p.decls 0)) (t:=H4 x f.result p.decls 0) (fun y hy=>(J0 (q2 y (List.mem_of_mem_take hy))).1) (by
    unfold Av
    simp only[h,Int.reduceEq,decide_true,decide_false,Bool.false_eq_true,if_true,if_false,Option.bind_some,AK,LV,f0',f1']
    rw[f5]
    simp only[Option.bind_some,hw,hm0,decide_false,Bool.false_eq_true,if_false]
    rw[At hx]
    simp only[Option.bind_some]
    rw[show (ET p).decls=p.decls from rfl,RX (by omega) hN,Xi (by omega)]
    simp only[Option.bind_some]
    rw[L4 (by simp;omega) hN]
    by_cases z:0≤H4 x f.result p.decls 0 <;> simp[z,Sh.cont])
   refine⟨_,?_,h1,?_⟩
   ·unfold BK EK
    simp only[h,Int.reduceEq,decide_true,decide_false,Bool.false_eq_true,if_true,if_false,Option.bind_some]
    rw[C3,AK p.funcs,A3 (n:=(p.funcs.length:Int) - 1) (by omega) (by omega),f4]
    simp only[h,Int.reduceEq,decide_true,decide_false,Bool.false_eq_true,if_true,if_false,Option.bind_some,f0,f1'',Bool.and_self,Bool.not_true,len_nil,hp']
    rw[AK,hw,Xi (by omega),At hx]
    simp only[Option.bind_some]
    rw[OW H V hN,RI (by omega) hN]
    by_cases b:e.kids.map (T v)=f.params.take m
    ·by_cases z:0≤H4 x f.result p.decls 0
     ·simp[b,z,Sh.cont]
     ·have:H4 x f.result p.decls 0=-1:=by
       rcases hty with q | q
       ·exact q
       ·exact absurd (J0 q).1 z
      simp[b,this,Sh.cont]
    ·simp[b,Sh.cont]
   ·split
    ·exact hty
    ·exact .inl rfl
 ·refine⟨-1,?_,?_,.inl rfl⟩
  ·unfold BK EK
   simp only[h,Int.reduceEq,decide_true,decide_false,Bool.false_eq_true,if_true,if_false,Option.bind_some]
   rw[C3,AK p.funcs,A3 (n:=(p.funcs.length:Int) - 1) (by omega) (by omega)]
   have:(decide (0≤e.num) && decide (e.num≤(p.funcs.length:Int) - 1))=false:=by
    rw[Bool.and_eq_false_iff,decide_eq_false_iff_not,decide_eq_false_iff_not];omega
   rw[this]
   simp only[h,Int.reduceEq,decide_true,decide_false,Bool.false_eq_true,if_true,if_false,Option.bind_some]
   simp[Sh.cont]
  ·rw[FO H V hN (by omega) (by omega) (by omega) (by omega)]
   unfold Av
   simp only[h,Int.reduceEq,decide_true,decide_false,Bool.false_eq_true,if_true,if_false,Option.bind_some,AK,LV]
   rcases hr with hr | hr
   ·simp[hr,Sh.cont]
   ·have:¬ e.num < 0:=by omega
    simp[hr,this,Sh.cont]
theorem XR (H:Jd p (ET p) R1 R2 T (en e)) (V:Gn p e v) (S:E6 p.decls p.funcs) (hN:2000000≤N) (h:e.op=11):Jh p R1 R2 N v e:=by
 have hk:=V.Il
 have hD:=S.NY
 by_cases hl:e.kids.length=2
 ·obtain⟨a,b,hk⟩ :∃a b,e.kids=[a,b]:=by
   match hk:e.kids,hl with
   | [a,b],_=>exact⟨a,b,rfl⟩
  have hma:a∈e.kids:=by rw[hk];simp
  have hmb:b∈e.kids:=by rw[hk];simp
  obtain⟨a1,a2,a3⟩:=H v a (V.FE.kids a hma) (B7 hma) (V.Jg hma) V.It
  obtain⟨b1,b2,b3⟩:=H v b (V.FE.kids b hmb) (B7 hmb) (V.Jg hmb) V.It
  have g0:Sh.get e.kids 0=some a:=by rw[hk];rfl
  have g1:Sh.get e.kids 1=some b:=by rw[hk];rfl
  have i1:Sh.get (e.kids.map (T v)) 0=some (T v a):=by rw[hk];rfl
  have i2:Sh.get (e.kids.map (T v)) 1=some (T v b):=by rw[hk];rfl
  have imp:Al N R2 v (ET p) e=some ((O4 p.decls (T v a)).elim (-1) fun d=>if T v b=d.from_∧e.num=0 then d.to else -1):=by
   rw[FO H V hN (by omega) (by omega) (by omega) (by omega)]
   unfold Av
   simp only[h,Int.reduceEq,decide_true,decide_false,Bool.false_eq_true,if_true,if_false,Option.bind_some,AK,List.length_map,hl]
   rw[i1,i2]
   simp only[Option.bind_some]
   rw[show (ET p).decls=p.decls from rfl,RR (by omega)]
   simp only[Option.bind_some]
   cases hA:O4 p.decls (T v a) with
   | none=>simp[Sh.cont]
   | some d=>
    obtain⟨m1,m2,m3,m4⟩:=Ry hA
    have m5:=S.dg d m1
    have n1:¬ T v a < 0:=by omega
    by_cases c1:T v b=d.from_
    ·have n2:¬ T v b < 0:=by rw[c1];have:=(J0 m5.1).1;omega
     have n3:¬ d.from_ < 0:=c1 ▸ n2
     by_cases c2:e.num=0 <;> simp[hk,n1,c1,n3,c2,Sh.cont]
    ·simp[c1,Sh.cont]
  refine⟨_,?_,imp,?_⟩
  ·unfold BK
   simp only[h,Int.reduceEq,decide_true,decide_false,Bool.false_eq_true,if_true,if_false,Option.bind_some,AK,hl]
   rw[g0,g1]
   simp only[Option.bind_some]
   rw[a1]
   simp only[Option.bind_some]
   rw[Rn (by omega),b1]
   simp only[Option.bind_some]
   cases hA:O4 p.decls (T v a) with
   | none=>by_cases c2:e.num=0 <;> simp[c2,Sh.cont]
   | some d=>
    obtain⟨m1,m2,m3,m4⟩:=Ry hA
    have g5:Sh.get p.decls (Sh.w (T v a - 1))=some d:=by rw[A3 (by omega) (by omega),VP (by omega),m4]
    rw[g5]
    by_cases c2:e.num=0 <;> by_cases c1:T v b=d.from_ <;> simp[c1,c2,Sh.cont]
  ·cases hA:O4 p.decls (T v a) with
   | none=>exact .inl rfl
   | some d=>
    obtain⟨m1,_⟩:=Ry hA
    simp only[Option.elim_some]
    split
    ·exact .inr (S.dg d m1).2
    ·exact .inl rfl
 ·have hl':¬ ((e.kids.length:Int)=2):=by omega
  refine⟨-1,?_,?_,.inl rfl⟩
  ·unfold BK
   simp only[h,Int.reduceEq,decide_true,decide_false,Bool.false_eq_true,if_true,if_false,Option.bind_some,AK,hl']
   by_cases c2:e.num=0 <;> simp[c2,Sh.cont]
  ·rw[FO H V hN (by omega) (by omega) (by omega) (by omega)]
   unfold Av
   simp only[h,Int.reduceEq,decide_true,decide_false,Bool.false_eq_true,if_true,if_false,Option.bind_some,AK,List.length_map,hl']
   simp[Sh.cont]
end
end RC



namespace RC
open Go
def FW (D:List Ab) (c:Int):List Int:=(KW D 0 c.toNat).elim [] fun x=>x.2.fields
theorem Y3 {D:List Ab} {t c:Int} (h:c∈Db D t) :∃k:Nat,c=(k:Int)∧k < nc D:=by
 unfold Db at h
 split at h
 ·rename_i h1
  obtain⟨a,ha⟩ :∃a:Nat,t=(a:Int) + 1:=⟨(t - 1).toNat,by omega⟩
  subst ha
  obtain⟨d,hd,_⟩:=BV (l:=D) (i:=a) (by omega)
  rw[show (((a:Int) + 1) - 1).toNat=a by omega,hd] at h
  simp only[Option.elim_some,List.mem_map,List.mem_range] at h
  obtain⟨i,hi,rfl⟩:=h
  have hs:=Gf D a
  rw[Qa hd] at hs
  exact⟨nc (D.take a) + i,by omega,by omega⟩
 ·cases h
theorem Ky {D:List Ab} (h :∀d∈D,d.cons.length≤3) (t:Int):(Db D t).length≤3:=by
 unfold Db
 split
 ·rename_i h1
  obtain⟨a,ha⟩ :∃a:Nat,t=(a:Int) + 1:=⟨(t - 1).toNat,by omega⟩
  subst ha
  obtain⟨d,hd,hm⟩:=BV (l:=D) (i:=a) (by omega)
  rw[show (((a:Int) + 1) - 1).toNat=a by omega,hd]
  simp only[Option.elim_some,List.length_map,List.length_range]
  exact h d hm
 ·simp
theorem Qh {D:List Ab} {F:List Ah} (S:E6 D F) {t c:Int} (h:c∈Db D t) {N:Nat} (hN:2000000≤N):CP N D c=some (FW D c)∧DK N D c=some (FW D c)∧(FW D c).length≤3∧∀x∈FW D c,C1 D x=true:=by
 obtain⟨k,rfl,hk⟩:=Y3 h
 have hD:=S.NY
 have hn:=S.nc
 obtain⟨t,x,e1,e2⟩:=LI (D:=D) (by omega) (by omega) hk hN
 obtain⟨t',x',e1',e3⟩:=RE (D:=D) (by omega) (by omega) hk hN
 rw[e1] at e1'
 cases e1'
 obtain⟨_,_,d,g3,g4⟩:=Rp e1
 have hf:FW D (k:Int)=x.fields:=by unfold FW;rw[Int.toNat_natCast,e1];rfl
 rw[hf]
 exact⟨e2,e3,S.NK d g3 x g4⟩
section
variable {p : AN} {R1 : AN → List Int → AD → Option Int} {R2 : List Int → A1 → AD → Option Int} {T : List Int → AD → Int} {e : AD} {v : List Int} {N : Nat}
theorem My (S:E6 p.decls p.funcs) (hN:2000000≤N) {C:List Int} (hC:C.length≤3) (hc :∀c∈C,DK N p.decls c=some (FW p.decls c)):BS N (ET p) C N 0 (List.replicate C.length [])=some (C.map (FW p.decls)):=by
 have key :∀{M i:Nat},i≤C.length→C.length - i < M→∀m:List (List Int),m.length=C.length→m.take i=(C.map (FW p.decls)).take i→BS N (ET p) C M i m=some (C.map (FW p.decls)):=by
  intro M i hi hM
  refine BO C.length (fun M i=>∀m:List (List Int),m.length=C.length→m.take i=(C.map (FW p.decls)).take i→BS N (ET p) C M i m=some (C.map (FW p.decls))) ?_ ?_ hi hM
  ·intro n m a b
   rw[BS,if_neg (by simp[AK])]
   rw[List.take_of_length_le (by omega),List.take_of_length_le (by simp)] at b
   rw[b]
  ·intro n i hi ih m a b
   obtain⟨x,hx,hxm⟩:=BV hi
   obtain⟨y,hy,_⟩:=BV (l:=m) (i:=i) (by omega)
   have hx2:(C.map (FW p.decls))[i]?=some (FW p.decls x):=by rw[List.getElem?_map,hx];rfl
   have hi':(m.set i (FW p.decls x))[i]?=some (FW p.decls x):=by rw[List.getElem?_set_self (by omega)]
   rw[BS,if_pos (by simp[AK];omega),At hx]
   simp only[Option.bind_some]
   rw[show (ET p).decls=p.decls from rfl,hc x hxm,At hy]
   simp only[Option.bind_some]
   rw[Hm,A3 (by omega) (by omega),show ((i:Int) + 1)=((i+1:Nat):Int) by omega]
   exact ih _ (by simp[a]) (by rw[B8 hi',B8 hx2,← b,List.take_set_of_le (Nat.le_refl _)])
 have:=key (Nat.zero_le _) (by omega:C.length - 0 < N) (List.replicate C.length []) (by simp) rfl
 simpa using this
theorem Xb (H:Jd p (ET p) R1 R2 T (en e)) (V:Gn p e v) (S:E6 p.decls p.funcs) (hN:2000000≤N) (h:e.op=8):Jh p R1 R2 N v e:=by
 have hk:=V.Il
 have hD:=S.NY
 have hn:=S.nc
 have hv:v.length≤1000:=by have:=V.len;omega
 have hCl:=Ky S.Tj e.num
 unfold Jh BK Al IY
 simp only[h,Int.reduceEq,decide_true,decide_false,Bool.false_eq_true,if_true,if_false,Option.bind_some]
 rw[show (ET p).decls=p.decls from rfl,NA (by omega) (by omega) hN,G3 (by omega) (by omega) hN]
 simp only[Option.bind_some]
 generalize hCe:Db p.decls e.num=C at hCl
 have hCm :∀c∈C,CP N p.decls c=some (FW p.decls c)∧DK N p.decls c=some (FW p.decls c)∧(FW p.decls c).length≤3∧∀x∈FW p.decls c,C1 p.decls x=true:=fun c hc=>Qh S (hCe ▸ hc) hN
 rw[AK C,AK e.kids,A3 (n:=1+(C.length:Int)) (by omega) (by omega)]
 by_cases h0:C.length=0
 ·exact⟨-1,by simp[h0,Sh.cont],by simp[h0],.inl rfl⟩
 ·have h0':¬ ((C.length:Int)=0):=by omega
  have hne:¬ C=[]:=fun q=>h0 (by rw[q];rfl)
  by_cases h1:e.kids.length=1+C.length
  ·have h1':((e.kids.length:Int)=1+(C.length:Int)):=by omega
   obtain⟨a,r,hks⟩ :∃a r,e.kids=a :: r:=by
    cases hq:e.kids with
    | nil=>rw[hq] at h1;simp at h1;omega
    | cons a r=>exact⟨a,r,rfl⟩
   have hrl:r.length=C.length:=by rw[hks] at h1;simp at h1;omega
   have hma:a∈e.kids:=by rw[hks];simp
   have hmr :∀k∈r,k∈e.kids:=fun k hk=>by rw[hks];simp[hk]
   obtain⟨a1,a2,a3⟩:=H v a (V.FE.kids a hma) (B7 hma) (V.Jg hma) V.It
   have g0:Sh.get e.kids 0=some a:=by rw[hks];rfl
   have gi :∀(i:Nat) k,r[i]?=some k→Sh.get e.kids ((1+i:Nat):Int)=some k:=fun i k hk=>by
    rw[Np,hks,Nat.add_comm];simpa using hk
   have g3:Sh.sl e.kids 1 (e.kids.length:Int)=some r:=by
    unfold Sh.sl
    rw[if_pos ⟨by omega,by omega,by omega⟩,hks];simp
   have mkC:Sh.mk ([]:List Int) (C.length:Int) 24=some (List.replicate C.length []):=Ie [] C.length 24 (by omega) (by omega)
   have o:=Iq (ks:=r) (ms:=C.map (FW p.decls)) H V hN hmr (by omega) (by simp[hrl]) (by
    intro m hm
    obtain⟨c,hc,rfl⟩:=List.mem_map.1 hm
    exact (hCm c hc).2.2)
   have F:=My (p:=p) S hN hCl fun c hc=>(hCm c hc).2.1
   generalize hts:List.zipWith (fun m k=>T (v ++ m) k) (C.map (FW p.decls)) r=ts at o
   have tsl:ts.length=C.length:=by rw[← hts];simp[hrl]
   have tsi :∀(i:Nat),i < C.length→∃c k,C[i]?=some c∧r[i]?=some k∧ts[i]?=some (T (v ++ FW p.decls c) k)∧CP N p.decls c=some (FW p.decls c)∧GQ v (FW p.decls c)=some (v ++ FW p.decls c)∧R1 p (v ++ FW p.decls c) k=some (T (v ++ FW p.decls c) k)∧(T (v ++ FW p.decls c) k=-1∨C1 p.decls (T (v ++ FW p.decls c) k)=true):=fun i hi=>by
    obtain⟨c,hc,hcm⟩:=BV (l:=C) (i:=i) hi
    obtain⟨k,hk2,hkm⟩:=BV (l:=r) (i:=i) (by omega)
    obtain⟨q1,q2,q3,q4⟩:=hCm c hcm
    obtain⟨z1,z2,z3⟩:=H (v ++ FW p.decls c) k (V.FE.kids k (hmr k hkm)) (B7 (hmr k hkm)) (V.more (hmr k hkm) q3) (V.Uc q4)
    refine⟨c,k,hc,hk2,?_,q1,TU hv (by omega),z1,z3⟩
    rw[← hts,List.getElem?_zipWith,List.getElem?_map,hc,hk2];rfl
   have L :∀(t:Int) {M i:Nat},i≤C.length→C.length - i < M→DD N p v e t C R1 M i=some (if (ts.drop i).all (fun x=>decide (x=t))=true then .inr () else .inl (-1)):=by
    intro t M i hi hM
    refine BO C.length (fun M i=>DD N p v e t C R1 M i=some (if (ts.drop i).all (fun x=>decide (x=t))=true then .inr () else .inl (-1))) ?_ ?_ hi hM
    ·intro n
     rw[DD,if_neg (by simp[AK]),List.drop_of_length_le (by omega)];rfl
    ·intro n i hi ih
     obtain⟨c,k,q1,q2,q3,q4,q5,q6,q7⟩:=tsi i hi
     rw[DD,if_pos (by simp[AK];omega),At q1]
     simp only[Option.bind_some]
     rw[q4]
     simp only[Option.bind_some]
     rw[q5,A3 (n:=(1:Int) + (i:Int)) (by omega) (by omega),show ((1:Int) + (i:Int))=((1+i:Nat):Int) by omega,gi i k q2]
     simp only[Option.bind_some]
     rw[q6,A3 (by omega) (by omega),show ((i:Int) + 1)=((i+1:Nat):Int) by omega,drop_cons q3,List.all_cons]
     simp only[Option.bind_some]
     by_cases z:T (v ++ FW p.decls c) k=t
     ·simp only[z,decide_true,Bool.not_true,Bool.false_eq_true,if_false,Bool.true_and]
      exact ih
     ·simp[z]
   rw[g0,g3,mkC]
   simp only[Option.bind_some]
   rw[a1,a2]
   simp only[Option.bind_some]
   rw[F]
   simp only[Option.bind_some]
   rw[o]
   obtain⟨c,k,q1,q2,q3,q4,q5,q6,q7⟩:=tsi 0 (by omega)
   have g1:=gi 0 k q2
   have c0:Sh.get C 0=some c:=by rw[show (0:Int)=((0:Nat):Int) from rfl,At q1]
   rw[show ((1+0:Nat):Int)=1 from rfl] at g1
   rw[c0]
   simp only[Option.bind_some]
   rw[q4]
   simp only[Option.bind_some]
   rw[q5,g1]
   simp only[Option.bind_some]
   rw[q6]
   simp only[Option.bind_some]
   have L1:=L (T (v ++ FW p.decls c) k) (M:=N) (i:=1) (by omega) (by omega)
   rw[show ((1:Nat):Int)=1 from rfl] at L1
   rw[L1]
   have hts2:ts=T (v ++ FW p.decls c) k :: ts.drop 1:=by
    have:=drop_cons q3
    simpa using this
   by_cases z:T v a=e.num
   ·by_cases y:(ts.drop 1).all (fun x=>decide (x=T (v ++ FW p.decls c) k))=true
    ·have ho:J6 ts=T (v ++ FW p.decls c) k:=by rw[hts2];unfold J6;dsimp only;rw[if_pos y]
     refine⟨T (v ++ FW p.decls c) k,?_,?_,q7⟩
     ·rw[if_pos y]
      simp[h0',hne,h1',z,Sh.cont]
     ·rw[ho]
      simp[h0',hne,h1',z]
    ·have ho:J6 ts=-1:=by rw[hts2];unfold J6;dsimp only;rw[if_neg y]
     refine⟨-1,?_,?_,.inl rfl⟩
     ·rw[if_neg y]
      simp[h0',hne,h1',z,Sh.cont]
     ·rw[ho]
      simp[h0',hne,h1',z]
   ·exact⟨-1,by simp[h0',hne,h1',z,Sh.cont],by simp[h0',hne,h1',z],.inl rfl⟩
  ·have h1':¬ ((e.kids.length:Int)=1+(C.length:Int)):=by omega
   exact⟨-1,by simp[h0',hne,h1',Sh.cont],by simp[h0',hne,h1'],.inl rfl⟩
theorem Yu (H:Jd p (ET p) R1 R2 T (en e)) (V:Gn p e v) (S:E6 p.decls p.funcs) (hN:2000000≤N):Jh p R1 R2 N v e:=by
 by_cases h0:e.op=0
 ·exact Zk H V hN h0
 by_cases h1:e.op=1∨e.op=2∨e.op=3∨e.op=4
 ·exact Xr H V hN h1
 by_cases h5:e.op=5
 ·exact W5 H V hN h5
 by_cases h6:e.op=6
 ·exact aS H V S hN h6
 by_cases h7:e.op=7
 ·exact cJ H V hN h7
 by_cases h8:e.op=8
 ·exact Xb H V S hN h8
 by_cases h9:e.op=9
 ·exact YN H V S hN h9
 by_cases h10:e.op=10
 ·exact Xq H V S hN h10
 by_cases h11:e.op=11
 ·exact XR H V S hN h11
 by_cases h12:e.op=12
 ·exact Z8 V h12
 by_cases h13:e.op=13
 ·exact aR H V h13
 exact XS H V hN (by omega)
end
theorem OV {p:AN} (S:E6 p.decls p.funcs) {N:Nat} (hN:2000000≤N) :∀(n:Nat),∃T:List Int→AD→Int,∀(v:List Int) (e:AD),Bn e→en e < n→v.length+3 * en e≤1000→(∀x∈v,C1 p.decls x=true)→
  ∀n1 n2,n≤n1→n≤n2→Bo N n1 p v e=some (T v e)∧A9 N n2 v (ET p) e=some (T v e)∧(T v e=-1∨C1 p.decls (T v e)=true):=by
 intro n
 induction n with
 | zero=>exact⟨fun _ _=>0,fun v e _ h=>by omega⟩
 | succ n ih=>
  obtain⟨T,hT⟩:=ih
  refine⟨fun v e=>(Bo N (n+1) p v e).getD 0,fun v e hi hn hl ht n1 n2 h1 h2=>?_⟩
  have step :∀n1 n2,n≤n1→n≤n2→Jh p (Bo N n1) (A9 N n2) N v e:=fun n1 n2 h1 h2=>
   Yu (T:=T) (fun v e a b c d=>hT v e a (by omega) c d n1 n2 h1 h2) ⟨hl,ht,by have:=hl;omega,hi⟩ S hN
  obtain⟨m1,rfl⟩ :∃m,n1=m+1:=⟨n1 - 1,by omega⟩
  obtain⟨m2,rfl⟩ :∃m,n2=m+1:=⟨n2 - 1,by omega⟩
  obtain⟨t,q1,q2,q3⟩:=step n n (Nat.le_refl _) (Nat.le_refl _)
  obtain⟨t',r1,r2,_⟩:=step n m2 (Nat.le_refl _) (by omega)
  obtain⟨t'',s1,s2,_⟩:=step m1 n (by omega) (Nat.le_refl _)
  have e1:t'=t:=by rw[q1] at r1;cases r1;rfl
  have e2:t''=t:=by rw[q2] at s2;cases s2;rfl
  subst e1;subst e2
  have e3:(Bo N (n+1) p v e).getD 0=t'':=by rw[Bo,q1];rfl
  dsimp only
  rw[e3]
  exact⟨by rw[Bo];exact s1,by rw[A9];exact r2,q3⟩
end RC



namespace RC
open Go
structure Fk (p:AN):Prop where
 FE:LX p
 size:LN p≤1048576
theorem Fk.decls {p:AN} (S:Fk p):OY p.decls:=by
 have h:=S.size
 unfold LN at h
 have hd :∀d∈p.decls,dz d≤1048576:=fun d hd=>by have:=Fx dz hd;omega
 refine⟨by omega,fun d hm=>?_,fun d hm c hc=>?_⟩
 ·have:=hd d hm;unfold dz at this;omega
 ·have:=hd d hm;unfold dz at this
  have:=Fx cz hc
  show cz c≤_
  omega
theorem Fk.LF {p:AN} (S:Fk p):p.funcs.length≤1048576:=by have h:=S.size;unfold LN at h;omega
theorem Fk.fz {p:AN} (S:Fk p) {f:Ah} (hf:f∈p.funcs):f.params.length≤1048576∧Cn f.body.kids≤1048576:=by
 have h:=S.size
 unfold LN at h
 have h2:=Fx JT hf
 have h3:JT f=f.params.length+Cn f.body.kids:=rfl
 omega
theorem Fk.fin {p:AN} (S:Fk p) {f:Ah} (hf:f∈p.funcs):MI f:=S.FE.funcs.1 f hf
def RS (p:AN):Bool:=Mh p.decls (p.funcs.map fun f=>(f.params,f.result))
theorem PX {p:AN} (S:Fk p) {N:Nat} (hN:2000000≤N):GC N p=some (RS p):=Px S.decls S.LF (fun f hf=>(S.fz hf).1) hN
theorem X7 {p:AN} (hl:p.funcs.length≤1048576) {N:Nat} (hN:2000000≤N):Cf p N 0 []=some (ET p).funcs:=by
 have key :∀{N i:Nat},i≤p.funcs.length→p.funcs.length - i < N→Cf p N i ((ET p).funcs.take i)=some (ET p).funcs:=by
  intro N i hi hN
  refine BO p.funcs.length (fun N i=>Cf p N i ((ET p).funcs.take i)=some (ET p).funcs) ?_ ?_ hi hN
  ·intro n;rw[Cf,if_neg (by simp[AK]),List.take_of_length_le (by rw[LV];omega)]
  ·intro n i hi ih
   obtain⟨f,hf,_⟩:=BV hi
   have hf2:(ET p).funcs[i]?=some ⟨f.params,[],f.result⟩:=by
    show (p.funcs.map _)[i]?=_
    rw[List.getElem?_map,hf];rfl
   rw[Cf,if_pos (by simp[AK];omega),At hf]
   simp only[Option.bind_some]
   rw[CL _ _ _ (by simp;omega) (by simp;omega),A3 (by omega) (by omega),show ((i:Int) + 1)=((i+1:Nat):Int) by omega]
   simp only[Option.bind_some]
   rw[← ih,B8 hf2]
 have:=key (Nat.zero_le _) (by omega:p.funcs.length - 0 < N)
 simpa using this
theorem Ya {p:AN} (hl:p.funcs.length≤1048576) {N:Nat} (hN:2000000≤N):I7 N p=some (ET p):=by
 have key :∀{N i:Nat},i≤p.funcs.length→p.funcs.length - i < N→EU p N i ((ET p).funcs.take i)=some (ET p).funcs:=by
  intro N i hi hN
  refine BO p.funcs.length (fun N i=>EU p N i ((ET p).funcs.take i)=some (ET p).funcs) ?_ ?_ hi hN
  ·intro n;rw[EU,if_neg (by simp[AK]),List.take_of_length_le (by rw[LV];omega)]
  ·intro n i hi ih
   obtain⟨f,hf,_⟩:=BV hi
   have hf2:(ET p).funcs[i]?=some ⟨f.params,[],f.result⟩:=by
    show (p.funcs.map _)[i]?=_
    rw[List.getElem?_map,hf];rfl
   rw[EU,if_pos (by simp[AK];omega),At hf]
   simp only[Option.bind_some]
   rw[CL _ _ _ (by simp;omega) (by simp;omega),A3 (by omega) (by omega),show ((i:Int) + 1)=((i+1:Nat):Int) by omega]
   simp only[Option.bind_some]
   rw[← ih,B8 hf2]
 have:=key (Nat.zero_le _) (by omega:p.funcs.length - 0 < N)
 rw[List.take_zero,show ((0:Nat):Int)=0 from rfl] at this
 unfold I7
 rw[this];rfl
theorem TY {p:AN} (S:Fk p) {N:Nat} (hN:2000000≤N):GB N p=some (RS p):=by
 have hl:=S.LF
 unfold GB RS
 by_cases h4:p.funcs.length≤4
 ·rw[if_neg (by rw[decide_eq_true_eq,AK];omega),X7 hl hN]
  simp only[Option.bind_some]
  rw[PS S.decls (by rw[LV];exact hl) (fun f hf=>by obtain⟨q,hq,rfl⟩:=List.mem_map.1 (show f∈p.funcs.map _ from hf);exact⟨(S.fz hq).1,by simp⟩) hN]
  have e1:((ET p).funcs.map fun f=>(f.params,f.result))=p.funcs.map fun f=>(f.params,f.result):=by
   show (p.funcs.map _).map _=_
   rw[List.map_map];rfl
  have e2:((ET p).funcs.all fun f=>ER (KK f.params f.E4) 0 f.E4)=true:=by
   rw[List.all_eq_true]
   intro f hf
   obtain⟨q,hq,rfl⟩:=List.mem_map.1 (show f∈p.funcs.map _ from hf)
   rfl
  rw[e1,e2];simp
 ·rw[if_pos (by rw[decide_eq_true_eq,AK];omega)]
  have:Mh p.decls (p.funcs.map fun f=>(f.params,f.result))=false:=by
   unfold Mh
   simp[h4]
  rw[this]
def HS (p:AN) (T:List Int→AD→Int) (f:Ah):Bool:=decide (en f.body≤30) && decide (T f.params f.body=f.result)
theorem Gv {p:AN} (S:Fk p) {N:Nat} (hN:2000000≤N) :∃b,Bc N p=some b∧Ce N p=some b∧(b=true→E6 p.decls p.funcs∧∀f∈p.funcs,en f.body≤30):=by
 unfold Bc Ce
 rw[PX S hN,TY S hN]
 simp only[Option.bind_some]
 cases hs:RS p with
 | false=>exact⟨false,rfl,rfl,fun h=>nomatch h⟩
 | true=>
  have SO:=E6.of hs
  have hl:=S.LF
  obtain⟨T,hT⟩:=OV SO hN 31
  have hty :∀f∈p.funcs,en f.body≤30→JB N p f.params f.body=some (T f.params f.body)∧Gh N f.params (ET p) f.body=some (T f.params f.body)∧(T f.params f.body=-1∨C1 p.decls (T f.params f.body)=true):=fun f hf he=>by
   obtain⟨q1,q2,q3⟩:=SO.MN f hf
   exact hT f.params f.body (S.fin hf).body (by omega) (by omega) q2 N N (by omega) (by omega)
  have hcl :∀f∈p.funcs,BW f.params=some f.params:=fun f hf=>by
   obtain⟨q1,q2,q3⟩:=SO.MN f hf
   unfold BW
   rw[CL [] f.params 8 (by simp;omega) (by simp;omega)];rfl
  have L1:=Cg (l:=p.funcs) (BU N p) (fun _ f=>HS p T f) (fun n=>by rw[BU,if_neg (by simp[AK])]) (fun n i f hi=>by
   have hil:=(List.getElem?_eq_some_iff.1 hi).1
   have hf:=List.mem_of_getElem? hi
   rw[BU,if_pos (by simp[AK];omega),At hi]
   simp only[Option.bind_some]
   rw[Hx (S.fz hf).2 hN,A3 (by omega) (by omega),show ((i:Int) + 1)=((i+1:Nat):Int) by omega]
   simp only[Option.bind_some]
   unfold HS
   by_cases he:en f.body≤30
   ·rw[if_pos he,if_neg (by simp),(hty f hf he).1]
    by_cases hr:T f.params f.body=f.result <;> simp[he,hr]
   ·rw[if_neg he]
    simp[he]) (by omega:p.funcs.length < N)
  have L2:=Cg (l:=p.funcs) (Ci N p) (fun _ f=>HS p T f) (fun n=>by rw[Ci,if_neg (by simp[AK])]) (fun n i f hi=>by
   have hil:=(List.getElem?_eq_some_iff.1 hi).1
   have hf:=List.mem_of_getElem? hi
   obtain⟨q1,q2,q3⟩:=SO.MN f hf
   have q4:f.params.all (C1 p.decls)=true:=List.all_eq_true.2 q2
   rw[Ci,if_pos (by simp[AK];omega),At hi]
   simp only[Option.bind_some]
   unfold Kf
   rw[TY S hN,hs,L8 (S.fz hf).2 hN,JI (by omega) (by omega),q4,Ya hl hN,hcl f hf,A3 (by omega) (by omega),show ((i:Int) + 1)=((i+1:Nat):Int) by omega]
   simp only[Option.bind_some]
   unfold HS
   by_cases he:en f.body≤30
   ·rw[if_pos he,(hty f hf he).2.1]
    have he0:¬ ((en f.body:Int) < 0):=by omega
    by_cases hr:T f.params f.body=f.result <;> simp[he,hr,he0]
   ·rw[if_neg he]
    have hr:¬ ((-1:Int)=f.result):=fun q=>by have:=(J0 q3).1;omega
    simp[he,hr]) (by omega:p.funcs.length < N)
  rw[Dn] at L1 L2
  refine⟨p.funcs.all (HS p T),?_,?_,fun h=>⟨SO,fun f hf=>?_⟩⟩
  ·simp only[Bool.not_true,Bool.false_eq_true,if_false]
   rw[L1,De]
   cases p.funcs.all (HS p T) <;> rfl
  ·simp only[Bool.not_true,Bool.false_eq_true,if_false]
   rw[L2,De]
   cases p.funcs.all (HS p T) <;> rfl
  ·have:=List.all_eq_true.1 h f hf
   unfold HS at this
   simp only[Bool.and_eq_true,decide_eq_true_eq] at this
   exact this.1
end RC



namespace RC
open Go
end RC



namespace RC
open Go
inductive TK:Step→Prop where
 | mk {s:Step}:GL s.op→GL s.num→GL s.ZX→Es GL s.args→s.kids.length≤9223372036854775807→(∀b∈s.kids,b.steps.length≤9223372036854775807)→(∀b∈s.kids,GL b.result)→(∀b∈s.kids,∀t∈b.steps,TK t)→TK s
structure Xj (b:Block):Prop where
 steps:Es TK b.steps
 result:GL b.result
end RC



namespace RC
open Go
end RC



namespace RC
open Go
def fF (o:Int):Bool:=decide (14≤o) && decide (o≤17)
mutual
def us (v:Int):Step→Nat | .mk o _ _ a k=>if fF o then 0 else a.countP (fun x=>decide (x=v)) + uk v k
def uk (v:Int):List (KB Step)→Nat | []=>0 | b :: k=>ub v b+uk v k
def ub (v:Int):KB Step→Nat | ⟨ss,r⟩=>(if r=v then 1 else 0) + ul v ss
def ul (v:Int):List Step→Nat | []=>0 | s :: l=>us v s+ul v l
end
def ua (v:Int) (a:List Int):Nat:=a.countP fun x=>decide (x=v)
theorem ff (v:Int) (a:List Int):ua v a≤a.length:=List.countP_le_length
end RC



namespace RC
open Go
section
variable {D : List Ab} {G : List BI} {ks : List Int} {op num : Int} {N : Nat}
end
end RC



namespace RC
open Go
section
variable {n : HC} {R1 : HC → List Int → Block → Option Int} {R2 : A1 → List Int → Block → Option Int} {T : List Int → Block → Int} {s : Step} {v : List Int} {N : Nat}
end
end RC



namespace RC
open Go
section
variable {n : HC} {R1 : HC → List Int → Block → Option Int} {R2 : A1 → List Int → Block → Option Int} {T : List Int → Block → Int} {s : Step} {v : List Int} {N : Nat}
end
end RC



namespace RC
open Go
section
variable {n : HC} {R1 : HC → List Int → Block → Option Int} {R2 : A1 → List Int → Block → Option Int} {T : List Int → Block → Int} {s : Step} {v : List Int} {N : Nat} {b : Bool}
end
end RC



namespace RC
open Go
section
variable {n : HC} {R1 : HC → List Int → Block → Option Int} {R2 : A1 → List Int → Block → Option Int} {T : List Int → Block → Int} {s : Step} {v : List Int} {N : Nat} {b : Bool}
end
end RC



namespace RC
open Go
section
variable {n : HC} {R1 : HC → List Int → Block → Option Int} {R2 : A1 → List Int → Block → Option Int} {T : List Int → Block → Int} {s : Step} {v : List Int} {N : Nat} {b : Bool}
end
end RC



namespace RC
open Go
section
variable {n : HC} {R1 : HC → List Int → Block → Option Int} {R2 : A1 → List Int → Block → Option Int} {T : List Int → Block → Int} {b : Block} {v : List Int} {N : Nat}
end
end RC



namespace RC
open Go
end RC



namespace RC
open Go
end RC



namespace RC
open Go
def Lw:Nat→Nat→List Int
 | _,0=>[]
 | k,n+1=>(k:Int) :: Lw (k+1) n
theorem VV :∀(n k:Nat),(Lw k n).length=n
 | 0,_=>rfl
 | n+1,k=>by simp[Lw,VV n]
theorem GP {α:Type} (A B:List α) (x:α):Sh.get (A ++ x :: B) (A.length:Int)=some x:=At (by simp)
theorem JP {α:Type} (A B:List α) (x y:α):Sh.put (A ++ x :: B) (A.length:Int) y=A ++ y :: B:=by rw[Hm];simp
theorem NC :∀(B A:List Int) (k n:Nat),B.length < n→A.length+B.length≤2000000→k+B.length≤100000000→
  EA n (k:Int) (A.length:Int) (A ++ B)=some (((k+B.length:Nat):Int),A ++ Lw k B.length)
 | [],A,k,n,hn,_,_=>by
  obtain⟨n,rfl⟩ :∃m,n=m+1:=⟨n - 1,by simp at hn;omega⟩
  rw[EA,if_neg (by simp[AK])];simp[Lw]
 | b :: B,A,k,n,hn,h1,h2=>by
  simp only[List.length_cons] at hn h1 h2 ⊢
  obtain⟨n,rfl⟩ :∃m,n=m+1:=⟨n - 1,by omega⟩
  have ih:=NC B (A ++ [(k:Int)]) (k+1) n (by omega) (by simp;omega) (by omega)
  rw[EA,if_pos (by simp[AK];omega),GP,JP,A3 (by omega) (by omega),A3 (by omega) (by omega)]
  simp only[Option.bind_some]
  rw[List.length_append,List.append_assoc,List.append_assoc] at ih
  simp only[List.length_cons,List.length_nil,List.cons_append,List.nil_append] at ih
  have e1:((A.length:Int) + 1)=((A.length+(0+1):Nat):Int):=by omega
  have e2:((k:Int) + 1)=((k+1:Nat):Int):=by omega
  rw[e1,e2,ih]
  simp only[Lw,show k+1+B.length=k+(B.length+1) by omega]
theorem QG {l:List Int} (hl:l.length≤1048576) {k:Nat} (hk:k≤50000000) {N:Nat} (hN:2000000≤N):Gg N l (k:Int)=some (((k+l.length:Nat):Int),Lw k l.length):=by
 unfold Gg
 have:=NC l [] k N (by omega) (by simp;omega) (by omega)
 rw[List.length_nil,List.nil_append,List.nil_append] at this
 rw[show (0:Int)=((0:Nat):Int) from rfl,this];rfl
theorem Mz :∀(m:Nat) (A:List Int) (k n:Nat),m < n→A.length+m≤2000000→k+m≤100000000→
  EI (A ++ Lw k m) n (k:Int) (A.length:Int)=some (Sum.inr (((k+m:Nat):Int)))
 | 0,A,k,n,hn,_,_=>by
  obtain⟨n,rfl⟩ :∃m,n=m+1:=⟨n - 1,by omega⟩
  rw[EI,if_neg (by simp[AK,Lw])];simp
 | m+1,A,k,n,hn,h1,h2=>by
  obtain⟨n,rfl⟩ :∃m,n=m+1:=⟨n - 1,by omega⟩
  have ih:=Mz m (A ++ [(k:Int)]) (k+1) n (by omega) (by simp;omega) (by omega)
  rw[EI,if_pos (by simp[AK,VV];omega)]
  simp only[Lw]
  rw[GP,A3 (by omega) (by omega),A3 (by omega) (by omega)]
  simp only[Option.bind_some,decide_true,Bool.not_true,Bool.false_eq_true,if_false]
  rw[List.length_append,List.append_assoc] at ih
  simp only[List.length_cons,List.length_nil,List.cons_append,List.nil_append] at ih
  have e1:((A.length:Int) + 1)=((A.length+(0+1):Nat):Int):=by omega
  have e2:((k:Int) + 1)=((k+1:Nat):Int):=by omega
  rw[e1,e2,ih]
  simp only[show k+1+m=k+(m+1) by omega]
theorem Qn {m:Nat} (hl:m≤1048576) {k:Nat} (hk:k≤50000000) {N:Nat} (hN:2000000≤N):Gj N (Lw k m) (k:Int)=some (((k+m:Nat):Int)):=by
 unfold Gj
 have:=Mz m [] k N (by omega) (by simp;omega) (by omega)
 rw[List.length_nil,List.nil_append] at this
 rw[show (0:Int)=((0:Nat):Int) from rfl,this];rfl
theorem Mq {α:Type} {f g:α→Nat} {a b:Nat} :∀{l:List α},(∀x∈l,f x≤a+b * g x)→(l.map f).sum≤a * l.length+b * (l.map g).sum
 | [],_=>by simp
 | x :: r,h=>by
  have h1:=h x (by simp)
  have h2:=Mq (l:=r) fun y hy=>h y (by simp[hy])
  simp only[List.map_cons,List.sum_cons,List.length_cons,Nat.mul_add]
  omega
theorem FB {n:Nat} (h:n≤100000000):Sh.w ((n:Int) + 1)=((n+1:Nat):Int):=by
 rw[A3 (by omega) (by omega)];rfl
def Z9 (d:Ab):Nat:=2+(d.cons.map cz).sum
mutual
def ms:Step→Nat | .mk _ _ _ a k=>3+a.length+et k
def et:List (KB Step)→Nat | []=>0 | b :: k=>mb b+et k
def mb:KB Step→Nat | ⟨ss,_⟩=>fC ss+1
def fC:List Step→Nat | []=>0 | s :: l=>ms s+fC l
end
end RC



namespace RC
open Go
theorem Vh {α β:Type} {l:List α} (L:Nat→Int→List β→Option (List β)) (g:α→β) (h0 :∀n acc,L (n+1) ((l.length:Nat):Int) acc=some acc)
  (hs :∀n i x acc,l[i]?=some x→acc.length=i→L (n+1) ((i:Nat):Int) acc=L n ((i+1:Nat):Int) (acc ++ [g x])) {N:Nat} (hN:l.length < N):L N 0 []=some (l.map g):=by
 have key :∀{N i:Nat},i≤l.length→l.length - i < N→L N (i:Int) ((l.take i).map g)=some (l.map g):=by
  intro N i hi hN
  refine BO l.length (fun N i=>L N (i:Int) ((l.take i).map g)=some (l.map g)) ?_ ?_ hi hN
  ·intro n;rw[h0,List.take_length]
  ·intro n i hi ih
   obtain⟨x,hx,_⟩:=BV hi
   rw[hs n i x _ hx (by simp;omega),← ih,B8 hx,List.map_append];rfl
 have:=key (Nat.zero_le _) (by omega:l.length - 0 < N)
 simpa using this
theorem VL {α:Type} {l:List α} (L:Nat→Int→List α→Option (List α)) (g:α→α) (h0 :∀n acc,L (n+1) ((l.length:Nat):Int) acc=some acc)
  (hs :∀n (A:List α) (x:α) (C:List α),A.length+C.length < l.length→l[A.length]?=some x→L (n+1) ((A.length:Nat):Int) (A ++ x :: C)=L n ((A.length+1:Nat):Int) (A ++ g x :: C)) {N:Nat} (hN:l.length < N):L N 0 l=some (l.map g):=by
 have key :∀(C A:List α) (n:Nat),C.length < n→A.length≤l.length→C=l.drop A.length→L n ((A.length:Nat):Int) (A ++ C)=some (A ++ C.map g):=by
  intro C
  induction C with
  | nil=>
   intro A n hn h1 h2
   obtain⟨n,rfl⟩ :∃m,n=m+1:=⟨n - 1,by simp at hn;omega⟩
   have h3:=congrArg List.length h2
   simp at h3
   rw[show A.length=l.length by omega,h0];simp
  | cons x C ih=>
   intro A n hn h1 h2
   have h3:=congrArg List.length h2
   simp only[List.length_cons,List.length_drop] at hn h3
   obtain⟨n,rfl⟩ :∃m,n=m+1:=⟨n - 1,by omega⟩
   have hx:l[A.length]?=some x:=by
    have:=congrArg (fun z=>z[0]?) h2
    simpa using this.symm
   rw[hs n A x C (by omega) hx]
   have:=ih (A ++ [g x]) n (by omega) (by simp;omega) (by
    rw[drop_cons hx] at h2
    simpa using (List.cons.inj h2).2)
   simpa using this
 have:=key l [] N hN (by simp) (by simp)
 simpa using this
theorem WM {i:Nat} (h:i≤1048576):Sh.w ((i:Int) + 1)=((i+1:Nat):Int):=by rw[A3 (by omega) (by omega)];rfl
theorem fc {l:List Int} (hl:l.length≤1048576):Dk l=some l:=by
 unfold Dk
 rw[CL [] l 8 (by simp;omega) (by simp;omega)];rfl
theorem fZ {l:List Int} (hl:l.length≤1048576):BW l=some l:=by
 unfold BW
 rw[CL [] l 8 (by simp;omega) (by simp;omega)];rfl
theorem Uz {D:List Ab} {i:Nat} {d:Ab} (hd:D[i]?=some d) (hz:dz d≤1048576) {N:Nat} (hN:2000000≤N):DA i D N 0 []=some d.cons:=by
 unfold dz at hz
 rw[Vh (l:=d.cons) (DA i D) id (fun n acc=>by rw[DA,At hd];simp only[Option.bind_some];rw[if_neg (by simp[AK])]) (fun n j c acc hc ha=>?_) (by omega)]
 ·simp
 ·have hj:=(List.getElem?_eq_some_iff.1 hc).1
  have hcz:=Fx cz (List.mem_of_getElem? hc)
  rw[DA,At hd]
  simp only[Option.bind_some]
  rw[if_pos (by simp[AK];omega),At hc]
  simp only[Option.bind_some]
  rw[fc (show cz c≤1048576 by omega)]
  simp only[Option.bind_some]
  rw[CL acc _ 24 (by simp;omega) (by simp;omega)]
  simp only[Option.bind_some]
  rw[WM (by omega)];rfl
theorem VB {D:List Ab} (hl:D.length≤1048576) (hz :∀d∈D,dz d≤1048576) {N:Nat} (hN:2000000≤N):HG N D=some D:=by
 unfold HG
 rw[Vh (l:=D) (Dr N D) id (fun n acc=>by rw[Dr,if_neg (by simp[AK])]) (fun n j c acc hc ha=>?_) (by omega)]
 ·simp
 ·have hj:=(List.getElem?_eq_some_iff.1 hc).1
  rw[Dr,if_pos (by simp[AK];omega),Uz hc (hz c (List.mem_of_getElem? hc)) hN,At hc]
  simp only[Option.bind_some]
  rw[CL acc _ 40 (by simp;omega) (by simp;omega)]
  simp only[Option.bind_some]
  rw[WM (by omega)];rfl
theorem Ty {D:List Ab} (hl:D.length≤1048576) (hz :∀d∈D,dz d≤1048576) {N:Nat} (hN:2000000≤N):GW N D=some D:=by
 unfold GW CJ
 rw[CL [] D 40 (by simp;omega) (by simp;omega)]
 simp only[Option.bind_some,List.nil_append]
 rw[VL (l:=D) (DR N (Sh.len D)) id (fun n acc=>by rw[DR,if_neg (by simp[AK])]) (fun n A d C hA hd=>?_) (by omega)]
 ·simp
 ·have h1:=hz d (List.mem_of_getElem? hd)
  unfold dz at h1
  rw[DR,if_pos (by simp[AK];omega),GP]
  simp only[Option.bind_some]
  unfold B2
  rw[CL [] d.cons 24 (by simp;omega) (by simp;omega)]
  simp only[Option.bind_some,List.nil_append]
  rw[VL (l:=d.cons) (DQ d.cons) id (fun n acc=>by rw[DQ,if_neg (by simp[AK])]) (fun n B c E hB hc=>?_) (by omega)]
  ·simp only[Option.bind_some,JP,List.map_id]
   rw[WM (by omega)];rfl
  ·have hcz:=Fx cz (List.mem_of_getElem? hc)
   have hl:=(List.getElem?_eq_some_iff.1 hc).1
   rw[DQ,if_pos (by simp[AK];omega),At hc]
   simp only[Option.bind_some]
   rw[fZ (show cz c≤1048576 by omega),GP]
   simp only[Option.bind_some]
   rw[JP,WM (by omega)];rfl
end RC



namespace RC
open Go
theorem Xc {α:Type} (L:Nat→Int→Int→List α→Option (Int×List α)) (H:List α→Nat→Int→Int→Option (Int ⊕ Int)) (wt:α→Nat) (ok:α→Prop)
  (h0 :∀n k l,L (n+1) k ((l.length:Nat):Int) l=some (k,l)) (g0 :∀l n k,H l (n+1) k ((l.length:Nat):Int)=some (.inr k))
  (hs :∀n (k:Nat) (A:List α) (x:α) (C:List α),A.length+C.length≤1048576→ok x→k+wt x≤20000000→∃(k':Nat) (y:α),k'≤k+wt x∧L (n+1) k ((A.length:Nat):Int) (A ++ x :: C)=L n k' ((A.length+1:Nat):Int) (A ++ y :: C)∧∀m E,H (A ++ y :: E) (m+1) k ((A.length:Nat):Int)=H (A ++ y :: E) m k' ((A.length+1:Nat):Int)) :
  ∀(C A:List α) (k n:Nat),C.length < n→A.length+C.length≤1048576→(∀x∈C,ok x)→k+(C.map wt).sum≤20000000→∃(k':Nat) (C':List α),k'≤k+(C.map wt).sum∧L n k ((A.length:Nat):Int) (A ++ C)=some ((k':Int),A ++ C')∧∀m,C.length < m→H (A ++ C') m k ((A.length:Nat):Int)=some (.inr (k':Int))
 | [],A,k,n,hn,_,_,_=>by
  obtain⟨n,rfl⟩ :∃m,n=m+1:=⟨n - 1,by simp at hn;omega⟩
  refine⟨k,[],by simp,?_,fun m hm=>?_⟩
  ·rw[List.append_nil,h0]
  ·obtain⟨m,rfl⟩ :∃q,m=q+1:=⟨m - 1,by simp at hm;omega⟩
   rw[List.append_nil,g0]
 | x :: C,A,k,n,hn,hl,hok,hk=>by
  simp only[List.length_cons,List.map_cons,List.sum_cons] at hn hl hk ⊢
  obtain⟨n,rfl⟩ :∃m,n=m+1:=⟨n - 1,by omega⟩
  obtain⟨k1,y,h1,h2,h5⟩:=hs n k A x C (by omega) (hok x (by simp)) (by omega)
  obtain⟨k2,C',h3,h4,h6⟩:=Xc L H wt ok h0 g0 hs C (A ++ [y]) k1 n (by omega) (by simp;omega) (fun z hz=>hok z (by simp[hz])) (by omega)
  refine⟨k2,y :: C',by omega,?_,fun m hm=>?_⟩
  ·rw[h2]
   simpa using h4
  ·obtain⟨m,rfl⟩ :∃q,m=q+1:=⟨m - 1,by omega⟩
   rw[h5]
   have:=h6 m (by omega)
   simpa using this
theorem Wo {α:Type} {L:Nat→Int→Int→List α→Option (Int×List α)} {H:List α→Nat→Int→Int→Option (Int ⊕ Int)} {wt:α→Nat} {ok:α→Prop}
  (h0 :∀n k l,L (n+1) k ((l.length:Nat):Int) l=some (k,l)) (g0 :∀l n k,H l (n+1) k ((l.length:Nat):Int)=some (.inr k))
  (hs :∀n (k:Nat) (A:List α) (x:α) (C:List α),A.length+C.length≤1048576→ok x→k+wt x≤20000000→∃(k':Nat) (y:α),k'≤k+wt x∧L (n+1) k ((A.length:Nat):Int) (A ++ x :: C)=L n k' ((A.length+1:Nat):Int) (A ++ y :: C)∧∀m E,H (A ++ y :: E) (m+1) k ((A.length:Nat):Int)=H (A ++ y :: E) m k' ((A.length+1:Nat):Int))
  {l:List α} {k N:Nat} (hN:2000000≤N) (hl:l.length≤1048576) (hok :∀x∈l,ok x) (hk:k+(l.map wt).sum≤20000000) :∃(k':Nat) (l':List α),k'≤k+(l.map wt).sum∧L N k 0 l=some ((k':Int),l')∧H l' N k 0=some (.inr (k':Int)):=by
 obtain⟨k',l',h1,h2,h3⟩:=Xc L H wt ok h0 g0 hs l [] k N (by omega) (by simp;omega) hok hk
 exact⟨k',l',h1,h2,h3 N (by omega)⟩
theorem cT {l:List BP} {k N:Nat} (hN:2000000≤N) (hl:l.length≤1048576) (hok :∀c∈l,cz c≤1048576) (hk:k+(l.map cz).sum≤20000000) :∃(k':Nat) (l':List BP),k'≤k+(l.map cz).sum∧Hf N l k=some ((k':Int),l')∧Hj N l' k=some (k':Int):=by
 obtain⟨k',l',h1,h2,h3⟩:=Wo (L:=EH N) (H:=D9 N) (wt:=cz) (ok:=fun c=>cz c≤1048576) (fun n k l=>by rw[EH,if_neg (by simp[AK])]) (fun l n k=>by rw[D9,if_neg (by simp[AK])]) (fun n k A x C hA hx hk=>by
  refine⟨k+cz x,⟨Lw k (cz x)⟩,Nat.le_refl _,?_,fun m E=>?_⟩
  ·rw[EH,if_pos (by simp[AK];omega),GP]
   simp only[Option.bind_some]
   rw[QG hx (by omega) hN]
   simp only[Option.bind_some,JP]
   rw[FB (by omega)];rfl
  ·rw[D9,if_pos (by simp[AK];omega),GP]
   simp only[Option.bind_some]
   rw[Qn hx (by omega) hN]
   simp only[Option.bind_some]
   rw[if_neg (by simp <;> omega),FB (by omega)]) hN hl hok hk
 refine⟨k',l',h1,?_,?_⟩
 ·unfold Hf
  rw[h2];rfl
 ·unfold Hj
  rw[h3];rfl
theorem cH {l:List Ab} {k N:Nat} (hN:2000000≤N) (hl:l.length≤1048576) (hok :∀d∈l,dz d≤1048576) (hk:k+(l.map Z9).sum≤20000000) :∃(k':Nat) (l':List Ab),k'≤k+(l.map Z9).sum∧G9 N l k=some ((k':Int),l')∧HK N l' k=some (k':Int):=by
 obtain⟨k',l',h1,h2,h3⟩:=Wo (L:=Dt N) (H:=Dw N) (wt:=Z9) (ok:=fun d=>dz d≤1048576) (fun n k l=>by rw[Dt,if_neg (by simp[AK])]) (fun l n k=>by rw[Dw,if_neg (by simp[AK])]) (fun n k A x C hA hx hk=>by
  unfold dz at hx
  unfold Z9 at hk ⊢
  obtain⟨k1,l1,g1,g2,g3⟩:=cT (l:=x.cons) (k:=k+1+1) hN (by omega) (fun c hc=>by have:=Fx cz hc;omega) (by omega)
  refine⟨k1,⟨(k:Int),((k+1:Nat):Int),l1⟩,by omega,?_,fun m E=>?_⟩
  ·rw[Dt,if_pos (by simp[AK];omega),FB (n:=k) (by omega),FB (n:=k+1) (by omega),FB (n:=A.length) (by omega)]
   simp only[GP,JP,Option.bind_some]
   rw[g2]
   simp only[Option.bind_some]
  ·rw[Dw,if_pos (by simp[AK];omega),GP]
   simp only[Option.bind_some]
   rw[FB (n:=k) (by omega),FB (n:=k+1) (by omega),FB (n:=A.length) (by omega),g3]
   simp only[decide_true,Bool.not_true,Bool.false_eq_true,if_false,Option.bind_some]
   rw[if_neg (by simp <;> omega)]) hN hl hok hk
 refine⟨k',l',h1,?_,?_⟩
 ·unfold G9
  rw[h2];rfl
 ·unfold HK
  rw[h3];rfl
end RC


namespace RC
end RC



namespace RC
open Go
def ins:List Int→Int→List Int
 | [],x=>[x]
 | a :: r,x=>if x≤a then (if x < a then x :: a :: r else a :: r) else a :: ins r x
def LQ:List Int→Int→Bool
 | [],_=>false
 | a :: r,x=>if x≤a then true else LQ r x
def NB (l:List Int) (x:Int):List Int:=if LQ l x then ins l x else l
theorem bw :∀(l:List Int) (x:Int),ins l x=if LQ l x then NB l x else NB l x ++ [x]
 | [],x=>by simp[ins,LQ,NB]
 | a :: r,x=>by
  have ih:=bw r x
  simp only[NB,LQ,ins] at ih ⊢
  by_cases h:x≤a
  ·simp[h]
  ·simp only[h,if_false] at ih ⊢
   by_cases hd:LQ r x=true
   ·simp[hd]
   ·simp only[hd,if_false] at ih ⊢
    simp[ih]
theorem Sv {l:List Int} {x:Int} (hl:l.length≤1048576) {N i:Nat} (hi:i≤l.length) (hN:l.length - i < N) :∀acc:List Int,acc.length≤1048576+i→CS l x N true (i:Int) acc=some (true,acc ++ l.drop i):=by
 refine BO l.length (fun N i=>∀acc:List Int,acc.length≤1048576+i→CS l x N true (i:Int) acc=some (true,acc ++ l.drop i)) ?_ ?_ hi hN
 ·intro n acc _
  rw[CS,if_neg (by simp[AK])];simp
 ·intro n i hi ih acc ha
  obtain⟨y,hy,_⟩:=BV hi
  rw[CS,if_pos (by simp[AK];omega),At hy]
  simp only[Bool.not_true,Bool.false_eq_true,if_false,Option.bind_some]
  rw[CL _ _ 8 (by simp;omega) (by simp;omega)]
  simp only[Option.bind_some]
  rw[A3 (by omega) (by omega),show ((i:Int) + 1)=((i+1:Nat):Int) by omega,ih _ (by simp;omega),drop_cons hy]
  simp
theorem VG {l:List Int} {x:Int} (hl:l.length≤1048576) {N i:Nat} (hi:i≤l.length) (hN:l.length - i < N) :∀acc:List Int,acc.length≤i→CS l x N false (i:Int) acc=some (LQ (l.drop i) x,acc ++ NB (l.drop i) x):=by
 refine BO l.length (fun N i=>l.length - i < N→∀acc:List Int,acc.length≤i→CS l x N false (i:Int) acc=some (LQ (l.drop i) x,acc ++ NB (l.drop i) x)) ?_ ?_ hi hN hN
 ·intro n _ acc _
  rw[CS,if_neg (by simp[AK])];simp[LQ,NB]
 ·intro n i hi ih hf acc ha
  obtain⟨y,hy,_⟩:=BV hi
  have ih:=ih (by omega)
  rw[CS,if_pos (by simp[AK];omega),At hy]
  simp only[Bool.not_false,if_true,Option.bind_some]
  rw[A3 (n:=(i:Int) + 1) (by omega) (by omega),show ((i:Int) + 1)=((i+1:Nat):Int) by omega,drop_cons hy]
  have done:=Sv (l:=l) (x:=x) hl (N:=n) (i:=i+1) (by omega) (by omega)
  by_cases h:x≤y
  ·simp only[h,decide_true,if_true]
   by_cases h2:x < y
   ·simp only[h2,decide_true,if_true]
    rw[CL acc [x] 8 (by simp;omega) (by simp;omega)]
    simp only[Option.bind_some]
    rw[CL _ _ 8 (by simp;omega) (by simp;omega)]
    simp only[Option.bind_some]
    rw[done _ (by simp;omega)]
    simp[LQ,NB,ins,h,h2]
   ·simp only[h2,decide_false,Bool.false_eq_true,if_false,Option.bind_some]
    rw[CL _ _ 8 (by simp;omega) (by simp;omega)]
    simp only[Option.bind_some]
    rw[done _ (by simp;omega)]
    simp[LQ,NB,ins,h,h2]
  ·simp only[h,decide_false,Bool.false_eq_true,if_false,Option.bind_some]
   rw[CL _ _ 8 (by simp;omega) (by simp;omega)]
   simp only[Option.bind_some]
   rw[ih _ (by simp;omega)]
   simp only[LQ,NB,ins,h,if_false,List.append_assoc,List.singleton_append]
   cases LQ (l.drop (i+1)) x <;> simp
theorem Sn {l:List Int} {x:Int} (hl:l.length≤1048576) {N:Nat} (hN:2000000≤N):GG N l x=some (ins l x):=by
 unfold GG
 have:=VG (l:=l) (x:=x) hl (Nat.zero_le _) (by omega:l.length - 0 < N) [] (by simp)
 rw[show ((0:Nat):Int)=0 from rfl,List.drop_zero] at this
 rw[this]
 simp only[Option.bind_some,List.nil_append]
 rw[bw]
 cases hd:LQ l x with
 | true=>simp
 | false=>
  simp only[Bool.not_false,if_true,Bool.false_eq_true,if_false]
  have e:NB l x=l:=by simp[NB,hd]
  rw[e,CL _ _ 8 (by simp;omega) (by simp;omega)]
  rfl
mutual
def vs:Step→List Int | .mk o _ _ a k=>if fF o then [] else a ++ fO k
def fO:List (KB Step)→List Int | []=>[] | b :: k=>fg b ++ fO k
def fg:KB Step→List Int | ⟨ss,r⟩=>ek ss ++ [r]
def ek:List Step→List Int | []=>[] | s :: l=>vs s ++ ek l
end
end RC


namespace RC
open Go
def rowOf {α:Type} (n:Nat) (f:Nat→α):List α:=(List.range n).map f
theorem Ik {α:Type} {n:Nat} {f:Nat→α}:(rowOf n f).length=n:=by simp[rowOf]
theorem Ih {α:Type} {n:Nat} {f:Nat→α} {j:Nat} (h:j < n):(rowOf n f)[j]?=some (f j):=by simp[rowOf,h]
theorem V7 {α:Type} {n:Nat} {f g:Nat→α} (h :∀j,j < n→f j=g j):rowOf n f=rowOf n g:=List.map_congr_left fun j hj=>h j (List.mem_range.1 hj)
theorem Y1 {α:Type} {n:Nat} {f:Nat→α} {j:Nat} {v:α}:(rowOf n f).set j v=rowOf n (fun k=>if k=j then v else f k):=by
 apply List.ext_getElem?
 intro k
 rw[List.getElem?_set]
 by_cases hk:k < n
 ·rw[Ih hk,Ih hk,Ik]
  by_cases e:j=k
  ·subst e;simp[hk]
  ·have e':¬ k=j:=fun h=>e h.symm
   simp[e,e']
 ·rw[List.getElem?_eq_none (by rw[Ik];omega),List.getElem?_eq_none (by rw[Ik];omega),Ik]
  by_cases e:j=k
  ·subst e;simp[hk]
  ·simp[e]
def fA (h:List Cell) (j:Nat) (w:Int):Bool:=eM h w && decide ((w - 1000).toNat=j)
def fW (h:List Cell) (ws:List Int) (j:Nat):Nat:=ws.countP (fA h j)
theorem eo (h:List Cell) (j:Nat):fW h [] j=0:=rfl
def DH (l:List Nat):List Int:=List.map (fun n:Nat=>(n:Int)) l
end RC



namespace RC
open Go
theorem V3 (a b:List Nat):DH (a ++ b)=DH a ++ DH b:=by simp[DH]
theorem Kk (a:List Nat):(DH a).length=a.length:=by simp[DH]
def mk (m:Nat→Bool) (n i:Nat):List Nat:=(List.range' i (n - i)).filter m
theorem cZ (m:Nat→Bool) (n:Nat):mk m n n=[]:=by simp[mk]
theorem N8 {m:Nat→Bool} {n i:Nat} (hi:i < n):mk m n i=(if m i then [i] else []) ++ mk m n (i+1):=by
 unfold mk
 obtain⟨k,hk⟩ :∃k,n - i=k+1:=⟨n - i - 1,by omega⟩
 rw[hk,List.range'_succ,List.filter_cons,show n - (i+1)=k by omega]
 cases m i <;> simp
theorem Od {m:Nat→Bool} {n j:Nat}:j∈mk m n 0↔j < n∧m j=true:=by simp[mk]
theorem TI (m:Nat→Bool) (n i:Nat):(mk m n i).length≤n - i:=by
 have:=List.length_filter_le m (List.range' i (n - i))
 simpa [mk] using this
theorem Yb {l:List Int} {x:Int} (hl:l.length≤1048576) {N i:Nat} (hi:i≤l.length) (hN:l.length - i < N):FM l x N i=some (if x∈l.drop i then Sum.inl true else Sum.inr ()):=by
 refine BO l.length (fun N i=>FM l x N i=some (if x∈l.drop i then Sum.inl true else Sum.inr ())) ?_ ?_ hi hN
 ·intro n
  rw[FM,if_neg (by simp[AK])];simp
 ·intro n i hi ih
  obtain⟨y,hy,_⟩:=BV hi
  rw[FM,if_pos (by simp[AK];omega),At hy]
  simp only[Option.bind_some]
  rw[A3 (by omega) (by omega),show ((i:Int) + 1)=((i+1:Nat):Int) by omega,ih,drop_cons hy]
  by_cases e:y=x
  ·subst e;simp
  ·have e':¬ x=y:=fun h=>e h.symm
   simp[e,e']
theorem ZH {l:List Int} {x:Int} (hl:l.length≤1048576) {N:Nat} (hN:2000000≤N):IZ N l x=some (decide (x∈l)):=by
 unfold IZ
 have:=Yb (x:=x) hl (Nat.zero_le _) (by omega:l.length - 0 < N)
 rw[show ((0:Nat):Int)=0 from rfl,List.drop_zero] at this
 rw[this]
 by_cases h:x∈l <;> simp[h]
def DJ (m:Nat→Bool) (j:Nat):Nat→Bool:=fun k=>m k || decide (k=j)
theorem aU {m:Nat→Bool} {n i:Nat} {y:Int} (h:y∈DH (mk m n i)):(i:Int)≤y:=by
 obtain⟨k,hk,rfl⟩:=List.mem_map.1 h
 simp only[mk,List.mem_filter,List.mem_range'] at hk
 omega
theorem Y5 {l:List Int} {x:Int} (h :∀y∈l,x < y):ins l x=x :: l:=by
 cases l with
 | nil=>rfl
 | cons a r=>
  have:=h a (by simp)
  simp only[ins]
  rw[if_pos (by omega),if_pos this]
theorem mk_congr {m m':Nat→Bool} {n i:Nat} (h :∀k,i≤k→k < n→m k=m' k):mk m n i=mk m' n i:=by
 unfold mk
 refine List.filter_congr fun k hk=>?_
 simp only[List.mem_range'] at hk
 obtain⟨q,hq,rfl⟩:=hk
 exact h _ (by omega) (by omega)
theorem PW (a:Nat) (l:List Nat):DH (a :: l)=(a:Int) :: DH l:=rfl
theorem Wu {m:Nat→Bool} {n j:Nat} (hj:j < n) :∀(d i:Nat),j - i=d→i≤j→ins (DH (mk m n i)) (j:Int)=DH (mk (DJ m j) n i)
 | 0,i,hd,hi=>by
  have:i=j:=by omega
  subst this
  rw[N8 hj,N8 (m:=DJ m i) hj,mk_congr (m:=DJ m i) (m':=m) (i:=i+1) (fun k h1 h2=>by
   have:k≠i:=by omega
   simp[DJ,this])]
  have ha :∀y∈DH (mk m n (i+1)),(i:Int) < y:=fun y hy=>by have:=aU hy;omega
  have hw:DJ m i i=true:=by simp[DJ]
  rw[hw]
  cases m i with
  | true=>
   simp only[if_true,List.singleton_append,PW,ins]
   rw[if_pos (Int.le_refl _),if_neg (by omega)]
  | false=>
   simp only[Bool.false_eq_true,if_false,if_true,List.nil_append,List.singleton_append,PW]
   exact Y5 ha
 | d+1,i,hd,hi=>by
  have ih:=Wu (m:=m) hj d (i+1) (by omega) (by omega)
  rw[N8 (by omega),N8 (m:=DJ m j) (i:=i) (by omega)]
  have hw:DJ m j i=m i:=by
   have:i≠j:=by omega
   simp[DJ,this]
  rw[hw]
  cases m i with
  | true=>
   simp only[if_true,List.singleton_append,PW,ins]
   rw[if_neg (by omega),ih]
  | false=>
   simp only[Bool.false_eq_true,if_false,List.nil_append]
   exact ih
theorem UZ {m:Nat→Bool} {n j:Nat} (hn:n≤1048576) (hj:j < n) {N:Nat} (hN:2000000≤N):GG N (DH (mk m n 0)) (j:Int)=some (DH (mk (DJ m j) n 0)):=by
 rw[Sn (by rw[Kk];have:=TI m n 0;omega) hN,Wu hj j 0 (by omega) (by omega)]
def Dc (m:Nat→Bool) (l:List Int):Nat→Bool:=fun k=>m k || decide ((k:Int)∈l)
theorem Ib (m:Nat→Bool):Dc m []=m:=by funext k;simp[Dc]
theorem OH (m:Nat→Bool) (j:Nat) (l:List Int):Dc m ((j:Int) :: l)=Dc (DJ m j) l:=by
 funext k
 simp only[Dc,DJ,List.mem_cons,Bool.decide_or,Bool.or_assoc]
 congr 2
 exact decide_eq_decide.2 (by omega)
theorem Xl {m:Nat→Bool} {n j:Nat} (hn:n≤1048576) (hj:j < n) {N:Nat} (hN:2000000≤N):IZ N (DH (mk m n 0)) (j:Int)=some (m j):=by
 rw[ZH (by rw[Kk];have:=TI m n 0;omega) hN]
 congr 1
 have:((j:Int)∈DH (mk m n 0))↔j∈mk m n 0:=by
  constructor
  ·intro h
   obtain⟨k,hk,e⟩:=List.mem_map.1 h
   have:k=j:=by omega
   subst this;exact hk
  ·intro h;exact List.mem_map.2 ⟨j,h,rfl⟩
 cases hm:m j with
 | true=>exact decide_eq_true (this.2 (Od.2 ⟨hj,hm⟩))
 | false=>exact decide_eq_false fun h=>by have:=(Od.1 (this.1 h)).2;rw[hm] at this;cases this
theorem RN {m:Nat→Bool} {n0:Nat} (hl:n0≤1048576) {N i:Nat} (hi:i≤n0) (hN:n0 - i < N) :∀acc:List Nat,acc.length≤i→DB (rowOf n0 m) N i (DH acc)=some (DH (acc ++ mk m n0 i)):=by
 refine BO n0 (fun N i=>∀acc:List Nat,acc.length≤i→DB (rowOf n0 m) N i (DH acc)=some (DH (acc ++ mk m n0 i))) ?_ ?_ hi hN
 ·intro n acc _
  rw[DB,if_neg (by simp[AK,Ik]),cZ,List.append_nil]
 ·intro n i hi ih acc ha
  rw[DB,if_pos (by simp[AK,Ik];omega),At (Ih hi)]
  simp only[Option.bind_some]
  rw[A3 (by omega) (by omega),show ((i:Int) + 1)=((i+1:Nat):Int) by omega,N8 hi]
  cases m i with
  | false=>simp only[Bool.false_eq_true,if_false,Option.bind_some,List.nil_append];exact ih acc (by omega)
  | true=>
   simp only[if_true]
   rw[CL _ _ 8 (by rw[Kk];simp;omega) (by rw[Kk];simp;omega)]
   simp only[Option.bind_some]
   have:=ih (acc ++ [i]) (by simp;omega)
   rw[V3,List.append_assoc] at this
   exact this
theorem OD {m:Nat→Bool} {n:Nat} (hn:n≤1048576) {N:Nat} (hN:2000000≤N):E3 N (rowOf n m)=some (DH (mk m n 0)):=by
 unfold E3
 have:=RN (m:=m) hn (Nat.zero_le n) (by omega:n - 0 < N) [] (by simp)
 rw[show ((0:Nat):Int)=0 from rfl,show DH []=[] from rfl] at this
 rw[this];rfl
theorem Mj (m:Nat→Bool) (a b:List Int):Dc (Dc m a) b=Dc m (a ++ b):=by
 funext k;simp only[Dc,List.mem_append,Bool.decide_or,Bool.or_assoc]
mutual
def Lc:AD→List Int | .mk o n k=>(if o=9∨o=10 then [n] else []) ++ H9 k
def H9:List AD→List Int | []=>[] | e :: l=>Lc e ++ H9 l
end
def NG (e:AD):List Int:=if e.op=9∨e.op=10 then [e.num] else []
theorem LH (e:AD):Lc e=NG e ++ H9 e.kids:=by
 obtain⟨o,n,k⟩:=e
 by_cases h:o=9∨o=10
 ·have h':(AD.mk o n k).op=9∨(AD.mk o n k).op=10:=h
  unfold Lc NG;rw[if_pos h,if_pos h'];rfl
 ·have h':¬ ((AD.mk o n k).op=9∨(AD.mk o n k).op=10):=h
  unfold Lc NG;rw[if_neg h,if_neg h'];rfl
theorem SV {k:List AD} {i:Nat} {e:AD} (h:k[i]?=some e):H9 (k.drop i)=Lc e ++ H9 (k.drop (i+1)):=by rw[drop_cons h];simp[H9]
theorem Tb {k:List AD} {e:AD} (h:e∈k) {x:Int} (hx:x∈Lc e):x∈H9 k:=by
 induction k with
 | nil=>cases h
 | cons a r ih=>
  simp only[H9,List.mem_append]
  rcases List.mem_cons.1 h with rfl | h
  ·exact .inl hx
  ·exact .inr (ih h)
theorem Vr {e:AD}:(if decide (e.op=9)=true then some true else some (decide (e.op=10)))=some (decide (e.op=9∨e.op=10)):=by
 by_cases h:e.op=9 <;> simp[h]
def Ro (F:Nat) (l:List Int):Prop:=∀x∈l,0≤x∧x < (F:Int)
theorem WO {N:Nat} (hN:2000000≤N) {F:Nat} (hF:F≤1000) :∀(n:Nat) (e:AD) (m:Nat→Bool),en e≤1000→en e≤n→Ro F (Lc e)→EB N n e (DH (mk m F 0))=some (DH (mk (Dc m (Lc e)) F 0)):=by
 intro n
 induction n with
 | zero=>intro e _ _ h;have:=Gz e;omega
 | succ n ih=>
  intro e m hz hn hin
  have hk:e.kids.length≤1000:=by have:=Fh e.kids;have:=FG e;omega
  rw[EB]
  unfold Hc
  have key :∀{M i:Nat},i≤e.kids.length→e.kids.length - i < M→∀m:Nat→Bool,Ca e (EB N n) M (DH (mk m F 0)) i=some (DH (mk (Dc m (H9 (e.kids.drop i))) F 0)):=by
   intro M i hi hM
   refine BO e.kids.length (fun M i=>∀m:Nat→Bool,Ca e (EB N n) M (DH (mk m F 0)) i=some (DH (mk (Dc m (H9 (e.kids.drop i))) F 0))) ?_ ?_ hi hM
   ·intro q m;rw[Ca,if_neg (by simp[AK]),List.drop_length];simp[H9,Ib]
   ·intro q i hi ih2 m
    obtain⟨x,hx,hxm⟩:=BV hi
    have hxe:=B7 hxm
    rw[SV hx,Ca,if_pos (by simp[AK];omega),At hx]
    simp only[Option.bind_some]
    rw[ih x m (by omega) (by omega) (fun y hy=>hin y (by rw[LH];exact List.mem_append_right _ (Tb hxm hy)))]
    simp only[Option.bind_some]
    rw[A3 (n:=(i:Int) + 1) (by omega) (by omega),show ((i:Int) + 1)=((i+1:Nat):Int) by omega,ih2,Mj]
  rw[Vr]
  simp only[Option.bind_some]
  have e1:(if decide (e.op=9∨e.op=10)=true then Option.bind (GG N (DH (mk m F 0)) e.num) fun q22=>some q22 else some (DH (mk m F 0)))=some (DH (mk (Dc m (NG e)) F 0)):=by
   unfold NG
   by_cases h:e.op=9∨e.op=10
   ·rw[if_pos (by simpa using h),if_pos h]
    have:=hin e.num (by rw[LH];simp[NG,h])
    obtain⟨j,hj⟩:=Int.eq_ofNat_of_zero_le this.1
    rw[hj,UZ (by omega) (by omega) hN,OH,Ib];rfl
   ·rw[if_neg (by simpa using h),if_neg h,Ib]
  rw[e1]
  simp only[Option.bind_some]
  have:=key (Nat.zero_le _) (by omega:e.kids.length - 0 < N) (Dc m (NG e))
  rw[List.drop_zero,show ((0:Nat):Int)=0 from rfl,Mj,← LH] at this
  rw[this];rfl
theorem Ts {F j:Nat} {m:Nat→Bool}:Sh.put (rowOf F m) (j:Int) true=rowOf F (DJ m j):=by
 rw[Hm,Y1]
 refine V7 fun k _=>?_
 by_cases h:k=j <;> simp[DJ,h]
theorem bM {N:Nat} (hN:2000000≤N) {F:Nat} (hF:F≤1000) :∀(n:Nat) (e:AD) (m:Nat→Bool),en e≤1000→en e≤n→Ro F (Lc e)→FX N n (rowOf F m) e=some (rowOf F (Dc m (Lc e))):=by
 intro n
 induction n with
 | zero=>intro e _ _ h;have:=Gz e;omega
 | succ n ih=>
  intro e m hz hn hin
  have hk:e.kids.length≤1000:=by have:=Fh e.kids;have:=FG e;omega
  rw[FX]
  unfold JJ HU
  have key :∀{M i:Nat},i≤e.kids.length→e.kids.length - i < M→∀m:Nat→Bool,DZ e (FX N n) M i (rowOf F m)=some (rowOf F (Dc m (H9 (e.kids.drop i)))):=by
   intro M i hi hM
   refine BO e.kids.length (fun M i=>∀m:Nat→Bool,DZ e (FX N n) M i (rowOf F m)=some (rowOf F (Dc m (H9 (e.kids.drop i))))) ?_ ?_ hi hM
   ·intro q m;rw[DZ,if_neg (by simp[AK]),List.drop_length];simp[H9,Ib]
   ·intro q i hi ih2 m
    obtain⟨x,hx,hxm⟩:=BV hi
    have hxe:=B7 hxm
    rw[SV hx,DZ,if_pos (by simp[AK];omega),At hx]
    simp only[Option.bind_some]
    rw[ih x m (by omega) (by omega) (fun y hy=>hin y (by rw[LH];exact List.mem_append_right _ (Tb hxm hy)))]
    simp only[Option.bind_some]
    rw[A3 (n:=(i:Int) + 1) (by omega) (by omega),show ((i:Int) + 1)=((i+1:Nat):Int) by omega,ih2,Mj]
  rw[Vr]
  simp only[Option.bind_some]
  have e1:(if decide (e.op=9∨e.op=10)=true then Option.bind (Sh.get (rowOf F m) e.num) fun _=>some (Sh.put (rowOf F m) e.num true) else some (rowOf F m))=some (rowOf F (Dc m (NG e))):=by
   unfold NG
   by_cases h:e.op=9∨e.op=10
   ·rw[if_pos (by simpa using h),if_pos h]
    have:=hin e.num (by rw[LH];simp[NG,h])
    obtain⟨j,hj⟩:=Int.eq_ofNat_of_zero_le this.1
    rw[hj,At (Ih (by omega)),Ts,OH,Ib];rfl
   ·rw[if_neg (by simpa using h),if_neg h,Ib]
  rw[e1]
  simp only[Option.bind_some]
  have:=key (Nat.zero_le _) (by omega:e.kids.length - 0 < N) (Dc m (NG e))
  rw[List.drop_zero,show ((0:Nat):Int)=0 from rfl,Mj,← LH] at this
  rw[this];rfl
end RC



namespace RC
open Go
def pop (m:Nat→Bool):Nat→Nat | 0=>0 | n+1=>pop m n+(if m n then 1 else 0)
theorem TQ (m:Nat→Bool) :∀n,pop m n≤n
 | 0=>Nat.le_refl _
 | n+1=>by have:=TQ m n;simp only[pop];split <;> omega
theorem OX {m m':Nat→Bool} :∀{n:Nat},(∀k,k < n→m k=true→m' k=true)→pop m n≤pop m' n
 | 0,_=>Nat.le_refl _
 | n+1,h=>by
  have ih:=OX (n:=n) fun k hk=>h k (by omega)
  have h1:=h n (by omega)
  simp only[pop]
  cases hm:m n with
  | false=>simp only[Bool.false_eq_true,if_false];omega
  | true=>rw[h1 hm];simp only[if_true];omega
theorem ZU {m m':Nat→Bool} {j:Nat} (h0:m j=false) (h1:m' j=true) :∀{n:Nat},j < n→(∀k,k < n→m k=true→m' k=true)→pop m n+1≤pop m' n
 | 0,hj,_=>by omega
 | n+1,hj,h=>by
  simp only[pop]
  by_cases e:j=n
  ·subst e
   have:=OX (n:=j) fun k hk=>h k (by omega)
   rw[h0,h1];simp only[Bool.false_eq_true,if_false,if_true];omega
  ·have ih:=ZU h0 h1 (n:=n) (by omega) fun k hk=>h k (by omega)
   have h2:=h n (by omega)
   cases hm:m n with
   | false=>simp only[Bool.false_eq_true,if_false];omega
   | true=>rw[h2 hm];simp only[if_true];omega
theorem Mp {m:Nat→Bool} {j:Nat} (h0:m j=false) :∀{n:Nat},j < n→pop (DJ m j) n=pop m n+1
 | 0,hj=>by omega
 | n+1,hj=>by
  simp only[pop]
  by_cases e:j=n
  ·subst e
   have a :∀n,n≤j→pop (DJ m j) n=pop m n:=by
    intro n
    induction n with
    | zero=>intro _;rfl
    | succ n ih=>
     intro hn
     have:n≠j:=by omega
     simp[pop,ih (by omega),DJ,this]
   rw[a j (Nat.le_refl _)]
   simp[DJ,h0]
  ·have ih:=Mp h0 (n:=n) (by omega)
   have:n≠j:=fun h=>e h.symm
   rw[ih];simp[DJ,this];omega
def push:List Int→(Nat→Bool)→List Int→(Nat→Bool)×List Int
 | [],m,w=>(m,w)
 | x :: q,m,w=>if m x.toNat then push q m w else push q (DJ m x.toNat) (w ++ [x])
structure dT (F:Nat) (q:List Int) (m:Nat→Bool) (w:List Int) (m':Nat→Bool) (w':List Int):Prop where
 new :∃v,w'=w ++ v∧Ro F v∧(∀x∈v,m' x.toNat=true)∧(∀k,k < F→m' k=true→m k=true∨(k:Int)∈v)∧v.length+pop m F=pop m' F
 mono :∀k,m k=true→m' k=true
 all :∀x∈q,m' x.toNat=true
 only :∀k,m' k=true→m k=true∨(k:Int)∈q
theorem Tw {F:Nat} :∀(q:List Int) (m:Nat→Bool) (w:List Int),Ro F q→dT F q m w (push q m w).1 (push q m w).2
 | [],m,w,_=>⟨⟨[],by simp[push],fun _ h=>(by cases h),fun _ h=>(by cases h),fun _ _ h=>.inl h,by simp[push]⟩,fun _ h=>h,fun _ h=>(by cases h),fun _ h=>.inl h⟩
 | x :: q,m,w,hq=>by
  have hx:=hq x (by simp)
  have hq':Ro F q:=fun y hy=>hq y (by simp[hy])
  simp only[push]
  cases hm:m x.toNat with
  | true=>
   simp only[if_true]
   obtain⟨a,b,c,d⟩:=Tw q m w hq'
   refine⟨a,b,fun y hy=>?_,fun k hk=>(d k hk).imp id fun h=>by simp[h]⟩
   rcases List.mem_cons.1 hy with rfl | hy
   ·exact b _ hm
   ·exact c y hy
  | false=>
   simp only[Bool.false_eq_true,if_false]
   obtain⟨⟨v,a1,a2,a3,a4,a5⟩,b,c,d⟩:=Tw q (DJ m x.toNat) (w ++ [x]) hq'
   have h1 :∀k,m k=true→DJ m x.toNat k=true:=fun k hk=>by simp[DJ,hk]
   have hxs:DJ m x.toNat x.toNat=true:=by simp[DJ]
   refine⟨⟨x :: v,by rw[a1];simp,fun y hy=>?_,fun y hy=>?_,fun k hkF hk=>?_,?_⟩,fun k hk=>b k (h1 k hk),fun y hy=>?_,fun k hk=>?_⟩
   ·rcases List.mem_cons.1 hy with rfl | hy
    ·exact hx
    ·exact a2 y hy
   ·rcases List.mem_cons.1 hy with rfl | hy
    ·exact b _ hxs
    ·exact a3 y hy
   ·rcases a4 k hkF hk with h | h
    ·simp only[DJ,Bool.or_eq_true,decide_eq_true_eq] at h
     rcases h with h | h
     ·exact .inl h
     ·exact .inr (by simp only[List.mem_cons];left;omega)
    ·exact .inr (by simp[h])
   ·have:=Mp hm (n:=F) (by omega)
    simp only[List.length_cons];omega
   ·rcases List.mem_cons.1 hy with rfl | hy
    ·exact b _ hxs
    ·exact c y hy
   ·rcases d k hk with h | h
    ·simp only[DJ,Bool.or_eq_true,decide_eq_true_eq] at h
     rcases h with h | h
     ·exact .inl h
     ·exact .inr (by simp only[List.mem_cons];left;omega)
    ·exact .inr (by simp[h])
theorem cP {F:Nat} (hF:F≤1000) {q:List Int} (hq:Ro F q) (hql:q.length≤1000) {N i:Nat} (hi:i≤q.length) (hN:q.length - i < N) :∀(m:Nat→Bool) (w:List Int),w.length+(q.length - i)≤5000→
  CU q N i (rowOf F m) w=some (rowOf F (push (q.drop i) m w).1,(push (q.drop i) m w).2):=by
 refine BO q.length (fun N i=>∀(m:Nat→Bool) (w:List Int),w.length+(q.length - i)≤5000→CU q N i (rowOf F m) w=some (rowOf F (push (q.drop i) m w).1,(push (q.drop i) m w).2)) ?_ ?_ hi hN
 ·intro n m w _
  rw[CU,if_neg (by simp[AK]),List.drop_length];rfl
 ·intro n i hi ih m w hw
  obtain⟨x,hx,hxm⟩:=BV hi
  have hxi:=hq x hxm
  obtain⟨j,rfl⟩:=Int.eq_ofNat_of_zero_le hxi.1
  rw[CU,if_pos (by simp[AK];omega),At hx]
  simp only[Option.bind_some]
  rw[At (Ih (by omega)),A3 (n:=(i:Int) + 1) (by omega) (by omega),show ((i:Int) + 1)=((i+1:Nat):Int) by omega,drop_cons hx]
  simp only[Option.bind_some,push,Int.toNat_natCast]
  cases hm:m j with
  | true=>simp only[Bool.not_true,Bool.false_eq_true,if_false,if_true,Option.bind_some];exact ih m w (by omega)
  | false=>
   simp only[Bool.not_false,if_true,Bool.false_eq_true,if_false]
   rw[CL _ _ 8 (by simp;omega) (by simp;omega),Ts]
   simp only[Option.bind_some]
   exact ih _ _ (by simp;omega)
end RC



namespace RC
open Go
structure PO (p:AN) (F:Nat):Prop where
 len:p.funcs.length=F
 le:F≤4
 sz :∀f∈p.funcs,en f.body≤30
 dt :∀f∈p.funcs,Ro F (Lc f.body)
def Oy (p:AN) (k:Nat):List Int:=match p.funcs[k]? with | some f=>Lc f.body | none=>[]
theorem QQ {p:AN} {F:Nat} (P:PO p F) (k:Nat):Ro F (Oy p k):=by
 unfold Oy
 cases h:p.funcs[k]? with
 | none=>intro x hx;cases hx
 | some f=>exact P.dt f (List.mem_of_getElem? h)
inductive Re (p:AN) (F:Nat) (c:Nat):Nat→Prop
 | refl:Re p F c c
 | step {k:Nat} {x:Int}:Re p F c k→x∈Oy p k→Re p F c x.toNat
def KT:Nat→Bool:=fun _=>false
def cl (p:AN) (F k:Nat):List Int:=DH (mk (Dc KT (Oy p k)) F 0)
theorem Q7 {p:AN} {F k:Nat} (P:PO p F) (x:Int):x∈cl p F k↔x∈Oy p k:=by
 unfold cl
 constructor
 ·intro h
  obtain⟨j,hj,rfl⟩:=List.mem_map.1 h
  have:=(Od.1 hj).2
  simpa [Dc,KT] using this
 ·intro h
  have hin:=QQ P k x h
  obtain⟨j,rfl⟩:=Int.eq_ofNat_of_zero_le hin.1
  exact List.mem_map.2 ⟨j,Od.2 ⟨by omega,by simpa [Dc,KT] using h⟩,rfl⟩
theorem TZ {p:AN} {F k:Nat} (P:PO p F):Ro F (cl p F k):=fun x hx=>QQ P k x ((Q7 P x).1 hx)
theorem Wq {p:AN} {F k:Nat}:(cl p F k).length≤F:=by unfold cl;rw[Kk];have:=TI (Dc KT (Oy p k)) F 0;omega
theorem O9 {p:AN} {F k:Nat} (P:PO p F) {f:Ah} (hf:p.funcs[k]?=some f) {N:Nat} (hN:2000000≤N):G8 N f.body []=some (cl p F k):=by
 have hm:=List.mem_of_getElem? hf
 have hs:=P.sz f hm
 have hF:=P.le
 have:=WO hN (F:=F) (by omega) N f.body KT (by omega) (by omega) (P.dt f hm)
 have e:DH (mk KT F 0)=[]:=by simp[mk,DH,KT]
 rw[e] at this
 unfold G8
 rw[this]
 unfold cl Oy
 rw[hf]
theorem XC (F:Nat):List.replicate F false=rowOf F KT:=by
 apply List.ext_getElem?
 intro k
 by_cases h:k < F
 ·rw[Ih h,List.getElem?_replicate,if_pos h];rfl
 ·rw[List.getElem?_eq_none (by simp;omega),List.getElem?_eq_none (by rw[Ik];omega)]
theorem PD {p:AN} {F k:Nat} (P:PO p F) {f:Ah} (hf:p.funcs[k]?=some f) {N:Nat} (hN:2000000≤N):GF N p (k:Int)=some (rowOf F (Dc KT (Oy p k))):=by
 have hm:=List.mem_of_getElem? hf
 have hs:=P.sz f hm
 have hF:=P.le
 unfold GF
 rw[AK,P.len,Ie _ F 1 (by omega) (by omega),XC,At hf]
 simp only[Option.bind_some]
 unfold Mr
 rw[bM hN (by omega) N f.body KT (by omega) (by omega) (P.dt f hm)]
 unfold Oy
 rw[hf];rfl
theorem SS {p:AN} {F k:Nat} (P:PO p F) {N:Nat} (hN:2000000≤N):E3 N (rowOf F (Dc KT (Oy p k)))=some (cl p F k):=OD (by have:=P.le;omega) hN
def Sub (p:AN) (F c:Nat) (m:Nat→Bool):Prop:=∀k,k < F→m k=true→Re p F c k
def Cl (p:AN) (F:Nat) (m:Nat→Bool):Prop:=∀k,k < F→m k=true→∀x∈Oy p k,m x.toNat=true
theorem aq {p:AN} {F c:Nat} (P:PO p F) {m:Nat→Bool} (h0:m c=true) (hc:Cl p F m) (hcF:c < F) :∀{k},Re p F c k→k < F∧m k=true:=by
 intro k h
 induction h with
 | refl=>exact⟨hcF,h0⟩
 | step h hx ih=>have:=QQ P _ _ hx;exact⟨by omega,hc _ ih.1 ih.2 _ hx⟩
theorem cR {p:AN} {F c:Nat} (P:PO p F) {N0:Nat} (hN0:2000000≤N0) :∀(N:Nat) (m:Nat→Bool) (w:List Int),w.length+(F - pop m F) < N→Ro F w→(∀x∈w,m x.toNat=true)→Sub p F c m→(w.length≤4)→
  (∀k,k < F→m k=true→(k:Int)∈w∨∀x∈Oy p k,m x.toNat=true)→w.length+(F - pop m F)≤4→
  ∃m',Du N0 p N (rowOf F m) w=some (rowOf F m')∧(∀k,m k=true→m' k=true)∧Sub p F c m'∧Cl p F m':=by
 intro N
 induction N with
 | zero=>intro m w h;omega
 | succ N ih=>
  intro m w hN hw hwm hs hw4 hcl hme
  rw[Du]
  cases w with
  | nil=>
   rw[if_neg (by simp[AK])]
   exact⟨m,rfl,fun _ h=>h,hs,fun k hk h=>(hcl k hk h).resolve_left (by simp)⟩
  | cons x w=>
   have hF:=P.le
   have hx:=hw x (by simp)
   obtain⟨j,rfl⟩:=Int.eq_ofNat_of_zero_le hx.1
   obtain⟨f,hf,_⟩:=BV (l:=p.funcs) (i:=j) (by rw[P.len];omega)
   have hg:Sh.get ((j:Int) :: w) 0=some (j:Int):=rfl
   rw[if_pos (by simp[AK]),hg]
   simp only[Option.bind_some]
   rw[PD P hf hN0]
   simp only[Option.bind_some]
   rw[SS P hN0]
   simp only[Option.bind_some]
   have hl:=Wq (p:=p) (F:=F) (k:=j)
   have e:=cP (F:=F) (by omega) (TZ P (k:=j)) (by omega) (Nat.zero_le _) (by omega:(cl p F j).length - 0 < N0) m ((j:Int) :: w) (by omega)
   rw[List.drop_zero,show ((0:Nat):Int)=0 from rfl] at e
   rw[e]
   simp only[Option.bind_some]
   obtain⟨⟨v,a1,a2,a3,a4,a5⟩,b,cc,d⟩:=Tw (F:=F) (cl p F j) m ((j:Int) :: w) (TZ P)
   generalize push (cl p F j) m ((j:Int) :: w)=pw at a1 a3 a4 a5 b cc d ⊢
   rw[a1]
   have hsl:Sh.sl ((j:Int) :: w ++ v) 1 (Sh.len ((j:Int) :: w ++ v))=some (w ++ v):=by
    unfold Sh.sl Sh.len
    rw[if_pos ⟨by omega,by simp;omega,by omega⟩,Int.toNat_natCast,List.take_length]
    rfl
   rw[hsl]
   simp only[Option.bind_some]
   have hp1:=TQ pw.1 F
   simp only[List.length_cons] at hN hw4 hme
   have q1:Ro F (w ++ v):=fun y hy=>by
    rcases List.mem_append.1 hy with hy | hy
    ·exact hw y (by simp[hy])
    ·exact a2 y hy
   have q2 :∀y∈w ++ v,pw.1 y.toNat=true:=fun y hy=>by
    rcases List.mem_append.1 hy with hy | hy
    ·exact b _ (hwm y (by simp[hy]))
    ·exact a3 y hy
   have q3:Sub p F c pw.1:=fun k hk h=>by
    rcases d k h with h | h
    ·exact hs k hk h
    ·have:=Re.step (hs j (by omega) (by simpa using hwm (j:Int) (by simp))) ((Q7 P _).1 h)
     simpa using this
   have q4 :∀k,k < F→pw.1 k=true→(k:Int)∈w ++ v∨∀x∈Oy p k,pw.1 x.toNat=true:=fun k hk h=>by
    rcases a4 k hk h with h | h
    ·rcases hcl k hk h with h | h
     ·rcases List.mem_cons.1 h with h | h
      ·have:k=j:=by omega
       subst this
       exact .inr fun y hy=>cc y ((Q7 P y).2 hy)
      ·exact .inl (by simp[h])
     ·exact .inr fun y hy=>b _ (h y hy)
    ·exact .inl (by simp[h])
   obtain⟨m',r1,r2,r3,r4⟩:=ih pw.1 (w ++ v) (by simp;omega) q1 q2 q3 (by simp;omega) q4 (by simp;omega)
   exact⟨m',r1,fun k h=>r2 k (b k h),r3,r4⟩
end RC



namespace RC
open Go
theorem cf {m m':Nat→Bool} {F:Nat} (h :∀k,k < F→m k=true→m' k=true) (he:pop m' F≤pop m F) :∀k,k < F→m' k=true→m k=true:=fun k hk h1=>by
 cases h0:m k with
 | true=>rfl
 | false=>have:=ZU h0 h1 hk h;omega
theorem aC {F:Nat} (hF:F≤1000) {q:List Int} (hq:Ro F q) (hql:q.length≤1000) {N0:Nat} (hN0:2000000≤N0) {N i:Nat} (hi:i≤q.length) (hN:q.length - i < N) :∀m:Nat→Bool,
  CV N0 q N i (DH (mk m F 0))=some (DH (mk (Dc m (q.drop i)) F 0)):=by
 refine BO q.length (fun N i=>∀m:Nat→Bool,CV N0 q N i (DH (mk m F 0))=some (DH (mk (Dc m (q.drop i)) F 0))) ?_ ?_ hi hN
 ·intro n m
  rw[CV,if_neg (by simp[AK]),List.drop_length,Ib]
 ·intro n i hi ih m
  obtain⟨x,hx,hxm⟩:=BV hi
  have hxi:=hq x hxm
  obtain⟨j,rfl⟩:=Int.eq_ofNat_of_zero_le hxi.1
  rw[CV,if_pos (by simp[AK];omega),At hx]
  simp only[Option.bind_some]
  rw[UZ (by omega) (by omega) hN0,A3 (n:=(i:Int) + 1) (by omega) (by omega),show ((i:Int) + 1)=((i+1:Nat):Int) by omega,drop_cons hx,OH]
  simp only[Option.bind_some]
  exact ih _
structure eh (p:AN) (F c i:Nat) (m m':Nat→Bool):Prop where
 mono :∀k,m k=true→m' k=true
 sub:Sub p F c m→Sub p F c m'
 still:Cl p F m→∀k,k < F→m' k=true→m k=true
 closed:pop m' F≤pop m F→∀k,i≤k→k < F→m k=true→∀x∈Oy p k,m x.toNat=true
theorem Zt {p:AN} {F c:Nat} (P:PO p F) {N0:Nat} (hN0:2000000≤N0) {N i:Nat} (hi:i≤F) (hN:F - i < N) :∀m:Nat→Bool,
  ∃m',CT N0 p N i (DH (mk m F 0))=some (DH (mk m' F 0))∧eh p F c i m m':=by
 have hF:=P.le
 refine BO F (fun N i=>∀m:Nat→Bool,∃m',CT N0 p N i (DH (mk m F 0))=some (DH (mk m' F 0))∧eh p F c i m m') ?_ ?_ hi hN
 ·intro n m
  refine⟨m,by rw[CT,if_neg (by simp[AK,P.len])],fun _ h=>h,fun h=>h,fun _ _ _ h=>h,fun _ k h1 h2=>by omega⟩
 ·intro n i hi ih m
  rw[CT,if_pos (by simp[AK,P.len];omega),Xl (by omega) hi hN0]
  simp only[Option.bind_some]
  rw[A3 (n:=(i:Int) + 1) (by omega) (by omega),show ((i:Int) + 1)=((i+1:Nat):Int) by omega]
  cases hm:m i with
  | false=>
   simp only[Bool.false_eq_true,if_false,Option.bind_some]
   obtain⟨m',h1,h2⟩:=ih m
   refine⟨m',h1,h2.mono,h2.sub,h2.still,fun he k hk hkF hmk=>?_⟩
   by_cases e:k=i
   ·subst e;rw[hm] at hmk;cases hmk
   ·exact h2.closed he k (by omega) hkF hmk
  | true=>
   obtain⟨f,hf,_⟩:=BV (l:=p.funcs) (i:=i) (by rw[P.len];omega)
   simp only[if_true]
   rw[At hf]
   simp only[Option.bind_some]
   rw[O9 P hf hN0]
   simp only[Option.bind_some]
   have hl:=Wq (p:=p) (F:=F) (k:=i)
   have e:=aC (F:=F) (by omega) (TZ P (k:=i)) (by omega) hN0 (Nat.zero_le _) (by omega:(cl p F i).length - 0 < N0) m
   rw[List.drop_zero,show ((0:Nat):Int)=0 from rfl] at e
   rw[e]
   simp only[Option.bind_some]
   obtain⟨m',h1,h2⟩:=ih (Dc m (cl p F i))
   have g0 :∀k,m k=true→Dc m (cl p F i) k=true:=fun k hk=>by simp[Dc,hk]
   have g1 :∀k,Dc m (cl p F i) k=true→m k=true∨(k:Int)∈Oy p i:=fun k hk=>by
    simp only[Dc,Bool.or_eq_true,decide_eq_true_eq] at hk
    exact hk.imp id fun h=>(Q7 P _).1 h
   have g2 :∀x∈Oy p i,Dc m (cl p F i) x.toNat=true:=fun x hx=>by
    have:=QQ P i x hx
    have e:((x.toNat:Nat):Int)=x:=by omega
    simp only[Dc,e,(Q7 P x).2 hx,decide_true,Bool.or_true]
   refine⟨m',h1,fun k hk=>h2.mono k (g0 k hk),fun hs=>h2.sub fun k hk h=>?_,fun hc k hk h=>?_,fun he k hk hkF hmk x hx=>?_⟩
   ·rcases g1 k h with h | h
    ·exact hs k hk h
    ·have:=Re.step (hs i hi hm) h
     simpa using this
   ·have same :∀k,k < F→Dc m (cl p F i) k=true→m k=true:=fun k _ h=>by
     rcases g1 k h with h | h
     ·exact h
     ·have:=hc i hi hm _ h
      simpa using this
    exact same k hk (h2.still (fun k hk h x hx=>g0 _ (hc k hk (same k hk h) x hx)) k hk h)
   ·have p1:=OX (n:=F) fun k _=>g0 k
    have p2:=OX (n:=F) fun k _=>h2.mono k
    have same:=cf (fun k _=>g0 k) (by omega:pop (Dc m (cl p F i)) F≤pop m F)
    have hxF:=QQ P k x hx
    by_cases e:k=i
    ·subst e;exact same _ (by omega) (g2 x hx)
    ·exact same _ (by omega) (h2.closed (by omega) k (by omega) hkF (g0 k hmk) x hx)
theorem aJ {p:AN} {F c:Nat} (P:PO p F) {N0:Nat} (hN0:2000000≤N0) {N r:Nat} (hr:r≤F) (hN:F - r < N) :∀m:Nat→Bool,Sub p F c m→m c=true→(r+1≤pop m F∨Cl p F m)→
  ∃m',Cc N0 p N r (DH (mk m F 0))=some (DH (mk m' F 0))∧Sub p F c m'∧m' c=true∧Cl p F m':=by
 have hF:=P.le
 refine BO F (fun N r=>∀m:Nat→Bool,Sub p F c m→m c=true→(r+1≤pop m F∨Cl p F m)→∃m',Cc N0 p N r (DH (mk m F 0))=some (DH (mk m' F 0))∧Sub p F c m'∧m' c=true∧Cl p F m') ?_ ?_ hr hN
 ·intro n m hs hc h
  refine⟨m,by rw[Cc,if_neg (by simp[AK,P.len])],hs,hc,h.resolve_left fun h=>by have:=TQ m F;omega⟩
 ·intro n r hr ih m hs hc h
  rw[Cc,if_pos (by simp[AK,P.len];omega)]
  obtain⟨m1,h1,h2⟩:=Zt (c:=c) P hN0 (Nat.zero_le F) (by omega:F - 0 < N0) m
  rw[show ((0:Nat):Int)=0 from rfl] at h1
  rw[h1]
  simp only[Option.bind_some]
  rw[A3 (n:=(r:Int) + 1) (by omega) (by omega),show ((r:Int) + 1)=((r+1:Nat):Int) by omega]
  have key:Cl p F m→Cl p F m1:=fun hcl k hk hm x hx=>h2.mono _ (hcl k hk (h2.still hcl k hk hm) x hx)
  refine ih m1 (h2.sub hs) (h2.mono c hc) ?_
  by_cases he:pop m1 F≤pop m F
  ·exact .inr (key fun k hk=>h2.closed he k (Nat.zero_le _) hk)
  ·rcases h with h | h
   ·exact .inl (by omega)
   ·exact .inr (key h)
end RC



namespace RC
open Go
theorem XL {F c:Nat} (hc:c < F):[(c:Int)]=DH (mk (DJ KT c) F 0):=by
 have h:=Wu (m:=KT) (n:=F) hc c 0 (by omega) (Nat.zero_le _)
 have e:DH (mk KT F 0)=[]:=by simp[mk,DH,KT]
 rw[e] at h
 exact h
theorem Pu {c k:Nat} (h:DJ KT c k=true):k=c:=by simpa [DJ,KT] using h
theorem TC {p:AN} {F c:Nat} (P:PO p F) (hc:c < F) {N:Nat} (hN:2000000≤N) :∃m,GI N p (c:Int)=some (DH (mk m F 0))∧∀k,k < F→(m k=true↔Re p F c k):=by
 have hF:=P.le
 have h1:DJ KT c c=true:=by simp[DJ]
 have hp:0+1≤pop (DJ KT c) F:=by
  have:=Mp (m:=KT) (j:=c) rfl hc
  omega
 obtain⟨m,a1,a2,a3,a4⟩:=aJ (c:=c) P hN (Nat.zero_le F) (by omega:F - 0 < N) (DJ KT c) (fun k _ hk=>by rw[Pu hk];exact .refl) h1 (.inl hp)
 refine⟨m,?_,fun k hk=>⟨a2 k hk,fun h=>(aq P a3 a4 hc h).2⟩⟩
 unfold GI
 rw[XL hc]
 rw[show ((0:Nat):Int)=0 from rfl] at a1
 rw[a1];rfl
theorem Sl {p:AN} {F c:Nat} (P:PO p F) (hc:c < F) {N:Nat} (hN:2000000≤N) (hv:Ce N p=some true) :∃m,GK N p (c:Int)=some (DH (mk m F 0))∧∀k,k < F→(m k=true↔Re p F c k):=by
 have hF:=P.le
 have h1:DJ KT c c=true:=by simp[DJ]
 have hpc:=Mp (m:=KT) (j:=c) rfl hc
 have hple:=TQ (DJ KT c) F
 obtain⟨m,a1,a2,a3,a4⟩:=cR (c:=c) P hN N (DJ KT c) [(c:Int)] (by simp;omega) (fun x hx=>by simp at hx;omega) (fun x hx=>by simp at hx;subst hx;simpa using h1) (fun k _ hk=>by rw[Pu hk];exact .refl) (by simp) (fun k _ hk=>.inl (by rw[Pu hk];simp)) (by simp;omega)
 refine⟨m,?_,fun k hk=>⟨a3 k hk,fun h=>(aq P (a2 c h1) a4 hc h).2⟩⟩
 unfold GK
 rw[hv]
 have b1:decide ((c:Int) < 0)=false:=decide_eq_false (by omega)
 have b2:decide (((F:Nat):Int)≤(c:Int))=false:=decide_eq_false (by omega)
 simp only[Option.bind_some,Bool.not_true,Bool.false_eq_true,if_false,b1,AK,P.len,b2]
 rw[Ie _ F 1 (by omega) (by omega),XC]
 simp only[Option.bind_some]
 rw[At (Ih hc),Ts]
 simp only[Option.bind_some]
 rw[a1]
 simp only[Option.bind_some]
 rw[OD (by omega) hN];rfl
theorem aP {l:List Int} {x:Int} (hl:l.length≤1000) {N i:Nat} (hi:i≤l.length) (hN:l.length - i < N):(x∈l.drop i→∃j:Nat,Ba l x N i=some (.inl (j:Int)))∧(x ∉ l.drop i→Ba l x N i=some (.inr ())):=by
 refine BO l.length (fun N i=>(x∈l.drop i→∃j:Nat,Ba l x N i=some (.inl (j:Int)))∧(x ∉ l.drop i→Ba l x N i=some (.inr ()))) ?_ ?_ hi hN
 ·intro n
  rw[List.drop_length]
  exact⟨fun h=>(by cases h),fun _=>by rw[Ba,if_neg (by simp[AK])]⟩
 ·intro n i hi ih
  obtain⟨y,hy,_⟩:=BV hi
  rw[drop_cons hy,Ba,if_pos (by simp[AK];omega),At hy]
  simp only[Option.bind_some,List.mem_cons,not_or]
  rw[A3 (n:=(i:Int) + 1) (by omega) (by omega),show ((i:Int) + 1)=((i+1:Nat):Int) by omega]
  by_cases e:x=y
  ·rw[if_pos (by simpa using e)]
   exact⟨fun _=>⟨i,rfl⟩,fun h=>absurd e h.1⟩
  ·rw[if_neg (by simpa using e)]
   exact⟨fun h=>ih.1 (h.resolve_left e),fun h=>ih.2 h.2⟩
theorem WH {l:List Int} {x:Int} (hl:l.length≤1000) {N:Nat} (hN:2000000≤N):EN N l x=some (decide (x∈l)):=by
 have h:=aP (x:=x) hl (Nat.zero_le _) (by omega:l.length - 0 < N)
 rw[List.drop_zero,show ((0:Nat):Int)=0 from rfl] at h
 unfold EN F6
 by_cases hx:x∈l
 ·obtain⟨j,hj⟩:=h.1 hx
  rw[hj]
  have:(0:Int)≤(j:Int):=by omega
  simp[Sh.cont,hx]
 ·rw[h.2 hx]
  simp[Sh.cont,hx]
theorem mem_mk {m:Nat→Bool} {F k:Nat} (hk:k < F):((k:Int)∈DH (mk m F 0))↔m k=true:=by
 constructor
 ·intro h
  obtain⟨j,hj,e⟩:=List.mem_map.1 h
  have:j=k:=by omega
  subst this
  exact (Od.1 hj).2
 ·intro h;exact List.mem_map.2 ⟨k,Od.2 ⟨hk,h⟩,rfl⟩
open Classical in
theorem Ut {p:AN} {F:Nat} (P:PO p F) {f:Int} {N:Nat} (hN:2000000≤N) (hs:Bc N p=some true) (hv:Ce N p=some true) :∃b,G5 N p f=some b∧EW N p f=some b:=by
 have hF:=P.le
 unfold G5 EW Dy
 rw[hs,hv]
 simp only[Option.bind_some,if_true,Bool.not_true,Bool.false_eq_true,if_false,AK,P.len]
 rw[C3,A3 (n:=(F:Int) - 1) (by omega) (by omega)]
 simp only[Option.bind_some]
 by_cases h1:f < 1
 ·have:¬ (1≤f):=by omega
  exact⟨false,by simp[this],by simp[h1]⟩
 ·by_cases h2:(F:Int)≤f
  ·have:¬ (f≤(F:Int) - 1):=by omega
   exact⟨false,by simp[this],by simp[h2]⟩
  ·obtain⟨k,rfl⟩:=Int.eq_ofNat_of_zero_le (by omega:0≤f)
   have hk:k < F:=by omega
   obtain⟨g,hg,_⟩:=BV (l:=p.funcs) (i:=k) (by rw[P.len];omega)
   have c1:(1:Int)≤(k:Int):=by omega
   have c2:(k:Int)≤(F:Int) - 1:=by omega
   have hl:=Wq (p:=p) (F:=F) (k:=k)
   have L1:=Cg (l:=cl p F k) (Dq N p (k:Int) (cl p F k)) (fun _ c=>decide (¬ Re p F c.toNat k)) (fun n=>by rw[Dq,if_neg (by simp[AK])]) (fun n i c hc=>by
    have hil:=(List.getElem?_eq_some_iff.1 hc).1
    have hcF:=TZ P c (List.mem_of_getElem? hc)
    obtain⟨j,rfl⟩:=Int.eq_ofNat_of_zero_le hcF.1
    obtain⟨m,a1,a2⟩:=TC P (c:=j) (by omega) hN
    rw[Dq,if_pos (by simp[AK];omega),At hc]
    simp only[Option.bind_some]
    rw[a1]
    simp only[Option.bind_some]
    rw[Xl (by omega) hk hN,A3 (n:=(i:Int) + 1) (by omega) (by omega),show ((i:Int) + 1)=((i+1:Nat):Int) by omega]
    simp only[Option.bind_some,Int.toNat_natCast]
    have:=a2 k hk
    by_cases hr:Re p F j k
    ·simp[this.2 hr,hr]
    ·have:m k=false:=by
      cases hm:m k with
      | false=>rfl
      | true=>exact absurd (this.1 hm) hr
     simp[this,hr]) (by omega:(cl p F k).length < N)
   have L2:=Cg (l:=cl p F k) (Dp N p (k:Int) (cl p F k)) (fun _ c=>decide (¬ Re p F c.toNat k)) (fun n=>by rw[Dp,if_neg (by simp[AK])]) (fun n i c hc=>by
    have hil:=(List.getElem?_eq_some_iff.1 hc).1
    have hcF:=TZ P c (List.mem_of_getElem? hc)
    obtain⟨j,rfl⟩:=Int.eq_ofNat_of_zero_le hcF.1
    obtain⟨m,a1,a2⟩:=Sl P (c:=j) (by omega) hN hv
    rw[Dp,if_pos (by simp[AK];omega),At hc]
    simp only[Option.bind_some]
    rw[a1]
    simp only[Option.bind_some]
    rw[WH (by rw[Kk];have:=TI m F 0;omega) hN,A3 (n:=(i:Int) + 1) (by omega) (by omega),show ((i:Int) + 1)=((i+1:Nat):Int) by omega]
    simp only[Option.bind_some,Int.toNat_natCast,mem_mk hk]
    have:=a2 k hk
    by_cases hr:Re p F j k
    ·simp[this.2 hr,hr]
    ·have:m k=false:=by
      cases hm:m k with
      | false=>rfl
      | true=>exact absurd (this.1 hm) hr
     simp[this,hr]) (by omega:(cl p F k).length < N)
   have hco:HJ N p (k:Int)=some (cl p F k):=by
    unfold HJ
    rw[hv]
    have b1:decide ((k:Int) < 0)=false:=decide_eq_false (by omega)
    have b2:decide ((F:Int)≤(k:Int))=false:=decide_eq_false (by omega)
    simp only[Option.bind_some,Bool.not_true,Bool.false_eq_true,if_false,b1,AK,P.len,b2]
    rw[PD P hg hN]
    simp only[Option.bind_some]
    rw[SS P hN];rfl
   refine⟨ER (fun _ c=>decide (¬ Re p F c.toNat k)) 0 (cl p F k),?_,?_⟩
   ·simp only[c1,c2,decide_true,Bool.and_true,Bool.not_true,Bool.false_eq_true,if_false]
    rw[At hg]
    simp only[Option.bind_some]
    rw[O9 P hg hN]
    simp only[Option.bind_some]
    rw[L1,De]
    cases ER (fun (_:Nat) (c:Int)=>decide (¬ Re p F c.toNat k)) 0 (cl p F k) <;> rfl
   ·simp only[h1,h2,decide_false,Bool.false_eq_true,if_false,Option.bind_some]
    rw[hco]
    simp only[Option.bind_some]
    rw[L2,De]
    cases ER (fun (_:Nat) (c:Int)=>decide (¬ Re p F c.toNat k)) 0 (cl p F k) <;> rfl
end RC



namespace RC
open Go
section
variable {p : AN} {R1 : AN → List Int → AD → Option Int} {R2 : List Int → A1 → AD → Option Int} {T : List Int → AD → Int} {e : AD} {v : List Int} {N : Nat}
theorem cj (S:E6 p.decls p.funcs) {t:Int} (hB:BK N R1 p v e=some t) (ht:t≠-1) (h:e.op=9∨e.op=10):0≤e.num∧e.num < (p.funcs.length:Int):=by
 have hF:=S.LF
 by_cases hr:0≤e.num∧e.num≤(p.funcs.length:Int) - 1
 ·omega
 ·exfalso
  apply ht
  have hb:(decide (0≤e.num) && decide (e.num≤(p.funcs.length:Int) - 1))=false:=by
   rw[← Bool.decide_and];exact decide_eq_false hr
  unfold BK EK at hB
  rcases h with h | h
  all_goals
   simp only[h,Int.reduceEq,decide_true,decide_false,Bool.false_eq_true,if_true,if_false,Option.bind_some] at hB
   rw[C3,AK p.funcs,A3 (n:=(p.funcs.length:Int) - 1) (by omega) (by omega),hb] at hB
   simpa [Sh.cont] using hB.symm
theorem RH {l:List Int} (h:J6 l≠-1) :∀x∈l,x≠-1:=by
 cases l with
 | nil=>exact absurd rfl h
 | cons a r=>
  simp only[J6] at h
  by_cases hr:r.all (fun x=>decide (x=a))=true
  ·rw[if_pos hr] at h
   intro x hx
   rcases List.mem_cons.1 hx with rfl | hx
   ·exact h
   ·have:=List.all_eq_true.1 hr x hx
    simp only[decide_eq_true_eq] at this
    rw[this];exact h
  ·rw[if_neg hr] at h;exact absurd rfl h
theorem ba (H:Jd p (ET p) R1 R2 T (en e)) (V:Gn p e v) (S:E6 p.decls p.funcs) (hN:2000000≤N) {t:Int} (hB:Al N R2 v (ET p) e=some t) (ht:t≠-1) :
  ∀k∈e.kids,∃m:List Int,m.length≤3∧(∀x∈m,C1 p.decls x=true)∧T (v ++ m) k≠-1:=by
 have hv:v.length≤1000:=by have:=V.len;omega
 have nil :∀k,T v k≠-1→∃m:List Int,m.length≤3∧(∀x∈m,C1 p.decls x=true)∧T (v ++ m) k≠-1:=fun k h=>⟨[],by simp,fun x hx=>(by cases hx),by simpa using h⟩
 by_cases h12:e.op=12
 ·unfold Al at hB
  simp only[h12,decide_true,if_true] at hB
  intro k hk
  have:0 < Sh.len e.kids:=by rw[AK];have:=List.length_pos_of_mem hk;omega
  simp only[this,decide_true,if_true,Option.bind_some,Option.some.injEq] at hB
  exact absurd hB.symm ht
 by_cases h13:e.op=13
 ·unfold Al at hB
  simp only[h13,Int.reduceEq,decide_true,decide_false,Bool.false_eq_true,if_true,if_false] at hB
  by_cases hl:e.kids.length=2
  ·obtain⟨a,b,hk⟩ :∃a b,e.kids=[a,b]:=by
    match hk:e.kids,hl with
    | [a,b],_=>exact⟨a,b,rfl⟩
   have hma:a∈e.kids:=by rw[hk];simp
   have hmb:b∈e.kids:=by rw[hk];simp
   obtain⟨a1,a2,a3⟩:=H v a (V.FE.kids a hma) (B7 hma) (V.Jg hma) V.It
   have g0:Sh.get e.kids 0=some a:=by rw[hk];rfl
   have g1:Sh.get e.kids 1=some b:=by rw[hk];rfl
   rw[g0,g1] at hB
   simp only[Option.bind_some,AK,hl] at hB
   rw[a2] at hB
   simp only[Option.bind_some] at hB
   by_cases hn:e.num=0
   ·by_cases h0:T v a < 0
    ·simp[hn,h0] at hB;exact absurd hB.symm ht
    ·have hty:C1 p.decls (T v a)=true:=a3.resolve_left (by omega)
     obtain⟨b1,b2,b3⟩:=H (v ++ [T v a]) b (V.FE.kids b hmb) (B7 hmb) (V.more hmb (by simp)) (V.Uc (by simp[hty]))
     rw[CL v [T v a] 8 (by simp;omega) (by simp;omega)] at hB
     simp only[Option.bind_some,b2] at hB
     simp[hn,h0] at hB
     intro k hkm
     rw[hk] at hkm
     simp only[List.mem_cons,List.not_mem_nil,or_false] at hkm
     rcases hkm with rfl | rfl
     ·exact nil _ (by omega)
     ·exact⟨[T v a],by simp,by simp[hty],by rw[hB];exact ht⟩
   ·simp[hn] at hB;exact absurd hB.symm ht
  ·have:¬ ((e.kids.length:Int)=2):=by omega
   simp[AK,this] at hB;exact absurd hB.symm ht
 by_cases h7:e.op=7
 ·unfold Al at hB
  simp only[h7,Int.reduceEq,decide_true,decide_false,Bool.false_eq_true,if_true,if_false] at hB
  by_cases hl:e.kids.length=3
  ·obtain⟨a,b,c,hk⟩ :∃a b c,e.kids=[a,b,c]:=by
    match hk:e.kids,hl with
    | [a,b,c],_=>exact⟨a,b,c,rfl⟩
   have hma:a∈e.kids:=by rw[hk];simp
   have hmb:b∈e.kids:=by rw[hk];simp
   have hmc:c∈e.kids:=by rw[hk];simp
   obtain⟨a1,a2,a3⟩:=H v a (V.FE.kids a hma) (B7 hma) (V.Jg hma) V.It
   have g0:Sh.get e.kids 0=some a:=by rw[hk];rfl
   have g3:Sh.sl e.kids 1 3=some [b,c]:=by rw[hk];rfl
   have o:=Iq (ks:=[b,c]) (ms:=[[],[]]) H V hN (by intro k hk;simp only[List.mem_cons,List.not_mem_nil,or_false] at hk;rcases hk with rfl | rfl <;> assumption) (by simp) rfl (by simp)
   have mk2:Sh.mk ([]:List Int) 2 24=some [[],[]]:=Ie [] 2 24 (by omega) (by omega)
   rw[g0] at hB
   simp only[Option.bind_some,AK,hl] at hB
   rw[a2,show ((3:Nat):Int)=3 from rfl,g3,mk2] at hB
   simp only[Option.bind_some] at hB
   rw[o] at hB
   by_cases hn:e.num=0
   ·by_cases h0:T v a=0
    ·simp[hn,h0] at hB
     have hal:=RH (l:=[T v b,T v c]) (by rw[hB];exact ht)
     intro k hkm
     rw[hk] at hkm
     simp only[List.mem_cons,List.not_mem_nil,or_false] at hkm
     rcases hkm with rfl | rfl | rfl
     ·exact nil _ (by omega)
     ·exact nil _ (hal _ (by simp))
     ·exact nil _ (hal _ (by simp))
    ·simp[hn,h0] at hB;exact absurd hB.symm ht
   ·simp[hn] at hB;exact absurd hB.symm ht
  ·have:¬ ((e.kids.length:Int)=3):=by omega
   simp[AK,this] at hB;exact absurd hB.symm ht
 by_cases h8:e.op=8
 ·have hkl:=V.Il
  have hD:=S.NY
  have hn:=S.nc
  have hCl:=Ky S.Tj e.num
  unfold Al at hB
  simp only[h8,Int.reduceEq,decide_true,decide_false,Bool.false_eq_true,if_true,if_false] at hB
  rw[show (ET p).decls=p.decls from rfl,G3 (by omega) (by omega) hN] at hB
  simp only[Option.bind_some] at hB
  generalize hCe:Db p.decls e.num=C at hCl hB
  have hCm :∀c∈C,CP N p.decls c=some (FW p.decls c)∧DK N p.decls c=some (FW p.decls c)∧(FW p.decls c).length≤3∧∀x∈FW p.decls c,C1 p.decls x=true:=fun c hc=>Qh S (hCe ▸ hc) hN
  rw[AK C,AK e.kids,A3 (n:=1+(C.length:Int)) (by omega) (by omega)] at hB
  by_cases h0:C.length=0
  ·simp[h0] at hB;exact absurd hB.symm ht
  ·have h0':¬ ((C.length:Int)=0):=by omega
   have hne:¬ C=[]:=fun q=>h0 (by rw[q];rfl)
   by_cases h1:e.kids.length=1+C.length
   ·have h1':((e.kids.length:Int)=1+(C.length:Int)):=by omega
    obtain⟨a,r,hks⟩ :∃a r,e.kids=a :: r:=by
     cases hq:e.kids with
     | nil=>rw[hq] at h1;simp at h1;omega
     | cons a r=>exact⟨a,r,rfl⟩
    have hrl:r.length=C.length:=by rw[hks] at h1;simp at h1;omega
    have hma:a∈e.kids:=by rw[hks];simp
    have hmr :∀k∈r,k∈e.kids:=fun k hk=>by rw[hks];simp[hk]
    obtain⟨a1,a2,a3⟩:=H v a (V.FE.kids a hma) (B7 hma) (V.Jg hma) V.It
    have g0:Sh.get e.kids 0=some a:=by rw[hks];rfl
    have g3:Sh.sl e.kids 1 (e.kids.length:Int)=some r:=by
     unfold Sh.sl
     rw[if_pos ⟨by omega,by omega,by omega⟩,hks];simp
    have mkC:Sh.mk ([]:List Int) (C.length:Int) 24=some (List.replicate C.length []):=Ie [] C.length 24 (by omega) (by omega)
    have o:=Iq (ks:=r) (ms:=C.map (FW p.decls)) H V hN hmr (by omega) (by simp[hrl]) (by
     intro m hm
     obtain⟨c,hc,rfl⟩:=List.mem_map.1 hm
     exact (hCm c hc).2.2)
    have FL:=My (p:=p) S hN hCl fun c hc=>(hCm c hc).2.1
    rw[g0,g3,mkC] at hB
    simp only[Option.bind_some] at hB
    rw[a2,FL] at hB
    simp only[Option.bind_some] at hB
    rw[o] at hB
    by_cases hta:T v a=e.num
    ·simp[hne,h1',hta] at hB
     have hal:=RH (by rw[hB];exact ht)
     intro k hkm
     rw[hks] at hkm
     rcases List.mem_cons.1 hkm with rfl | hkm
     ·refine nil _ fun hq=>?_
      have hneg:e.num=-1:=by rw[← hta];exact hq
      rw[hneg] at hCe
      exact h0 (by rw[← hCe];simp[Db])
     ·obtain⟨i,hi⟩:=List.mem_iff_getElem?.1 hkm
      have hil:=(List.getElem?_eq_some_iff.1 hi).1
      obtain⟨c,hc,hcm⟩:=BV (l:=C) (i:=i) (by omega)
      refine⟨FW p.decls c,(hCm c hcm).2.2.1,(hCm c hcm).2.2.2,hal _ (List.mem_iff_getElem?.2 ⟨i,?_⟩)⟩
      rw[List.getElem?_zipWith,List.getElem?_map,hc,hi];rfl
    ·simp[hne,h1',hta] at hB;exact absurd hB.symm ht
   ·have h1':¬ ((e.kids.length:Int)=1+(C.length:Int)):=by omega
    simp[hne,h1'] at hB;exact absurd hB.symm ht
 rw[FO H V hN h12 h13 h7 h8] at hB
 by_cases h:(e.kids.map (T v)).any (fun t=>decide (t < 0))=true
 ·rw[if_pos h] at hB;simp at hB;exact absurd hB.symm ht
 ·intro k hk
  refine nil k fun hq=>h ?_
  exact List.any_eq_true.2 ⟨T v k,List.mem_map_of_mem hk,by rw[hq];rfl⟩
end
end RC

