import Derived.Test.YtcegihniiokijaaGreatGEncToEncB
import Derived.Test.YtcegihniiokijaaGreatGEncCToULDefs

namespace RC
open Go
theorem BJ {n:Int} (h1:-9223372036854775808≤n) (h2:n≤9223372036854775807):Sh.w n=n:=Abs.wrap_i64 h1 h2
theorem AU {α:Type} (l:List α):Sh.len l=(l.length:Int):=rfl
theorem Yj {α:Type} (l:List α) (i:Nat):Sh.get l (i:Int)=l[i]?:=by
 unfold Sh.get;rw[if_pos (Int.natCast_nonneg i)];simp
theorem A4 {α:Type} {l:List α} {i:Nat} {x:α} (h:l[i]?=some x):Sh.get l (i:Int)=some x:=by rw[Yj,h]
theorem Kz {α:Type} {l:List α} {j:Int} (h0:0≤j) (h1:j < l.length) :∃x,Sh.get l j=some x∧l[j.toNat]?=some x:=by
 have h:l[j.toNat]?=some (l[j.toNat]'(by omega)):=List.getElem?_eq_getElem (by omega)
 exact⟨_,by unfold Sh.get;rw[if_pos h0,h],h⟩
theorem Pp {α:Type} {l:List α} {j:Int} (h0:0≤j):Sh.get l j=l[j.toNat]?:=by unfold Sh.get;rw[if_pos h0]
theorem J2 {α:Type} (l:List α) (i:Nat) (x:α):Sh.put l (i:Int) x=l.set i x:=by simp[Sh.put]
theorem LZ {α:Type} (x:α) (n b:Nat) (h:n * b≤281474976710656) (h2:n≤9223372036854775807):Sh.mk x (n:Int) b=some (List.replicate n x):=by
 unfold Sh.mk
 rw[if_pos ⟨by omega,by rw[← Int.natCast_mul];omega,by omega⟩];simp
theorem Dp {α:Type} (l m:List α) (b:Nat) (h:(l.length+m.length) * b≤140737488355328) (h2:l.length+m.length≤9223372036854775807):Sh.app l m b=some (l ++ m):=by
 unfold Sh.app;rw[if_pos ⟨h,h2⟩]
theorem bW {α:Type} {l:List α} {j:Nat} (h:j≤l.length):Sh.hi l (j:Int)=some (l.take j):=by
 unfold Sh.hi;rw[if_pos ⟨by omega,by omega⟩];simp
theorem Bn (len:Nat) (P:Nat→Nat→Prop) (h0 :∀n,P (n+1) len) (hs :∀n i,i < len→P n (i+1)→P (n+1) i) :∀{N i:Nat},i≤len→len - i < N→P N i:=by
 intro N i hi hN
 obtain⟨k,hk⟩ :∃k,len - i=k:=⟨_,rfl⟩
 induction k generalizing N i with
 | zero=>
  obtain⟨n,rfl⟩ :∃n,N=n+1:=⟨N - 1,by omega⟩
  have:i=len:=by omega
  subst this;exact h0 n
 | succ k ih=>
  obtain⟨n,rfl⟩ :∃n,N=n+1:=⟨N - 1,by omega⟩
  exact hs n i (by omega) (ih (by omega) (by omega) (by omega))
theorem Bl {α:Type} {l:List α} {i:Nat} (h:i < l.length) :∃x,l[i]?=some x∧x∈l:=⟨l[i],List.getElem?_eq_getElem h,List.getElem_mem h⟩
theorem Ee {α:Type} {l:List α} {j:Nat} {x:α} (h:l[j]?=some x):l.take (j+1)=l.take j ++ [x]:=by rw[List.take_add_one,h];rfl
theorem drop_cons {α:Type} {l:List α} {j:Nat} {x:α} (h:l[j]?=some x):l.drop j=x :: l.drop (j+1):=by
 obtain⟨hj,rfl⟩:=List.getElem?_eq_some_iff.1 h
 exact List.drop_eq_getElem_cons hj
def Y1 (h:List Cell):Nat:=(h.map fun c=>c.fields.length).sum
def FA (h:List Cell):Nat:=h.length+Y1 h
structure Hp (h:List Cell):Prop where
 size:FA h≤1048576
 cells :∀c∈h,Tu c
theorem XR {h:List Cell} {c:Cell} (hc:c∈h):c.fields.length≤Y1 h:=by
 induction h with
 | nil=>cases hc
 | cons d h ih=>
  simp only[Y1,List.map_cons,List.sum_cons] at ih ⊢
  rcases List.mem_cons.1 hc with rfl | hc
  ·omega
  ·have:=ih hc;omega
theorem Hp.len {h:List Cell} (H:Hp h):h.length≤1048576:=by have:=H.size;unfold FA at this;omega
theorem Hp.aO {h:List Cell} (H:Hp h) {c:Cell} (hc:c∈h):c.fields.length≤1048576:=by have:=H.size;have:=XR hc;unfold FA at *;omega
end RC



namespace RC
open Go
def Dh {α:Type} (f:Nat→α→Bool):Nat→List α→Bool
 | _,[]=>true
 | k,x :: r=>f k x && Dh f (k+1) r
theorem PI {α:Type} {f g:Nat→α→Bool} :∀(l:List α) (k:Nat),(∀(i:Nat) x,l[i]?=some x→f (k+i) x=g (k+i) x)→Dh f k l=Dh g k l
 | [],_,_=>rfl
 | x :: r,k,h=>by
  have h0:=h 0 x rfl
  rw[Nat.add_zero] at h0
  have h1:=PI r (k+1) fun i y hy=>(show k+(i+1)=k+1+i by omega) ▸ h (i+1) y hy
  rw[Dh,Dh,h0,h1]
theorem DP {α:Type} {p:α→Bool} :∀(l:List α) (k:Nat),Dh (fun _ x=>p x) k l=l.all p
 | [],_=>rfl
 | x :: r,k=>by rw[Dh,DP r (k+1),List.all_cons]
theorem CS {α:Type} {l:List α} (L:Nat→Int→Option (Bool ⊕ Unit)) (f:Nat→α→Bool) (h0 :∀n,L (n+1) (l.length:Int)=some (.inr ()))
  (hs :∀n (i:Nat) x,l[i]?=some x→L (n+1) (i:Int)=if f i x=true then L n ((i+1:Nat):Int) else some (.inl false)) {N:Nat} (hN:l.length < N) :
  L N 0=some (if Dh f 0 l=true then .inr () else .inl false):=by
 have key :∀{N i:Nat},i≤l.length→l.length - i < N→L N (i:Int)=some (if Dh f i (l.drop i)=true then .inr () else .inl false):=by
  intro N i hi hN
  refine Bn l.length (fun N i=>L N (i:Int)=some (if Dh f i (l.drop i)=true then .inr () else .inl false)) ?_ ?_ hi hN
  ·intro n;rw[h0 n];simp[Dh]
  ·intro n i hi ih
   obtain⟨x,hx,_⟩:=Bl hi
   rw[hs n i x hx,ih,drop_cons hx,Dh]
   cases h:f i x <;> simp
 have:=key (Nat.zero_le _) (by omega:l.length - 0 < N)
 simpa using this
theorem C1 {β:Type} {b:Bool} {g:Bool→β} {K:Unit→Option β}:Sh.cont (some (if b=true then Sum.inr () else Sum.inl false)) g K=if b=true then K () else some (g false):=by
 cases b <;> rfl
theorem Ut {α:Type} {l:List α} {j:Nat} (h:j≤l.length) (h2:l.length≤9223372036854775807):Sh.sl l 0 (j:Int)=some (l.take j):=by
 unfold Sh.sl
 rw[if_pos ⟨by omega,by omega,by omega⟩];simp
end RC


namespace RC
open Go
theorem Lc {l:List Int} {left:Int} (h0:0≤left) (h1:left≤1048576) (hl:l.length≤9223372036854775807):Fh l left=some (if left - l.length < 0 then -1 else left - l.length):=by
 unfold Fh
 rw[AU,BJ (by omega) (by omega)]
 by_cases h:left - l.length < 0 <;> simp[h]
theorem Sn {l:List Int} (hl:l.length≤1048576) {N i:Nat} (hi:i≤l.length) (hN:l.length - i < N) :∀m:List Int,m.length=l.length→m.take i=l.take i→D2 l N i m=some l:=by
 refine Bn l.length (fun N i=>∀m:List Int,m.length=l.length→m.take i=l.take i→D2 l N i m=some l) ?_ ?_ hi hN
 ·intro n m hm ht
  rw[D2,if_neg (by simp[AU])]
  rw[List.take_of_length_le (by omega),List.take_length] at ht
  rw[ht]
 ·intro n i hi ih m hm ht
  obtain⟨x,hx,_⟩:=Bl hi
  obtain⟨y,hy,_⟩:=Bl (l:=m) (i:=i) (by omega)
  rw[D2,if_pos (by simp[AU];omega),A4 hx]
  simp only[Option.bind_some]
  rw[A4 hy]
  simp only[Option.bind_some]
  rw[BJ (by omega) (by omega),J2,show ((i:Int) + 1)=((i+1:Nat):Int) by omega]
  refine ih _ (by simp[hm]) ?_
  rw[Ee hx,Ee (x:=x) (by rw[List.getElem?_set];simp;omega),List.take_set_of_le (Nat.le_refl _),ht]
theorem Lq {l:List Int} (hl:l.length≤1048576) {N:Nat} (hN:2000000≤N):Fa N l=some l:=by
 unfold Fa
 rw[AU,LZ 0 l.length 8 (by omega) (by omega)]
 simp only[Option.bind_some]
 have:=Sn hl (Nat.zero_le _) (by omega:l.length - 0 < N) (List.replicate l.length 0) (by simp) (by simp)
 rw[show ((0:Nat):Int)=0 from rfl] at this
 rw[this];rfl
theorem Sc {l:List Int} (hl:l.length≤1048576) {N i:Nat} (hi:i≤l.length) (hN:l.length - i < N):D6 l l N i=some (Sum.inr ()):=by
 refine Bn l.length (fun N i=>D6 l l N i=some (Sum.inr ())) ?_ ?_ hi hN
 ·intro n
  rw[D6,if_neg (by simp[AU])]
 ·intro n i hi ih
  obtain⟨x,hx,_⟩:=Bl hi
  rw[D6,if_pos (by simp[AU];omega),A4 hx]
  simp only[Option.bind_some]
  rw[BJ (by omega) (by omega),show ((i:Int) + 1)=((i+1:Nat):Int) by omega]
  simpa using ih
theorem La {l:List Int} (hl:l.length≤1048576) {N:Nat} (hN:2000000≤N):Fg N l l=some true:=by
 unfold Fg
 have:=Sc hl (Nat.zero_le _) (by omega:l.length - 0 < N)
 rw[show ((0:Nat):Int)=0 from rfl] at this
 simp[this]
end RC


namespace RC
open Go
theorem CB (a b c:Int):BT a b c=some (decide (b≤a) && decide (a≤c)):=by
 unfold BT
 by_cases h:b≤a <;> simp[h]
end RC



namespace RC
open Go
def Ck (D:List Ag) (t:Int):Bool:=decide (0≤t) && decide (t≤(D.length:Int))
theorem KM {D:List Ag} {x:Int}:BT x 0 (Sh.len D)=some (Ck D x):=by rw[CB];rfl
theorem KT {D:List Ag} {l:List Int} (hl:l.length≤1048576) {N:Nat} (hN:l.length < N):F4 N D l=some (l.all (Ck D)):=by
 unfold F4
 rw[CS (l:=l) (Dl D l) (fun _ x=>Ck D x) (fun n=>by rw[Dl,if_neg (by simp[AU])]) (fun n i x hx=>?_) hN,C1,DP]
 ·cases l.all (Ck D) <;> rfl
 ·have hi:=(List.getElem?_eq_some_iff.1 hx).1
  rw[Dl,if_pos (by simp[AU];omega),A4 hx]
  simp only[Option.bind_some]
  rw[KM,BJ (by omega) (by omega),show ((i:Int) + 1)=((i+1:Nat):Int) by omega]
  simp only[Option.bind_some]
  cases Ck D x <;> rfl
theorem Hy {D:List Ag} {t:Int}:Fb D t=some (Ck D t):=by
 unfold Fb Ck
 by_cases h:0≤t <;> by_cases h2:t≤(D.length:Int) <;> simp[h,h2,AU]
theorem KN {D:List Ag} {l:List Int} (hl:l.length≤1048576) {N:Nat} (hN:l.length < N):GJ N D l=some (l.all (Ck D)):=by
 unfold GJ
 rw[CS (l:=l) (Du D l) (fun _ x=>Ck D x) (fun n=>by rw[Du,if_neg (by simp[AU])]) (fun n i x hx=>?_) hN,C1,DP]
 ·cases l.all (Ck D) <;> rfl
 ·have hi:=(List.getElem?_eq_some_iff.1 hx).1
  rw[Du,if_pos (by simp[AU];omega),A4 hx]
  simp only[Option.bind_some]
  rw[Hy,BJ (by omega) (by omega),show ((i:Int) + 1)=((i+1:Nat):Int) by omega]
  simp only[Option.bind_some]
  cases Ck D x <;> rfl
def Ns (D:List Ag) (c:BO):Bool:=decide (c.fields.length≤3) && c.fields.all (Ck D)
def Fs (a b:Ag):Bool:=decide (a.cons.length=0) && (decide (a.from_=b.from_) && decide (a.to=b.to))
def Ja (D:List Ag) (i:Nat) (d:Ag):Bool:=
 if 0 < d.cons.length then (decide (d.cons.length≤3) && (decide (d.from_=0) && decide (d.to=0))) && d.cons.all (Ns D)
 else (D.take i).all (fun e=>!Fs e d) && (Ck D d.from_ && Ck D d.to)
def PT (D:List Ag) (i:Nat) (d:Ag):Bool:=
 ((Ck D d.from_ && (Ck D d.to && (decide (d.cons.length≤3) && (!(decide (0 < d.cons.length) && (!decide (d.from_=0) || !decide (d.to=0))))))) && d.cons.all (Ns D)) && (D.take i).all (fun e=>!(decide (d.cons.length=0) && Fs e d))
theorem Vf (D:List Ag) (i:Nat) (d:Ag):PT D i d=Ja D i d:=by
 unfold PT Ja
 by_cases h:0 < d.cons.length
 ·have h0:¬ d.cons.length=0:=by omega
  have ha:(D.take i).all (fun e=>!(decide (d.cons.length=0) && Fs e d))=true:=by simp[h0]
  rw[if_pos h,ha]
  by_cases h1:d.from_=0 <;> by_cases h2:d.to=0 <;> simp[h,h1,h2,Ck]
 ·have h0:d.cons.length=0:=by omega
  have hc:d.cons=[]:=List.eq_nil_of_length_eq_zero h0
  rw[if_neg h]
  simp only[hc,h0,List.length_nil,List.all_nil,decide_true,Bool.true_and,Bool.and_true]
  cases Ck D d.from_ <;> cases Ck D d.to <;> simp
structure NN (D:List Ag):Prop where
 len:D.length≤1048576
 cons :∀d∈D,d.cons.length≤1048576
 MP :∀d∈D,∀c∈d.cons,c.fields.length≤1048576
theorem OZ {D:List Ag} (hD:NN D) {i:Nat} {d:Ag} (hd:D[i]?=some d) {N:Nat} (hN:2000000≤N):Gj N D i=some (Ja D i d):=by
 have hm:=List.mem_of_getElem? hd
 have hi:=(List.getElem?_eq_some_iff.1 hd).1
 have hlen:=hD.len
 have hc:=hD.cons d hm
 unfold Gj Ja
 rw[A4 hd]
 simp only[Option.bind_some]
 by_cases h:0 < d.cons.length
 ·rw[if_pos (by simp[AU];omega),if_pos h]
  rw[CS (l:=d.cons) (DU N d D) (fun _ c=>Ns D c) (fun n=>by rw[DU,if_neg (by simp[AU])]) (fun n j c hj=>?_) (by omega),C1,DP]
  ·simp only[AU]
   by_cases h3:d.cons.length≤3
   ·have e3:¬ (3:Int) < (d.cons.length:Int):=by omega
    generalize d.cons.all (Ns D)=z
    cases z <;> by_cases h1:d.from_=0 <;> by_cases h2:d.to=0 <;> simp[h1,h2,h3,e3]
   ·have e3:(3:Int) < (d.cons.length:Int):=by omega
    simp[h3,e3]
  ·have hj':=(List.getElem?_eq_some_iff.1 hj).1
   have hf:=hD.MP d hm c (List.mem_of_getElem? hj)
   rw[DU,if_pos (by simp[AU];omega),A4 hj]
   simp only[Option.bind_some]
   rw[KT hf (by omega),BJ (by omega) (by omega),show ((j:Int) + 1)=((j+1:Nat):Int) by omega]
   unfold Ns
   by_cases h3:c.fields.length≤3
   ·have e3:¬ (3:Int) < (c.fields.length:Int):=by omega
    simp only[AU]
    cases c.fields.all (Ck D) <;> simp[h3,e3]
   ·have e3:(3:Int) < (c.fields.length:Int):=by omega
    simp[h3,e3,AU]
 ·have h0:d.cons.length=0:=by omega
  have e0:¬ decide ((0:Int) < Sh.len d.cons)=true:=by rw[AU,h0];simp
  rw[if_neg e0,if_neg h]
  have hlt:(D.take i).length=i:=by simp;omega
  rw[CS (l:=D.take i) (DW d D i) (fun _ e=>!Fs e d) (fun n=>by rw[DW,if_neg (by simp;omega)]) (fun n j e hj=>?_) (by omega),C1,DP]
  ·rw[KM,KM]
   simp only[Option.bind_some]
   cases (D.take i).all (fun e=>!Fs e d) <;> cases Ck D d.from_ <;> simp
  ·have hj':=(List.getElem?_eq_some_iff.1 hj).1
   have hje:D[j]?=some e:=by rw[List.getElem?_take] at hj;split at hj <;> first | exact hj | cases hj
   rw[DW,if_pos (by simp;omega),A4 hje]
   simp only[Option.bind_some]
   rw[BJ (by omega) (by omega),show ((j:Int) + 1)=((j+1:Nat):Int) by omega]
   unfold Fs
   simp only[AU]
   by_cases a0:e.cons.length=0 <;> by_cases a1:e.from_=d.from_ <;> by_cases a2:e.to=d.to <;> simp[a0,a1,a2]
def KX (D:List Ag):Bool:=decide (D.length≤4) && Dh (Ja D) 0 D
theorem Nd {D:List Ag} (hD:NN D) {N:Nat} (hN:2000000≤N):Fz N D=some (KX D):=by
 have hlen:=hD.len
 unfold Fz KX
 rw[CS (l:=D) (C5 N D) (Ja D) (fun n=>by rw[C5,if_neg (by simp[AU])]) (fun n i d hd=>?_) (by omega),C1]
 ·simp only[AU]
  by_cases h:D.length≤4
  ·have e4:¬ (4:Int) < (D.length:Int):=by omega
   cases Dh (Ja D) 0 D <;> simp[h,e4]
  ·have e4:(4:Int) < (D.length:Int):=by omega
   simp[h,e4]
 ·have hi:=(List.getElem?_eq_some_iff.1 hd).1
  rw[C5,if_pos (by simp[AU];omega),OZ hD hd hN]
  simp only[Option.bind_some]
  rw[BJ (by omega) (by omega),show ((i:Int) + 1)=((i+1:Nat):Int) by omega]
  cases Ja D i d <;> rfl
theorem Nb {D:List Ag} (hD:NN D) {N:Nat} (hN:2000000≤N):F9 N D=some (KX D):=by
 have hlen:=hD.len
 unfold F9 KX
 rw[← PI (f:=PT D) D 0 (fun i d _=>Vf D _ d)]
 rw[CS (l:=D) (C3 N D) (PT D) (fun n=>by rw[C3,if_neg (by simp[AU])]) (fun n i d hd=>?_) (by omega),C1]
 ·simp only[AU]
  by_cases h:D.length≤4
  ·have e4:¬ (4:Int) < (D.length:Int):=by omega
   cases Dh (PT D) 0 D <;> simp[h,e4]
  ·have e4:(4:Int) < (D.length:Int):=by omega
   simp[h,e4]
 ·have hi:=(List.getElem?_eq_some_iff.1 hd).1
  have hm:=List.mem_of_getElem? hd
  have hc:=hD.cons d hm
  have l2:CY N d D N 0=some (if d.cons.all (Ns D)=true then .inr () else .inl false):=by
   rw[CS (l:=d.cons) (CY N d D) (fun _ c=>Ns D c) (fun n=>by rw[CY,if_neg (by simp[AU])]) (fun n j c hj=>?_) (by omega),DP]
   have hj':=(List.getElem?_eq_some_iff.1 hj).1
   have hf:=hD.MP d hm c (List.mem_of_getElem? hj)
   rw[CY,if_pos (by simp[AU];omega),A4 hj]
   simp only[Option.bind_some]
   rw[KN hf (by omega),BJ (by omega) (by omega),show ((j:Int) + 1)=((j+1:Nat):Int) by omega]
   unfold Ns
   by_cases h3:c.fields.length≤3
   ·have e3:¬ (3:Int) < (c.fields.length:Int):=by omega
    simp only[AU]
    cases c.fields.all (Ck D) <;> simp[h3,e3]
   ·have e3:(3:Int) < (c.fields.length:Int):=by omega
    simp[h3,e3,AU]
  have hlt:(D.take i).length=i:=by simp;omega
  have l3:CX d (D.take i) N 0=some (if (D.take i).all (fun e=>!(decide (d.cons.length=0) && Fs e d))=true then .inr () else .inl false):=by
   rw[CS (l:=D.take i) (CX d (D.take i)) (fun _ e=>!(decide (d.cons.length=0) && Fs e d)) (fun n=>by rw[CX,if_neg (by simp[AU])]) (fun n j e hj=>?_) (by omega),DP]
   have hj':=(List.getElem?_eq_some_iff.1 hj).1
   rw[CX,if_pos (by simp only[AU];simp;omega),A4 hj]
   simp only[Option.bind_some]
   rw[BJ (by omega) (by omega),show ((j:Int) + 1)=((j+1:Nat):Int) by omega]
   unfold Fs
   simp only[AU]
   by_cases b0:d.cons.length=0 <;> by_cases a0:e.cons.length=0 <;> by_cases a1:e.from_=d.from_ <;> by_cases a2:e.to=d.to <;> simp[a0,a1,a2,b0]
  rw[C3,if_pos (by simp[AU];omega),A4 hd]
  simp only[Option.bind_some]
  rw[Hy,Hy,l2,Ut (by omega) (by omega),BJ (by omega) (by omega),show ((i:Int) + 1)=((i+1:Nat):Int) by omega]
  simp only[Option.bind_some]
  rw[l3,C1,C1]
  unfold PT
  simp only[AU]
  generalize d.cons.all (Ns D)=z1
  generalize (D.take i).all (fun e=>!(decide (d.cons.length=0) && Fs e d))=z2
  by_cases h3:d.cons.length≤3
  ·have e3:¬ (3:Int) < (d.cons.length:Int):=by omega
   by_cases h0:0 < d.cons.length
   ·have e0:(0:Int) < (d.cons.length:Int):=by omega
    cases Ck D d.from_ <;> cases Ck D d.to <;> cases z1 <;> cases z2 <;> by_cases h1:d.from_=0 <;> by_cases h2:d.to=0 <;> simp[h1,h2,h3,e3,h0]
   ·have e0:¬ (0:Int) < (d.cons.length:Int):=by omega
    cases Ck D d.from_ <;> cases Ck D d.to <;> cases z1 <;> cases z2 <;> simp[h3,e3,h0]
  ·have e3:(3:Int) < (d.cons.length:Int):=by omega
   cases Ck D d.from_ <;> cases Ck D d.to <;> simp[h3,e3]
end RC



namespace RC
open Go
def Gr (ps ls:List Int) (i:Nat) (v:Int):Bool:=
 (decide (0≤v) && decide (v < (ps.length:Int))) && (!decide (ps[v.toNat]?=some 0) && !(decide (0 < i) && decide (v≤(ls[i - 1]?).getD 0)))
theorem Sy {ls:List Int} {i:Nat} (h0:0 < i) (hi:i < ls.length) :∃x,ls[i - 1]?=some x∧Sh.get ls (((i:Nat):Int) - 1)=some x:=by
 obtain⟨x,hx,_⟩:=Bl (l:=ls) (i:=i - 1) (by omega)
 exact⟨x,hx,by rw[show ((i:Int) - 1)=((i - 1:Nat):Int) by omega,A4 hx]⟩
theorem Oc {ps ls:List Int} (hp:ps.length≤1048576) (hl:ls.length≤1048576) {N:Nat} (hN:2000000≤N):Gh N ps ls=some (Dh (Gr ps ls) 0 ls):=by
 unfold Gh
 rw[CS (l:=ls) (DS ps ls) (Gr ps ls) (fun n=>by rw[DS,if_neg (by simp[AU])]) (fun n i v hv=>?_) (by omega),C1]
 ·cases Dh (Gr ps ls) 0 ls <;> rfl
 ·have hi:=(List.getElem?_eq_some_iff.1 hv).1
  rw[DS,if_pos (by simp[AU];omega),A4 hv]
  simp only[Option.bind_some]
  rw[CB,AU,BJ (n:=(ps.length:Int) - 1) (by omega) (by omega),BJ (n:=(i:Int) + 1) (by omega) (by omega),BJ (n:=(i:Int) - 1) (by omega) (by omega),show ((i:Int) + 1)=((i+1:Nat):Int) by omega]
  simp only[Option.bind_some]
  unfold Gr
  by_cases h0:0≤v
  ·by_cases h1:v < (ps.length:Int)
   ·have h1':v≤(ps.length:Int) - 1:=by omega
    obtain⟨c,e1,e2⟩:=Kz h0 h1
    rw[e1,e2]
    by_cases hi0:0 < i
    ·obtain⟨x,g1,g2⟩:=Sy hi0 hi
     rw[g1,g2]
     by_cases hc:c=0 <;> by_cases hx:v≤x <;> simp[h0,h1,h1',hc,hi0,hx]
    ·by_cases hc:c=0 <;> simp[h0,h1,h1',hc,hi0]
   ·have h1':¬ v≤(ps.length:Int) - 1:=by omega
    simp[h0,h1,h1']
  ·simp[h0]
theorem SZ {c:Ba} (hp:c.params.length≤1048576) (hl:c.At.length≤1048576) {N:Nat} (hN:2000000≤N):Cq c N 0=some (if Dh (Gr c.params c.At) 0 c.At=true then .inr () else .inl false):=by
 refine CS (l:=c.At) (Cq c) (Gr c.params c.At) (fun n=>by rw[Cq,if_neg (by simp[AU])]) (fun n i v hv=>?_) (by omega)
 have hi:=(List.getElem?_eq_some_iff.1 hv).1
 rw[Cq,if_pos (by simp[AU];omega),A4 hv]
 simp only[Option.bind_some]
 rw[AU,BJ (n:=(i:Int) + 1) (by omega) (by omega),BJ (n:=(i:Int) - 1) (by omega) (by omega),show ((i:Int) + 1)=((i+1:Nat):Int) by omega]
 unfold Gr
 by_cases h0:0≤v
 ·have h0':¬ v < 0:=by omega
  by_cases h1:v < (c.params.length:Int)
  ·have h1':¬ (c.params.length:Int)≤v:=by omega
   obtain⟨d,e1,e2⟩:=Kz h0 h1
   rw[e1,e2]
   by_cases hi0:0 < i
   ·obtain⟨x,g1,g2⟩:=Sy hi0 hi
    rw[g1,g2]
    by_cases hc:d=0 <;> by_cases hx:v≤x <;> simp[h0,h0',h1,h1',hc,hi0,hx]
   ·by_cases hc:d=0 <;> simp[h0,h0',h1,h1',hc,hi0]
  ·have h1':(c.params.length:Int)≤v:=by omega
   simp[h0,h0',h1,h1']
 ·have h0':v < 0:=by omega
  simp[h0,h0']
def Km (D:List Ag) (ps:List Int) (r:Int):Bool:=decide (ps.length≤3) && (ps.all (Ck D) && Ck D r)
theorem P1 {p:Co} (hf:p.funcs.length≤1048576) (hp :∀f∈p.funcs,f.params.length≤1048576) {N:Nat} (hN:2000000≤N):Cu N p N 0=some (if (p.funcs.all fun f=>Km p.decls f.params f.result)=true then .inr () else .inl false):=by
 rw[← DP _ 0]
 refine CS (l:=p.funcs) (Cu N p) (fun _ f=>Km p.decls f.params f.result) (fun n=>by rw[Cu,if_neg (by simp[AU])]) (fun n i f hi=>?_) (by omega)
 have hi':=(List.getElem?_eq_some_iff.1 hi).1
 have hpf:=hp f (List.mem_of_getElem? hi)
 rw[Cu,if_pos (by simp[AU];omega),A4 hi]
 simp only[Option.bind_some]
 rw[KT hpf (by omega),KM,BJ (by omega) (by omega),show ((i:Int) + 1)=((i+1:Nat):Int) by omega]
 unfold Km
 simp only[AU]
 by_cases h3:f.params.length≤3
 ·have e3:¬ (3:Int) < (f.params.length:Int):=by omega
  generalize f.params.all (Ck p.decls)=z
  cases z <;> cases Ck p.decls f.result <;> simp[h3,e3]
 ·have e3:(3:Int) < (f.params.length:Int):=by omega
  simp[h3,e3]
theorem PW {D:List Ag} {l:List Ba} (hf:l.length≤1048576) (hp :∀f∈l,f.params.length≤1048576∧f.At.length≤1048576) {N:Nat} (hN:2000000≤N):Cr N D l N 0=some (if (l.all fun f=>Km D f.params f.result && Dh (Gr f.params f.At) 0 f.At)=true then .inr () else .inl false):=by
 rw[← DP _ 0]
 refine CS (l:=l) (Cr N D l) (fun _ f=>Km D f.params f.result && Dh (Gr f.params f.At) 0 f.At) (fun n=>by rw[Cr,if_neg (by simp[AU])]) (fun n i f hi=>?_) (by omega)
 have hi':=(List.getElem?_eq_some_iff.1 hi).1
 have hpf:=hp f (List.mem_of_getElem? hi)
 rw[Cr,if_pos (by simp[AU];omega),A4 hi]
 simp only[Option.bind_some]
 rw[KN hpf.1 (by omega),Hy,SZ hpf.1 hpf.2 hN,C1,BJ (by omega) (by omega),show ((i:Int) + 1)=((i+1:Nat):Int) by omega]
 unfold Km
 simp only[AU]
 generalize Dh (Gr f.params f.At) 0 f.At=y
 by_cases h3:f.params.length≤3
 ·have e3:¬ (3:Int) < (f.params.length:Int):=by omega
  generalize f.params.all (Ck D)=z
  cases z <;> cases Ck D f.result <;> cases y <;> simp[h3,e3]
 ·have e3:(3:Int) < (f.params.length:Int):=by omega
  simp[h3,e3]
end RC
namespace RC
open Go
def T0 (D:List (List Int×Int)):Bool:=match D with | []=>false | (ps,r) :: _=>decide (ps.length=0) && decide (r=0)
def Mo (D:List Ag) (l:List (List Int×Int)):Bool:=KX D && ((decide (1≤l.length) && decide (l.length≤4)) && (l.all (fun s=>Km D s.1 s.2) && T0 l))
theorem OQ {p:Co} (hD:NN p.decls) (hf:p.funcs.length≤1048576) (hp :∀f∈p.funcs,f.params.length≤1048576) {N:Nat} (hN:2000000≤N):Gk N p=some (Mo p.decls (p.funcs.map fun f=>(f.params,f.result))):=by
 unfold Gk Mo
 rw[Nd hD hN,P1 hf hp hN,C1,CB]
 simp only[Option.bind_some,List.length_map,List.all_map,Function.comp_def]
 cases KX p.decls with
 | false=>simp
 | true=>
  cases hl:p.funcs with
  | nil=>simp[AU]
  | cons f r=>
   have e0:Sh.get (f :: r) 0=some f:=rfl
   rw[e0]
   generalize (f :: r).all (fun f=>Km p.decls f.params f.result)=z
   simp only[List.map_cons,T0]
   have q1:decide ((1:Int)≤Sh.len (f :: r))=true:=decide_eq_true (by rw[AU,List.length_cons];omega)
   have q2:decide (1≤(f :: r).length)=true:=by simp
   have q3:decide (Sh.len (f :: r)≤4)=decide ((f :: r).length≤4):=decide_eq_decide.2 (by rw[AU];omega)
   have q4:decide (Sh.len f.params=0)=decide (f.params.length=0):=decide_eq_decide.2 (by rw[AU];omega)
   simp only[q1,q2,q3,q4,Option.bind_some]
   cases decide ((f :: r).length≤4) <;> cases z <;> by_cases a1:f.params.length=0 <;> by_cases a2:f.result=0 <;> simp[a1,a2]
theorem Oa {D:List Ag} {l:List Ba} (hD:NN D) (hf:l.length≤1048576) (hp :∀f∈l,f.params.length≤1048576∧f.At.length≤1048576) {N:Nat} (hN:2000000≤N) :
  Gi N D l=some (Mo D (l.map fun f=>(f.params,f.result)) && l.all (fun f=>Dh (Gr f.params f.At) 0 f.At)):=by
 unfold Gi Mo
 rw[Nb hD hN,PW hf hp hN,C1]
 have hsplit:(l.all fun f=>Km D f.params f.result && Dh (Gr f.params f.At) 0 f.At)=((l.all fun f=>Km D f.params f.result) && (l.all fun f=>Dh (Gr f.params f.At) 0 f.At)):=by
  clear hf hp
  induction l with
  | nil=>rfl
  | cons f r ih=>
   simp only[List.all_cons,ih]
   cases Km D f.params f.result <;> cases Dh (Gr f.params f.At) 0 f.At <;> simp
 rw[hsplit]
 simp only[Option.bind_some,List.length_map,List.all_map,Function.comp_def]
 cases KX D with
 | false=>simp
 | true=>
  cases hl:l with
  | nil=>simp[AU]
  | cons f r=>
   have e0:Sh.get (f :: r) 0=some f:=rfl
   rw[e0]
   generalize (f :: r).all (fun f=>Km D f.params f.result)=z
   generalize (f :: r).all (fun f=>Dh (Gr f.params f.At) 0 f.At)=y
   simp only[List.map_cons,T0]
   have q1:decide (Sh.len (f :: r) < 1)=false:=decide_eq_false (by rw[AU,List.length_cons];omega)
   have q2:decide (1≤(f :: r).length)=true:=by simp
   have q3:decide ((4:Int) < Sh.len (f :: r))=!decide ((f :: r).length≤4):=by rw[← decide_not];exact decide_eq_decide.2 (by rw[AU];omega)
   have q4:decide ((0:Int) < Sh.len f.params)=!decide (f.params.length=0):=by rw[← decide_not];exact decide_eq_decide.2 (by rw[AU];omega)
   simp only[q1,q2,q3,q4,Option.bind_some]
   cases decide ((f :: r).length≤4) <;> cases z <;> cases y <;> by_cases a1:f.params.length=0 <;> by_cases a2:f.result=0 <;> simp[a1,a2]
end RC



namespace RC
open Go
def nc (D:List Ag):Nat:=(D.map (·.cons.length)).sum
theorem KB {D:List Ag} {i:Nat} {d:Ag} (h:D[i]?=some d):nc (D.take (i+1))=nc (D.take i) + d.cons.length:=by
 rw[Ee h];simp[nc]
theorem PM {D:List Ag} {i:Nat} {d:Ag} (h:D[i]?=some d):nc (D.drop i)=d.cons.length+nc (D.drop (i+1)):=by
 rw[drop_cons h];simp[nc]
theorem GB (D:List Ag) (i:Nat):nc D=nc (D.take i) + nc (D.drop i):=by
 unfold nc
 rw[← List.sum_append_nat,← List.map_append,List.take_append_drop]
theorem G1 {D:List Ag} (hD:D.length≤1048576) (hn:nc D≤1048576) {i:Nat} (hi:i≤D.length) {N:Nat} (hN:2000000≤N):FQ N D i=some (nc (D.take i):Int):=by
 unfold FQ
 have key :∀{N j:Nat},j≤i→i - j < N→DH D i N (nc (D.take j)) j=some (nc (D.take i):Int):=by
  intro N j hj hN
  refine Bn i (fun N j=>DH D i N (nc (D.take j)) j=some (nc (D.take i):Int)) ?_ ?_ hj hN
  ·intro n;rw[DH,if_neg (by simp)]
  ·intro n j hj ih
   obtain⟨d,hd,_⟩:=Bl (l:=D) (i:=j) (by omega)
   have hs:=GB D (j+1)
   have ht:=KB hd
   rw[DH,if_pos (by simp;omega),A4 hd]
   simp only[Option.bind_some]
   rw[AU,BJ (n:=(j:Int) + 1) (by omega) (by omega),BJ (by omega) (by omega),show ((nc (D.take j):Int) + (d.cons.length:Int))=((nc (D.take (j+1)):Nat):Int) by omega,show ((j:Int) + 1)=((j+1:Nat):Int) by omega]
   exact ih
 have:=key (Nat.zero_le _) (by omega:i - 0 < N)
 rw[show (((nc (D.take 0):Nat):Int))=0 from rfl,show (((0:Nat):Int))=0 from rfl] at this
 rw[this];rfl
theorem O0 {D:List Ag} (hD:D.length≤1048576) (hn:nc D≤1048576) {N:Nat} (hN:2000000≤N):G4 N D=some (nc D:Int):=by
 unfold G4
 have key :∀{N j:Nat},j≤D.length→D.length - j < N→DF D N (nc (D.take j)) j=some (nc D:Int):=by
  intro N j hj hN
  refine Bn D.length (fun N j=>DF D N (nc (D.take j)) j=some (nc D:Int)) ?_ ?_ hj hN
  ·intro n;rw[DF,if_neg (by simp[AU]),List.take_length]
  ·intro n j hj ih
   obtain⟨d,hd,_⟩:=Bl hj
   have hs:=GB D (j+1)
   have ht:=KB hd
   rw[DF,if_pos (by simp[AU];omega),A4 hd]
   simp only[Option.bind_some]
   rw[AU,BJ (n:=(j:Int) + 1) (by omega) (by omega),BJ (by omega) (by omega),show ((nc (D.take j):Int) + (d.cons.length:Int))=((nc (D.take (j+1)):Nat):Int) by omega,show ((j:Int) + 1)=((j+1:Nat):Int) by omega]
   exact ih
 have:=key (Nat.zero_le _) (by omega:D.length - 0 < N)
 rw[show (((nc (D.take 0):Nat):Int))=0 from rfl,show (((0:Nat):Int))=0 from rfl] at this
 rw[this];rfl
def Jg:List Ag→Nat→Nat→Option (Nat×BO)
 | [],_,_=>none
 | d :: r,k,c=>match d.cons[c]? with
  | some x=>some (k+1,x)
  | none=>Jg r (k+1) (c - d.cons.length)
theorem Mq {D:List Ag} (hD:D.length≤1048576) (hn:nc D≤1048576) {c:Nat} (hc:c < nc D) {N:Nat} (hN:2000000≤N) :∃t x,Jg D 0 c=some (t,x)∧GN N D c=some ((t:Int),x):=by
 have key :∀(m j N c:Nat),D.length - j=m→j≤D.length→m < N→c < nc (D.drop j)→∃t x,Jg (D.drop j) j c=some (t,x)∧D0 D N c j=some (.inl ((t:Int),x)):=by
  intro m
  induction m with
  | zero=>
   intro j N c h1 h2 _ h3
   rw[List.drop_eq_nil_of_le (by omega)] at h3;simp[nc] at h3
  | succ m ih=>
   intro j N c h1 h2 h3 h4
   obtain⟨N,rfl⟩ :∃n,N=n+1:=⟨N - 1,by omega⟩
   obtain⟨d,hd,_⟩:=Bl (l:=D) (i:=j) (by omega)
   have hs:=GB D j
   rw[PM hd] at h4 hs
   rw[drop_cons hd]
   unfold Jg
   rw[D0,if_pos (by simp[AU];omega),A4 hd]
   simp only[Option.bind_some]
   rw[if_pos (by simp),AU,BJ (n:=(j:Int) + 1) (by omega) (by omega),BJ (by omega) (by omega)]
   cases hx:d.cons[c]? with
   | some x=>
    have hlt:=(List.getElem?_eq_some_iff.1 hx).1
    refine⟨j+1,x,rfl,?_⟩
    have e:((c:Int) < (d.cons.length:Int)):=by omega
    simp[e,A4 hx]
   | none=>
    have hle:d.cons.length≤c:=by simpa using hx
    obtain⟨t,x,g1,g2⟩:=ih (j+1) N (c - d.cons.length) (by omega) (by omega) (by omega) (by omega)
    refine⟨t,x,g1,?_⟩
    have e:¬ ((c:Int) < (d.cons.length:Int)):=by omega
    rw[← g2,show ((c:Int) - (d.cons.length:Int))=((c - d.cons.length:Nat):Int) by omega,show ((j:Int) + 1)=((j+1:Nat):Int) by omega]
    simp[e]
 obtain⟨t,x,g1,g2⟩:=key D.length 0 N c (by omega) (by omega) (by omega) (by simpa using hc)
 refine⟨t,x,by simpa using g1,?_⟩
 unfold GN
 rw[show (((0:Nat):Int))=0 from rfl] at g2
 rw[g2];rfl
end RC
namespace RC
open Go
theorem Kt {D:List Ag} (hD:D.length≤1048576) (hn:nc D≤1048576) {c:Nat} (hc:c < nc D) {N:Nat} (hN:2000000≤N) :∃t x,Jg D 0 c=some (t,x)∧CO N D c=some (t:Int):=by
 have key :∀(m j M c:Nat),D.length - j=m→j≤D.length→m < M→c < nc (D.drop j)→∃t x,Jg (D.drop j) j c=some (t,x)∧Cd N D ((nc (D.take j) + c:Nat):Int) M j=some (.inl (t:Int)):=by
  intro m
  induction m with
  | zero=>
   intro j M c h1 h2 _ h3
   rw[List.drop_eq_nil_of_le (by omega)] at h3;simp[nc] at h3
  | succ m ih=>
   intro j M c h1 h2 h3 h4
   obtain⟨M,rfl⟩ :∃n,M=n+1:=⟨M - 1,by omega⟩
   obtain⟨d,hd,_⟩:=Bl (l:=D) (i:=j) (by omega)
   have hs:=GB D j
   rw[PM hd] at h4 hs
   have ht:=KB hd
   rw[drop_cons hd]
   unfold Jg
   rw[Cd,if_pos (by simp[AU];omega),G1 hD hn (by omega) hN,A4 hd]
   simp only[Option.bind_some]
   rw[AU,BJ (n:=(j:Int) + 1) (by omega) (by omega),BJ (n:=(nc (D.take j):Int) + (d.cons.length:Int)) (by omega) (by omega),BJ (by omega) (by omega),CB]
   simp only[Option.bind_some]
   cases hx:d.cons[c]? with
   | some x=>
    have hlt:=(List.getElem?_eq_some_iff.1 hx).1
    refine⟨j+1,x,rfl,?_⟩
    rw[if_pos (by simp;omega)]
    rfl
   | none=>
    have hle:d.cons.length≤c:=by simpa using hx
    obtain⟨t,x,g1,g2⟩:=ih (j+1) M (c - d.cons.length) (by omega) (by omega) (by omega) (by omega)
    refine⟨t,x,g1,?_⟩
    rw[if_neg (by simp;omega),← g2,show nc (D.take j) + c=nc (D.take (j+1)) + (c - d.cons.length) by omega]
    rfl
 obtain⟨t,x,g1,g2⟩:=key D.length 0 N c (by omega) (by omega) (by omega) (by simpa using hc)
 refine⟨t,x,by simpa using g1,?_⟩
 unfold CO
 rw[show nc (D.take 0) + c=c by simp[nc],show (((0:Nat):Int))=0 from rfl] at g2
 rw[g2];rfl
theorem PH {D:List Ag} (hD:D.length≤1048576) (hn:nc D≤1048576) {c:Int} (hc:c < 0∨(nc D:Int)≤c) {N:Nat} (hN:2000000≤N):CO N D c=some (-1):=by
 unfold CO
 have key :∀{M j:Nat},j≤D.length→D.length - j < M→Cd N D c M j=some (.inr ()):=by
  intro M j hj hM
  refine Bn D.length (fun M j=>Cd N D c M j=some (.inr ())) ?_ ?_ hj hM
  ·intro n;rw[Cd,if_neg (by simp[AU])]
  ·intro n j hj ih
   obtain⟨d,hd,_⟩:=Bl hj
   have hs:=GB D (j+1)
   have ht:=KB hd
   rw[Cd,if_pos (by simp[AU];omega),G1 hD hn (by omega) hN,A4 hd]
   simp only[Option.bind_some]
   rw[AU,BJ (n:=(j:Int) + 1) (by omega) (by omega),BJ (n:=(nc (D.take j):Int) + (d.cons.length:Int)) (by omega) (by omega),BJ (by omega) (by omega),CB]
   simp only[Option.bind_some]
   rw[if_neg (by simp;omega)]
   exact ih
 have:=key (Nat.zero_le _) (by omega:D.length - 0 < N)
 rw[show (((0:Nat):Int))=0 from rfl] at this
 rw[this];rfl
end RC
namespace RC
open Go
theorem WK {D:List Ag} :∀(m j c t:Nat) (x:BO),D.length - j=m→j≤D.length→Jg (D.drop j) j c=some (t,x)→∃d,1≤t∧D[t - 1]?=some d∧nc (D.take (t - 1))≤nc (D.take j) + c∧d.cons[nc (D.take j) + c - nc (D.take (t - 1))]?=some x:=by
 intro m
 induction m with
 | zero=>
  intro j c t x h1 h2 h
  rw[List.drop_eq_nil_of_le (by omega)] at h;simp[Jg] at h
 | succ m ih=>
  intro j c t x h1 h2 h
  obtain⟨d,hd,_⟩:=Bl (l:=D) (i:=j) (by omega)
  have ht:=KB hd
  rw[drop_cons hd] at h
  unfold Jg at h
  cases hx:d.cons[c]? with
  | some y=>
   rw[hx] at h
   simp only[Option.some.injEq,Prod.mk.injEq] at h
   obtain⟨rfl,rfl⟩:=h
   exact⟨d,by omega,by simpa using hd,by simp,by simpa using hx⟩
  | none=>
   rw[hx] at h
   have hle:d.cons.length≤c:=by simpa using hx
   obtain⟨e,g1,g2,g3,g4⟩:=ih (j+1) (c - d.cons.length) t x (by omega) (by omega) h
   rw[show nc (D.take (j+1)) + (c - d.cons.length)=nc (D.take j) + c by omega] at g3 g4
   exact⟨e,g1,g2,g3,g4⟩
theorem J5 {D:List Ag} (hD:D.length≤1048576) (hn:nc D≤1048576) {c:Nat} (hc:c < nc D) {N:Nat} (hN:2000000≤N) :∃t x,Jg D 0 c=some (t,x)∧C0 N D c=some x.fields:=by
 obtain⟨t,x,e1,e2⟩:=Kt hD hn hc hN
 obtain⟨d,g1,g2,g3,g4⟩:=WK (D:=D) D.length 0 c t x (by omega) (by omega) (by simpa using e1)
 have hlt:=(List.getElem?_eq_some_iff.1 g2).1
 have hs:=GB D (t - 1)
 rw[show nc (D.take 0) + c=c by simp[nc]] at g3 g4
 refine⟨t,x,e1,?_⟩
 unfold C0
 rw[e2]
 simp only[Option.bind_some]
 rw[if_neg (by simp;omega),BJ (n:=(t:Int) - 1) (by omega) (by omega),show ((t:Int) - 1)=((t - 1:Nat):Int) by omega,A4 g2,G1 hD hn (by omega) hN]
 simp only[Option.bind_some]
 rw[BJ (by omega) (by omega),show ((c:Int) - (nc (D.take (t - 1)):Int))=((c - nc (D.take (t - 1)):Nat):Int) by omega,A4 g4]
 rfl
theorem O7 {D:List Ag} (hD:D.length≤1048576) (hn:nc D≤1048576) {c:Nat} (hc:c < nc D) {N:Nat} (hN:2000000≤N) :∃t x,Jg D 0 c=some (t,x)∧FL N D c=some x.fields:=by
 obtain⟨t,x,e1,e2⟩:=Mq hD hn hc hN
 exact⟨t,x,e1,by unfold FL;rw[e2];rfl⟩
end RC
namespace RC
open Go
def GS (D:List Ag) (t:Int):List Int:=
 if 1≤t∧t≤(D.length:Int) then (List.range ((D[(t - 1).toNat]?).elim 0 (·.cons.length))).map fun (i:Nat)=>(nc (D.take (t - 1).toNat):Int) + (i:Int) else []
theorem QN {f:Nat→Int} {i:Nat}:(List.range (i+1)).map f=(List.range i).map f ++ [f i]:=by rw[List.range_succ,List.map_append];rfl
theorem Ql {D:List Ag} (hD:D.length≤1048576) (hn:nc D≤1048576) {t:Int} {N:Nat} (hN:2000000≤N):Ig N D t=some (GS D t):=by
 unfold Ig GS
 rw[CB,AU]
 simp only[Option.bind_some]
 by_cases h:1≤t∧t≤(D.length:Int)
 ·obtain⟨a,ha⟩ :∃a:Nat,t=(a:Int) + 1:=⟨(t - 1).toNat,by omega⟩
  subst ha
  obtain⟨d,hd,_⟩:=Bl (l:=D) (i:=a) (by omega)
  have hs:=GB D (a+1)
  have ht:=KB hd
  rw[if_neg (by simp;omega),if_pos h,show (((a:Int) + 1) - 1).toNat=a by omega,hd]
  simp only[Option.elim_some]
  have key :∀{M i:Nat},i≤d.cons.length→d.cons.length - i < M→D4 N D ((a:Int) + 1) M i ((List.range i).map fun (i:Nat)=>(nc (D.take a):Int) + (i:Int))=some ((List.range d.cons.length).map fun (i:Nat)=>(nc (D.take a):Int) + (i:Int)):=by
   intro M i hi hM
   refine Bn d.cons.length (fun M i=>D4 N D ((a:Int) + 1) M i ((List.range i).map fun (i:Nat)=>(nc (D.take a):Int) + (i:Int))=some ((List.range d.cons.length).map fun (i:Nat)=>(nc (D.take a):Int) + (i:Int))) ?_ ?_ hi hM
   ·intro n
    rw[D4,BJ (by omega) (by omega),show ((a:Int) + 1 - 1)=((a:Nat):Int) by omega,A4 hd]
    simp only[Option.bind_some]
    rw[if_neg (by simp[AU])]
   ·intro n i hi ih
    rw[D4,BJ (n:=(a:Int) + 1 - 1) (by omega) (by omega),show ((a:Int) + 1 - 1)=((a:Nat):Int) by omega,A4 hd]
    simp only[Option.bind_some]
    rw[if_pos (by simp[AU];omega),G1 hD hn (by omega) hN]
    simp only[Option.bind_some]
    rw[Dp _ _ _ (by simp;omega) (by simp;omega),BJ (n:=(i:Int) + 1) (by omega) (by omega),BJ (by omega) (by omega),show ((i:Int) + 1)=((i+1:Nat):Int) by omega]
    simp only[Option.bind_some]
    rw[← ih,QN]
  have:=key (Nat.zero_le _) (by omega:d.cons.length - 0 < N)
  rw[show (((0:Nat):Int))=0 from rfl,List.range_zero,List.map_nil] at this
  rw[this];rfl
 ·rw[if_pos (by simp;omega),if_neg h]
theorem Qr {D:List Ag} (hD:D.length≤1048576) (hn:nc D≤1048576) {t:Int} {N:Nat} (hN:2000000≤N):IQ N D t=some (GS D t):=by
 unfold IQ GS
 rw[AU]
 by_cases h:1≤t∧t≤(D.length:Int)
 ·obtain⟨a,ha⟩ :∃a:Nat,t=(a:Int) + 1:=⟨(t - 1).toNat,by omega⟩
  subst ha
  obtain⟨d,hd,_⟩:=Bl (l:=D) (i:=a) (by omega)
  have hs:=GB D (a+1)
  have hs0:=GB D a
  have ht:=KB hd
  have e1:¬ ((a:Int) + 1 < 1):=by omega
  have e2:¬ ((D.length:Int) < (a:Int) + 1):=by omega
  rw[if_pos h,show (((a:Int) + 1) - 1).toNat=a by omega,hd,BJ (by omega) (by omega),show ((a:Int) + 1 - 1)=((a:Nat):Int) by omega,Ut (by omega) (by omega),A4 hd]
  simp only[Option.elim_some,e1,e2,decide_false,Bool.false_eq_true,if_false,Option.bind_some]
  rw[O0 (by simp;omega) (by omega) hN]
  simp only[Option.bind_some]
  have key :∀{M i:Nat},i≤d.cons.length→d.cons.length - i < M→D3 d (nc (D.take a):Int) M i ((List.range i).map fun (i:Nat)=>(nc (D.take a):Int) + (i:Int))=some ((List.range d.cons.length).map fun (i:Nat)=>(nc (D.take a):Int) + (i:Int)):=by
   intro M i hi hM
   refine Bn d.cons.length (fun M i=>D3 d (nc (D.take a):Int) M i ((List.range i).map fun (i:Nat)=>(nc (D.take a):Int) + (i:Int))=some ((List.range d.cons.length).map fun (i:Nat)=>(nc (D.take a):Int) + (i:Int))) ?_ ?_ hi hM
   ·intro n;rw[D3,if_neg (by simp[AU])]
   ·intro n i hi ih
    rw[D3,if_pos (by simp[AU];omega)]
    rw[Dp _ _ _ (by simp;omega) (by simp;omega),BJ (n:=(i:Int) + 1) (by omega) (by omega),BJ (by omega) (by omega),show ((i:Int) + 1)=((i+1:Nat):Int) by omega]
    simp only[Option.bind_some]
    rw[← ih,QN]
  have:=key (Nat.zero_le _) (by omega:d.cons.length - 0 < N)
  rw[show (((0:Nat):Int))=0 from rfl,List.range_zero,List.map_nil] at this
  rw[this];rfl
 ·rw[if_neg h]
  by_cases e1:t < 1
  ·simp[e1]
  ·have e2:(D.length:Int) < t:=by omega
   simp[e1,e2]
end RC



namespace RC
open Go
theorem SB {α:Type} {l:List α} (f:α→Nat) (L:Nat→Int→Int→Option (Int ⊕ Int)) (h0 :∀n left,L (n+1) left (l.length:Int)=some (.inr left))
  (hs :∀n (i:Nat) x left,l[i]?=some x→0≤left→left≤1048576→L (n+1) left (i:Int)=if left - (f x:Int) < 0 then some (.inl (-1)) else L n (left - (f x:Int)) ((i+1:Nat):Int))
  {N:Nat} (hN:l.length < N) {left:Int} (hl0:0≤left) (hl1:left≤1048576):L N left 0=some (if left - ((l.map f).sum:Nat) < 0 then .inl (-1) else .inr (left - ((l.map f).sum:Nat))):=by
 have key :∀{N i:Nat},i≤l.length→l.length - i < N→∀left:Int,0≤left→left≤1048576→L N left (i:Int)=some (if left - (((l.drop i).map f).sum:Nat) < 0 then .inl (-1) else .inr (left - (((l.drop i).map f).sum:Nat))):=by
  intro N i hi hN
  refine Bn l.length (fun N i=>∀left:Int,0≤left→left≤1048576→L N left (i:Int)=some (if left - (((l.drop i).map f).sum:Nat) < 0 then .inl (-1) else .inr (left - (((l.drop i).map f).sum:Nat)))) ?_ ?_ hi hN
  ·intro n left a b
   rw[h0,List.drop_length]
   simp
   omega
  ·intro n i hi ih left a b
   obtain⟨x,hx,_⟩:=Bl hi
   rw[hs n i x left hx a b,drop_cons hx,List.map_cons,List.sum_cons]
   by_cases h:left - (f x:Int) < 0
   ·rw[if_pos h,if_pos (by omega)]
   ·rw[if_neg h,ih (left - (f x:Int)) (by omega) (by omega)]
    rw[show left - ((f x+(List.map f (l.drop (i+1))).sum:Nat):Int)=left - (f x:Int) - ((List.map f (l.drop (i+1))).sum:Nat) by omega]
 have:=key (Nat.zero_le _) (by omega:l.length - 0 < N) left hl0 hl1
 simpa using this
theorem R3 {α:Type} {l:List α} (L:Nat→Int→List α→Option (List α)) (h0 :∀n m,L (n+1) (l.length:Int) m=some m)
  (hs :∀n (i:Nat) x m,l[i]?=some x→m.length=l.length→L (n+1) (i:Int) m=L n ((i+1:Nat):Int) (m.set i x)) {N:Nat} (hN:l.length < N) {m:List α} (hm:m.length=l.length):L N 0 m=some l:=by
 have key :∀{N i:Nat},i≤l.length→l.length - i < N→∀m:List α,m.length=l.length→m.take i=l.take i→L N (i:Int) m=some l:=by
  intro N i hi hN
  refine Bn l.length (fun N i=>∀m:List α,m.length=l.length→m.take i=l.take i→L N (i:Int) m=some l) ?_ ?_ hi hN
  ·intro n m a b
   rw[h0]
   rw[List.take_length,← a,List.take_length] at b
   rw[b]
  ·intro n i hi ih m a b
   obtain⟨x,hx,_⟩:=Bl hi
   rw[hs n i x m hx a]
   refine ih (m.set i x) (by simp[a]) ?_
   have hi':(m.set i x)[i]?=some x:=by rw[List.getElem?_set_self (by omega)]
   rw[Ee hi',Ee hx,← b,List.take_set_of_le (Nat.le_refl _)]
 exact key (Nat.zero_le _) (by omega:l.length - 0 < N) m hm rfl
end RC



namespace RC
open Go
def Ru (left:Int) (s:Nat):Int:=if left - s < 0 then -1 else left - s
theorem EC {left:Int} {s:Nat} (h:left - s < 0):Ru left s=-1:=if_pos h
theorem Fj {left:Int} {s:Nat} (h:¬ left - s < 0):Ru left s=left - s:=if_neg h
def cz (c:BO):Nat:=c.fields.length
def dz (d:Ag):Nat:=d.cons.length+(d.cons.map cz).sum
theorem XL {c:BO} (hc:Ou c) {left:Int} (h0:0≤left) (h1:left≤1048576):JL c left=some (Ru left (cz c)):=by
 unfold JL
 rw[Lc h0 h1 hc.fields.2]
 unfold Ru cz
 by_cases h:left - (c.fields.length:Int) < 0
 ·rw[if_pos h];rfl
 ·rw[if_neg h];simp[h]
theorem Vt {l:List BO} (hl:D1 Ou l) {left:Int} (h0:0≤left) (h1:left≤1048576) {N:Nat} (hN:2000000≤N):IS N l left=some (Ru left (l.length+(l.map cz).sum)):=by
 unfold IS
 have hlen:=hl.2
 rw[AU,BJ (by omega) (by omega)]
 by_cases h:left - (l.length:Int) < 0
 ·rw[if_pos (by simpa using h),EC (by omega)]
 ·rw[if_neg (by simpa using h),SB (l:=l) cz (EU l) (fun n left=>by rw[EU,if_neg (by simp[AU])]) (fun n i x left hx a b=>?_) (by omega) (by omega) (by omega)]
  ·by_cases g:left - (l.length:Int) - ((l.map cz).sum:Nat) < 0
   ·rw[if_pos g,EC (by omega)];rfl
   ·rw[if_neg g,Fj (by omega)]
    show some _=some _
    congr 1;omega
  ·have hi:=(List.getElem?_eq_some_iff.1 hx).1
   rw[EU,if_pos (by simp[AU];omega),A4 hx]
   simp only[Option.bind_some]
   rw[XL (hl.1 x (List.mem_of_getElem? hx)) a b,BJ (by omega) (by omega),show ((i:Int) + 1)=((i+1:Nat):Int) by omega]
   simp only[Option.bind_some]
   by_cases g:left - (cz x:Int) < 0
   ·rw[if_pos g,EC g];rfl
   ·rw[if_neg g,Fj g,if_neg (by simpa using g)]
end RC
namespace RC
open Go
theorem Vi {d:Ag} (hd:Mc d) {left:Int} (h0:0≤left) (h1:left≤1048576) {N:Nat} (hN:2000000≤N):IY N d left=some (Ru left (dz d)):=by
 unfold IY
 rw[Vt hd.cons h0 h1 hN]
 simp only[Option.bind_some]
 by_cases a:left - ((d.cons.length+(d.cons.map cz).sum:Nat):Int) < 0
 ·rw[EC a,EC (by unfold dz;omega)];rfl
 ·rw[Fj a,if_neg (by simpa using a),Fj (by unfold dz;omega)];rfl
theorem VM {l:List Ag} (hl:D1 Mc l) {left:Int} (h0:0≤left) (h1:left≤1048576) {N:Nat} (hN:2000000≤N):He N l left=some (Ru left (l.length+(l.map dz).sum)):=by
 unfold He
 have hlen:=hl.2
 rw[AU,BJ (by omega) (by omega)]
 by_cases h:left - (l.length:Int) < 0
 ·rw[if_pos (by simpa using h),EC (by omega)]
 ·rw[if_neg (by simpa using h),SB (l:=l) dz (ED N l) (fun n left=>by rw[ED,if_neg (by simp[AU])]) (fun n i x left hx a b=>?_) (by omega) (by omega) (by omega)]
  ·by_cases g:left - (l.length:Int) - ((l.map dz).sum:Nat) < 0
   ·rw[if_pos g,EC (by omega)];rfl
   ·rw[if_neg g,Fj (by omega)]
    show some _=some _
    congr 1;omega
  ·have hi:=(List.getElem?_eq_some_iff.1 hx).1
   rw[ED,if_pos (by simp[AU];omega),A4 hx]
   simp only[Option.bind_some]
   rw[Vi (hl.1 x (List.mem_of_getElem? hx)) a b hN,BJ (by omega) (by omega),show ((i:Int) + 1)=((i+1:Nat):Int) by omega]
   simp only[Option.bind_some]
   by_cases g:left - (dz x:Int) < 0
   ·rw[if_pos g,EC g];rfl
   ·rw[if_neg g,Fj g,if_neg (by simpa using g)]
end RC



namespace RC
open Go
end RC


namespace RC
open Go
end RC



namespace RC
open Go
section
variable {im : Zr} {p : Yy} {at_ : Nat} {i : Wl} {N : Nat}
end
end RC



namespace RC
open Go
theorem E9 {α:Type} (f:α→Nat) {l:List α} {x:α} (h:x∈l):f x≤(l.map f).sum:=by
 induction l with
 | nil=>cases h
 | cons y r ih=>
  rw[List.map_cons,List.sum_cons]
  rcases List.mem_cons.1 h with rfl | h
  ·omega
  ·have:=ih h;omega
theorem Xt {c:BO} (h:cz c≤1048576) {N:Nat} (hN:2000000≤N):JP N c=some c:=by
 unfold cz at h
 unfold JP;rw[Lq h hN];rfl
theorem Vj {l:List BO} (hl:l.length+(l.map cz).sum≤1048576) {N:Nat} (hN:2000000≤N):IT N l=some l:=by
 unfold IT
 rw[AU,LZ _ _ _ (by omega) (by omega)]
 simp only[Option.bind_some]
 rw[R3 (l:=l) (EV N l) (fun n m=>by rw[EV,if_neg (by simp[AU])]) (fun n i x m hx hm=>?_) (by omega) (by simp)]
 ·rfl
 ·have hi:=(List.getElem?_eq_some_iff.1 hx).1
  have hz:=E9 cz (List.mem_of_getElem? hx)
  obtain⟨y,hy,_⟩:=Bl (l:=m) (i:=i) (by omega)
  rw[EV,if_pos (by simp[AU];omega),A4 hx]
  simp only[Option.bind_some]
  rw[Xt (by omega) hN,A4 hy]
  simp only[Option.bind_some]
  rw[J2,BJ (by omega) (by omega),show ((i:Int) + 1)=((i+1:Nat):Int) by omega]
theorem V4 {d:Ag} (h:dz d≤1048576) {N:Nat} (hN:2000000≤N):IV N d=some d:=by
 unfold dz at h
 unfold IV;rw[Vj h hN];rfl
theorem VG {l:List Ag} (hl:l.length+(l.map dz).sum≤1048576) {N:Nat} (hN:2000000≤N):Hh N l=some l:=by
 unfold Hh
 rw[AU,LZ _ _ _ (by omega) (by omega)]
 simp only[Option.bind_some]
 rw[R3 (l:=l) (EA N l) (fun n m=>by rw[EA,if_neg (by simp[AU])]) (fun n i x m hx hm=>?_) (by omega) (by simp)]
 ·rfl
 ·have hi:=(List.getElem?_eq_some_iff.1 hx).1
  have hz:=E9 dz (List.mem_of_getElem? hx)
  obtain⟨y,hy,_⟩:=Bl (l:=m) (i:=i) (by omega)
  rw[EA,if_pos (by simp[AU];omega),A4 hx]
  simp only[Option.bind_some]
  rw[V4 (by omega) hN,A4 hy]
  simp only[Option.bind_some]
  rw[J2,BJ (by omega) (by omega),show ((i:Int) + 1)=((i+1:Nat):Int) by omega]
end RC



namespace RC
open Go
theorem XD {c:BO} (h:cz c≤1048576) {N:Nat} (hN:2000000≤N):JU N c c=some true:=by
 unfold cz at h
 unfold JU;rw[La h hN];rfl
theorem Vo {l:List BO} (hl:l.length+(l.map cz).sum≤1048576) {N:Nat} (hN:2000000≤N):IN N l l=some true:=by
 unfold IN
 have L:=CS (l:=l) (EW N l l) (fun _ _=>true) (fun n=>by rw[EW,if_neg (by simp[AU])]) (fun n i x hx=>?_) (by omega:l.length < N)
 ·rw[DP (p:=fun _=>true)] at L
  simp[L,Sh.cont]
 ·have hi:=(List.getElem?_eq_some_iff.1 hx).1
  have hz:=E9 cz (List.mem_of_getElem? hx)
  rw[EW,if_pos (by simp[AU];omega),A4 hx]
  simp only[Option.bind_some]
  rw[XD (by omega) hN,BJ (by omega) (by omega),show ((i:Int) + 1)=((i+1:Nat):Int) by omega]
  rfl
theorem V0 {d:Ag} (h:dz d≤1048576) {N:Nat} (hN:2000000≤N):IU N d d=some true:=by
 unfold dz at h
 unfold IU;rw[Vo h hN];simp
theorem VN {l:List Ag} (hl:l.length+(l.map dz).sum≤1048576) {N:Nat} (hN:2000000≤N):HY N l l=some true:=by
 unfold HY
 have L:=CS (l:=l) (EG N l l) (fun _ _=>true) (fun n=>by rw[EG,if_neg (by simp[AU])]) (fun n i x hx=>?_) (by omega:l.length < N)
 ·rw[DP (p:=fun _=>true)] at L
  simp[L,Sh.cont]
 ·have hi:=(List.getElem?_eq_some_iff.1 hx).1
  have hz:=E9 dz (List.mem_of_getElem? hx)
  rw[EG,if_pos (by simp[AU];omega),A4 hx]
  simp only[Option.bind_some]
  rw[V0 (by omega) hN,BJ (by omega) (by omega),show ((i:Int) + 1)=((i+1:Nat):Int) by omega]
  rfl
end RC



namespace RC
open Go
end RC



namespace RC
open Go
end RC



namespace RC
open Go
theorem KQ {α:Type} {g:Nat→α→Bool} :∀(l:List α) (k:Nat),Dh g k l=true↔∀(i:Nat) x,l[i]?=some x→g (k+i) x=true
 | [],_=>by simp[Dh]
 | x :: r,k=>by
  rw[Dh,Bool.and_eq_true,KQ r (k+1)]
  constructor
  ·rintro⟨h1,h2⟩ i y hy
   cases i with
   | zero=>simp only[List.getElem?_cons_zero,Option.some.injEq] at hy;subst hy;exact h1
   | succ i=>have:=h2 i y hy;rw[show k+(i+1)=k+1+i by omega];exact this
  ·intro h
   exact⟨h 0 x rfl,fun i y hy=>by have:=h (i+1) y hy;rw[show k+(i+1)=k+1+i by omega] at this;exact this⟩
theorem Tm {a b:List Int} (h:a.length=b.length):Dh (fun i x=>decide (b[i]?=some x)) 0 a=decide (a=b):=by
 rw[Bool.eq_iff_iff,KQ,decide_eq_true_iff]
 constructor
 ·intro g
  refine List.ext_getElem? fun i=>?_
  by_cases hi:i < a.length
  ·obtain⟨x,hx,_⟩:=Bl hi
   have:=g i x hx
   rw[decide_eq_true_iff,Nat.zero_add] at this
   rw[hx,this]
  ·rw[List.getElem?_eq_none (by omega),List.getElem?_eq_none (by omega)]
 ·rintro rfl i x hx
  rw[decide_eq_true_iff,Nat.zero_add,hx]
theorem Ko {a b:List Int} (ha:a.length≤1048576) {N:Nat} (hN:2000000≤N):CA N a b=some (decide (a=b)):=by
 unfold CA
 by_cases h:a.length=b.length
 ·rw[if_neg (by simp[AU,h]),CS (l:=a) (B1 a b) (fun i x=>decide (b[i]?=some x)) (fun n=>by rw[B1,if_neg (by simp[AU])]) (fun n i x hx=>?_) (by omega),C1,Tm h]
  ·cases decide (a=b) <;> rfl
  ·have hi:=(List.getElem?_eq_some_iff.1 hx).1
   obtain⟨y,hy,_⟩:=Bl (l:=b) (i:=i) (by omega)
   rw[B1,if_pos (by simp[AU];omega),A4 hx]
   simp only[Option.bind_some]
   rw[A4 hy,hy,BJ (by omega) (by omega),show ((i:Int) + 1)=((i+1:Nat):Int) by omega]
   simp only[Option.bind_some]
   by_cases e:x=y
   ·simp[e]
   ·have e':¬ y=x:=fun q=>e q.symm
    simp[e,e']
 ·have hne:¬ a=b:=fun e=>h (by rw[e])
  have h':¬ ((a.length:Int)=(b.length:Int)):=by omega
  simp[AU,h',hne]
structure Mf (D:List Ag) (F:List Fp):Prop where
 QV:D.length≤4
 W2 :∀d∈D,d.cons.length≤3
 MP :∀d∈D,∀c∈d.cons,c.fields.length≤3∧∀t∈c.fields,Ck D t=true
 df :∀d∈D,Ck D d.from_=true∧Ck D d.to=true
 aO:F.length≤4
 aU :∀f∈F,f.params.length≤3∧(∀t∈f.params,Ck D t=true)∧Ck D f.result=true
theorem ZS {D:List Ag} (h :∀d∈D,d.cons.length≤3):nc D≤3 * D.length:=by
 induction D with
 | nil=>simp[nc]
 | cons d r ih=>
  have h1:=h d (by simp)
  have h2:=ih fun e he=>h e (by simp[he])
  simp only[nc,List.map_cons,List.sum_cons,List.length_cons] at h2 ⊢
  omega
theorem Mf.nc {D:List Ag} {F:List Fp} (S:Mf D F):nc D≤12:=by have:=ZS S.W2;have:=S.QV;omega
theorem LQ {D:List Ag} {t:Int} (h:Ck D t=true):0≤t∧t≤(D.length:Int):=by
 unfold Ck at h
 simpa using h
theorem Mf.of {p:Co} (h:Mo p.decls (p.funcs.map fun f=>(f.params,f.result))=true):Mf p.decls p.funcs:=by
 unfold Mo at h
 simp only[Bool.and_eq_true,List.length_map,List.all_map,decide_eq_true_eq] at h
 obtain⟨h1,⟨_,h2⟩,h3,_⟩:=h
 unfold KX at h1
 simp only[Bool.and_eq_true,decide_eq_true_eq] at h1
 obtain⟨h4,h5⟩:=h1
 rw[KQ] at h5
 have hd :∀d∈p.decls,∃i,Ja p.decls i d=true:=fun d hd=>by
  obtain⟨i,hi⟩:=List.mem_iff_getElem?.1 hd
  exact⟨_,h5 i d hi⟩
 refine⟨h4,fun d hm=>?_,fun d hm c hc=>?_,fun d hm=>?_,h2,fun f hf=>?_⟩
 ·obtain⟨i,hi⟩:=hd d hm
  unfold Ja at hi
  split at hi
  ·simp only[Bool.and_eq_true,decide_eq_true_eq] at hi;exact hi.1.1
  ·omega
 ·obtain⟨i,hi⟩:=hd d hm
  unfold Ja at hi
  split at hi
  ·simp only[Bool.and_eq_true,decide_eq_true_eq,List.all_eq_true] at hi
   have:=hi.2 c hc
   unfold Ns at this
   simp only[Bool.and_eq_true,decide_eq_true_eq,List.all_eq_true] at this
   exact this
  ·have:=List.length_pos_of_mem hc;omega
 ·obtain⟨i,hi⟩:=hd d hm
  unfold Ja at hi
  split at hi
  ·simp only[Bool.and_eq_true,decide_eq_true_eq] at hi
   rw[hi.1.2.1,hi.1.2.2]
   have:Ck p.decls 0=true:=by unfold Ck;simp
   exact⟨this,this⟩
  ·simp only[Bool.and_eq_true] at hi;exact hi.2
 ·have:=List.all_eq_true.1 h3 f hf
  simp only[Function.comp,Km,Bool.and_eq_true,decide_eq_true_eq,List.all_eq_true] at this
  exact this
section
variable {p : Co} {sg : A1} {R1 : Co → List Int → Cy → Option Int} {R2 : List Int → A1 → Cy → Option Int} {T : List Int → Cy → Int} {e : Cy} {v : List Int} {N : Nat}
def Ft:List Int→Int
 | []=>-1
 | t :: r=>if r.all (fun x=>decide (x=t))=true then t else -1
end
end RC



namespace RC
open Go
theorem Ws {n:Int} (h1:n < -9223372036854775808) (h2:-18446744073709551616≤n):Sh.w n=n+18446744073709551616:=by
 unfold Sh.w
 rw[IntKind.wrap_i64];omega
theorem Qs {D:List Ag} (hD:D.length≤1048576) (hn:nc D≤1048576) {c:Int} (hI:IF c) (hc:c < 0∨(nc D:Int)≤c) {N:Nat} (hN:2000000≤N):GN N D c=some (-1,⟨[]⟩):=by
 have key :∀(m j N:Nat) (c:Int),D.length - j=m→j≤D.length→m < N→IF c→(c < 0∨(nc (D.drop j):Int)≤c)→D0 D N c j=some (.inr ()):=by
  intro m
  induction m with
  | zero=>
   intro j N c h1 h2 h3 _ _
   obtain⟨N,rfl⟩ :∃n,N=n+1:=⟨N - 1,by omega⟩
   rw[D0,if_neg (by simp[AU];omega)]
  | succ m ih=>
   intro j N c h1 h2 h3 hI h4
   obtain⟨N,rfl⟩ :∃n,N=n+1:=⟨N - 1,by omega⟩
   obtain⟨d,hd,_⟩:=Bl (l:=D) (i:=j) (by omega)
   have hs:=GB D j
   rw[PM hd] at h4 hs
   rw[D0,if_pos (by simp[AU];omega),A4 hd]
   simp only[Option.bind_some]
   have hlo:=hI.1
   have hhi:=hI.2
   have e1:¬ (0≤c∧c < (d.cons.length:Int)):=by omega
   have e2:(if decide (0≤c)=true then some (decide (c < Sh.len d.cons)) else some false)=some false:=by
    by_cases h0:0≤c
    ·have:¬ c < (d.cons.length:Int):=by omega
     simp[h0,AU,this]
    ·simp[h0]
   rw[BJ (n:=(j:Int) + 1) (by omega) (by omega),show ((j:Int) + 1)=((j+1:Nat):Int) by omega,AU]
   rw[AU] at e2
   by_cases h5:c - (d.cons.length:Int) < -9223372036854775808
   ·have:=ih (j+1) N (Sh.w (c - (d.cons.length:Int))) (by omega) (by omega) (by omega) (by rw[Ws h5 (by omega)];unfold IF;omega) (by rw[Ws h5 (by omega)];omega)
    rw[e2]
    simp only[Option.bind_some,Bool.false_eq_true,if_false]
    exact this
   ·have:=ih (j+1) N (Sh.w (c - (d.cons.length:Int))) (by omega) (by omega) (by omega) (by rw[BJ (by omega) (by omega)];unfold IF;omega) (by rw[BJ (by omega) (by omega)];omega)
    rw[e2]
    simp only[Option.bind_some,Bool.false_eq_true,if_false]
    exact this
 have:=key D.length 0 N c (by omega) (by omega) (by omega) hI (by simpa using hc)
 unfold GN
 rw[show (((0:Nat):Int))=0 from rfl] at this
 rw[this];rfl
theorem QJ :∀{D:List Ag} {k c t:Nat} {x:BO},Jg D k c=some (t,x)→k < t∧t≤k+D.length∧∃d∈D,x∈d.cons
 | [],_,_,_,_,h=>by simp[Jg] at h
 | d :: r,k,c,t,x,h=>by
  unfold Jg at h
  cases hx:d.cons[c]? with
  | some y=>
   rw[hx] at h
   simp only[Option.some.injEq,Prod.mk.injEq] at h
   obtain⟨rfl,rfl⟩:=h
   exact⟨by omega,by simp,d,by simp,List.mem_of_getElem? hx⟩
  | none=>
   rw[hx] at h
   obtain⟨h1,h2,e,h3,h4⟩:=QJ h
   exact⟨by omega,by simp;omega,e,by simp[h3],h4⟩
def QF (a b:Int) (d:Ag):Bool:=decide (d.cons.length=0) && (decide (d.from_=a) && decide (d.to=b))
def Gu (a b:Int):List Ag→Nat→Int
 | [],_=>-1
 | d :: r,k=>if QF a b d=true then (k:Int) + 1 else Gu a b r (k+1)
theorem UL {a b:Int} :∀(l:List Ag) (k:Nat),Gu a b l k=-1∨((k:Int) < Gu a b l k∧Gu a b l k≤k+l.length)
 | [],_=>.inl rfl
 | d :: r,k=>by
  unfold Gu
  by_cases h:QF a b d=true
  ·rw[if_pos h];right;simp only[List.length_cons];omega
  ·rw[if_neg h]
   rcases UL r (k+1) with h1 | h1
   ·exact .inl h1
   ·right;simp only[List.length_cons];omega
theorem Sz {a b:Int} {d:Ag}:(if decide ((Sh.len d.cons)=0)=true then if decide (d.from_=a)=true then some (decide (d.to=b)) else some false else some false)=some (QF a b d):=by
 unfold QF
 by_cases h1:d.cons.length=0 <;> by_cases h2:d.from_=a <;> simp[AU,h1,h2]
theorem Pf {D:List Ag} (hD:D.length≤1048576) {a b:Int} {N:Nat} (hN:2000000≤N):Gp N D a b=some (Gu a b D 0):=by
 unfold Gp
 have key :∀{M i:Nat},i≤D.length→D.length - i < M→Sh.cont (Df D a b M i) id (fun ()=>some (-1))=some (Gu a b (D.drop i) i):=by
  intro M i hi hM
  refine Bn D.length (fun M i=>Sh.cont (Df D a b M i) id (fun ()=>some (-1))=some (Gu a b (D.drop i) i)) ?_ ?_ hi hM
  ·intro n;rw[Df,if_neg (by simp[AU])];simp[Gu,Sh.cont]
  ·intro n i hi ih
   obtain⟨d,hd,_⟩:=Bl hi
   rw[Df,if_pos (by simp[AU];omega),A4 hd,drop_cons hd]
   simp only[Option.bind_some]
   rw[Sz,BJ (by omega) (by omega),show ((i:Int) + 1)=((i+1:Nat):Int) by omega]
   simp only[Option.bind_some,Gu]
   by_cases h:QF a b d=true
   ·rw[if_pos h,if_pos h];simp[Sh.cont]
   ·rw[if_neg h,if_neg h,ih]
 have:=key (Nat.zero_le _) (by omega:D.length - 0 < N)
 simpa using this
theorem PY {D:List Ag} (hD:D.length≤1048576) {a b:Int} {N:Nat} (hN:2000000≤N):Hj N D a b=some (Gu a b D 0):=by
 unfold Hj
 have key :∀{M i:Nat},i≤D.length→D.length - i < M→Sh.cont (Dd D a b M i) id (fun ()=>some (-1))=some (Gu a b (D.drop i) i):=by
  intro M i hi hM
  refine Bn D.length (fun M i=>Sh.cont (Dd D a b M i) id (fun ()=>some (-1))=some (Gu a b (D.drop i) i)) ?_ ?_ hi hM
  ·intro n;rw[Dd,if_neg (by simp[AU])];simp[Gu,Sh.cont]
  ·intro n i hi ih
   obtain⟨d,hd,_⟩:=Bl hi
   rw[Dd,if_pos (by simp[AU];omega),A4 hd,drop_cons hd]
   simp only[Option.bind_some]
   rw[Sz,BJ (by omega) (by omega),show ((i:Int) + 1)=((i+1:Nat):Int) by omega]
   simp only[Option.bind_some,Gu]
   by_cases h:QF a b d=true
   ·rw[if_pos h,if_pos h];simp[Sh.cont]
   ·rw[if_neg h,if_neg h,ih]
 have:=key (Nat.zero_le _) (by omega:D.length - 0 < N)
 simpa using this
def Ii (D:List Ag) (t:Int):Option Ag:=if 1≤t∧t≤(D.length:Int) then (D[(t - 1).toNat]?).bind fun d=>if d.cons.length=0 then some d else none else none
theorem S7 {D:List Ag} {t:Int} {d:Ag} (h:Ii D t=some d):d∈D∧1≤t∧t≤(D.length:Int)∧D[(t - 1).toNat]?=some d:=by
 unfold Ii at h
 split at h
 ·rename_i h1
  obtain⟨e,he,h2⟩:=Option.bind_eq_some_iff.1 h
  split at h2
  ·cases h2;exact⟨List.mem_of_getElem? he,h1.1,h1.2,he⟩
  ·cases h2
 ·cases h
theorem K0 {D:List Ag} (hD:D.length≤1048576) {t:Int}:Fm D t=some ((Ii D t).elim (⟨0,0,[]⟩,false) fun d=>(d,true)):=by
 unfold Fm Ii
 by_cases h:1≤t∧t≤(D.length:Int)
 ·obtain⟨a,ha⟩ :∃a:Nat,t=(a:Int) + 1:=⟨(t - 1).toNat,by omega⟩
  subst ha
  obtain⟨d,hd,_⟩:=Bl (l:=D) (i:=a) (by omega)
  have e1:¬ ((a:Int) + 1 < 1):=by omega
  have e2:¬ ((D.length:Int) < (a:Int) + 1):=by omega
  rw[if_pos h,BJ (by omega) (by omega),show ((a:Int) + 1 - 1)=((a:Nat):Int) by omega,A4 hd,Int.toNat_natCast,hd]
  by_cases h2:d.cons.length=0
  ·have h2':d.cons=[]:=List.eq_nil_of_length_eq_zero h2
   simp[e1,e2,AU,h2']
  ·have h3:0 < d.cons.length:=by omega
   have h2':¬ d.cons=[]:=fun q=>h2 (by rw[q];rfl)
   simp[e1,e2,AU,h2',h3]
 ·rw[if_neg h]
  by_cases h1:t < 1
  ·simp[h1]
  ·have h2:(D.length:Int) < t:=by omega
   simp[h1,AU,h2]
theorem LB {D:List Ag} (hD:D.length≤1048576) {t:Int}:Fo D t=some (Ii D t).isSome:=by
 unfold Fo Ii
 rw[CB]
 by_cases h:1≤t∧t≤(D.length:Int)
 ·obtain⟨a,ha⟩ :∃a:Nat,t=(a:Int) + 1:=⟨(t - 1).toNat,by omega⟩
  subst ha
  obtain⟨d,hd,_⟩:=Bl (l:=D) (i:=a) (by omega)
  have e1:((1:Int)≤(a:Int) + 1):=by omega
  have e2:((a:Int) + 1≤(D.length:Int)):=by omega
  rw[if_pos h,BJ (by omega) (by omega),show ((a:Int) + 1 - 1)=((a:Nat):Int) by omega,A4 hd,Int.toNat_natCast,hd]
  by_cases h2:d.cons=[] <;> simp[e1,e2,AU,h2]
 ·rw[if_neg h]
  have:(decide (1≤t) && decide (t≤Sh.len D))=false:=by
   rw[AU]
   by_cases h1:1≤t
   ·have h2:¬ t≤(D.length:Int):=fun q=>h ⟨h1,q⟩
    simp[h1,h2]
   ·simp[h1]
  simp[this]
section
variable {p : Co} {sg : A1} {R1 : Co → List Int → Cy → Option Int} {R2 : List Int → A1 → Cy → Option Int} {T : List Int → Cy → Int} {e : Cy} {v : List Int} {N : Nat}
end
end RC



namespace RC
open Go
section
variable {p : Co} {R1 : Co → List Int → Cy → Option Int} {R2 : List Int → A1 → Cy → Option Int} {T : List Int → Cy → Int} {e : Cy} {v : List Int} {N : Nat}
theorem cO {D:List Ag}:Ck D 0=true:=by unfold Ck;simp
theorem MZ {α:Type} {l:List α}:decide ((Sh.len l)=0)=decide (l=[]):=by
 cases l with
 | nil=>rfl
 | cons x r=>exact decide_eq_decide.2 (by rw[AU,List.length_cons];exact⟨fun h=>by omega,fun h=>nomatch h⟩)
end
end RC



namespace RC
open Go
section
variable {p : Co} {R1 : Co → List Int → Cy → Option Int} {R2 : List Int → A1 → Cy → Option Int} {T : List Int → Cy → Int} {e : Cy} {v : List Int} {N : Nat}
theorem UM {α:Type} {l:List α} {m:Nat} (h:m≤l.length):Sh.sl l 0 (m:Int)=some (l.take m):=by
 unfold Sh.sl
 rw[if_pos ⟨by omega,by omega,by omega⟩];simp
end
end RC



namespace RC
open Go
def Nl (D:List Ag) (c:Int):List Int:=(Jg D 0 c.toNat).elim [] fun x=>x.2.fields
theorem V5 {D:List Ag} {t c:Int} (h:c∈GS D t) :∃k:Nat,c=(k:Int)∧k < nc D:=by
 unfold GS at h
 split at h
 ·rename_i h1
  obtain⟨a,ha⟩ :∃a:Nat,t=(a:Int) + 1:=⟨(t - 1).toNat,by omega⟩
  subst ha
  obtain⟨d,hd,_⟩:=Bl (l:=D) (i:=a) (by omega)
  rw[show (((a:Int) + 1) - 1).toNat=a by omega,hd] at h
  simp only[Option.elim_some,List.mem_map,List.mem_range] at h
  obtain⟨i,hi,rfl⟩:=h
  have hs:=GB D a
  rw[PM hd] at hs
  exact⟨nc (D.take a) + i,by omega,by omega⟩
 ·cases h
theorem OK {D:List Ag} (h :∀d∈D,d.cons.length≤3) (t:Int):(GS D t).length≤3:=by
 unfold GS
 split
 ·rename_i h1
  obtain⟨a,ha⟩ :∃a:Nat,t=(a:Int) + 1:=⟨(t - 1).toNat,by omega⟩
  subst ha
  obtain⟨d,hd,hm⟩:=Bl (l:=D) (i:=a) (by omega)
  rw[show (((a:Int) + 1) - 1).toNat=a by omega,hd]
  simp only[Option.elim_some,List.length_map,List.length_range]
  exact h d hm
 ·simp
theorem Q8 {D:List Ag} {F:List Fp} (S:Mf D F) {t c:Int} (h:c∈GS D t) {N:Nat} (hN:2000000≤N):C0 N D c=some (Nl D c)∧FL N D c=some (Nl D c)∧(Nl D c).length≤3∧∀x∈Nl D c,Ck D x=true:=by
 obtain⟨k,rfl,hk⟩:=V5 h
 have hD:=S.QV
 have hn:=S.nc
 obtain⟨t,x,e1,e2⟩:=J5 (D:=D) (by omega) (by omega) hk hN
 obtain⟨t',x',e1',e3⟩:=O7 (D:=D) (by omega) (by omega) hk hN
 rw[e1] at e1'
 cases e1'
 obtain⟨_,_,d,g3,g4⟩:=QJ e1
 have hf:Nl D (k:Int)=x.fields:=by unfold Nl;rw[Int.toNat_natCast,e1];rfl
 rw[hf]
 exact⟨e2,e3,S.MP d g3 x g4⟩
section
variable {p : Co} {R1 : Co → List Int → Cy → Option Int} {R2 : List Int → A1 → Cy → Option Int} {T : List Int → Cy → Int} {e : Cy} {v : List Int} {N : Nat}
end
end RC



namespace RC
open Go
end RC



namespace RC
open Go
end RC



namespace RC
open Go
mutual
def KF:Step→Nat | .mk _ _ _ a k=>a.length+k.length+Jp k
def Jp:List (E8 Step)→Nat | []=>0 | b :: k=>HP b+Jp k
def HP:E8 Step→Nat | ⟨ss,_⟩=>ss.length+Kl ss
def Kl:List Step→Nat | []=>0 | s :: l=>KF s+Kl l
end
theorem Jo (s:Step):KF s=s.args.length+s.kids.length+Jp s.kids:=by cases s;simp[KF,Step.args,Step.kids]
theorem NK (b:Block):HP b=b.steps.length+Kl b.steps:=by cases b;simp[HP]
theorem XZ {k:List Block} {i:Nat} {b:Block} (h:k[i]?=some b):Jp (k.drop i)=HP b+Jp (k.drop (i+1)):=by rw[drop_cons h];simp[Jp]
theorem XY {l:List Step} {i:Nat} {s:Step} (h:l[i]?=some s):Kl (l.drop i)=KF s+Kl (l.drop (i+1)):=by rw[drop_cons h];simp[Kl]
theorem YG {k:List Block} {b:Block} (h:b∈k):HP b≤Jp k:=by
 induction k with
 | nil=>cases h
 | cons c k ih=>
  simp only[Jp]
  rcases List.mem_cons.1 h with rfl | h
  ·omega
  ·have:=ih h;omega
theorem UK {l:List Step} {s:Step} (h:s∈l):KF s≤Kl l:=by
 induction l with
 | nil=>cases h
 | cons c l ih=>
  simp only[Kl]
  rcases List.mem_cons.1 h with rfl | h
  ·omega
  ·have:=ih h;omega
inductive Gt:Step→Prop where
 | mk {s:Step}:IF s.op→IF s.num→IF s.Ax→D1 IF s.args→s.kids.length≤9223372036854775807→(∀b∈s.kids,b.steps.length≤9223372036854775807)→(∀b∈s.kids,IF b.result)→(∀b∈s.kids,∀t∈b.steps,Gt t)→Gt s
structure Ie (b:Block):Prop where
 steps:D1 Gt b.steps
 result:IF b.result
theorem Gt.args {s:Step} (h:Gt s):D1 IF s.args:=by cases h;assumption
theorem Gt.Rq {s:Step} (h:Gt s):s.kids.length≤9223372036854775807:=by cases h;assumption
theorem Gt.kids {s:Step} (h:Gt s) :∀b∈s.kids,Ie b:=by
 cases h with
 | mk _ _ _ _ _ h1 h2 h3=>exact fun b hb=>⟨⟨h3 b hb,h1 b hb⟩,h2 b hb⟩
def lf (left:Int) (s:Nat):Int:=if left - s < 0 then -1 else left - s
theorem Qq {rec:Block→Int→Option Int} {k:List Block} {L:Int} (hk:k.length≤1048576) (hrec :∀b∈k,∀left:Int,0≤left→left≤L→rec b left=some (lf left (HP b))) {N i:Nat} (hi:i≤k.length) (hN:k.length - i < N) :
  ∀left:Int,0≤left→left≤L→DL k rec N left i=some (if left - Jp (k.drop i) < 0 then Sum.inl (-1) else Sum.inr (left - Jp (k.drop i))):=by
 refine Bn k.length (fun N i=>∀left:Int,0≤left→left≤L→DL k rec N left i=some (if left - Jp (k.drop i) < 0 then Sum.inl (-1) else Sum.inr (left - Jp (k.drop i)))) ?_ ?_ hi hN
 ·intro n left h0 h1
  rw[DL,if_neg (by simp[AU])]
  simp[Jp];omega
 ·intro n i hi ih left h0 h1
  obtain⟨b,hb,hbm⟩:=Bl hi
  rw[DL,if_pos (by simp[AU];omega),A4 hb]
  simp only[Option.bind_some]
  rw[hrec b hbm left h0 h1,XZ hb]
  simp only[Option.bind_some]
  unfold lf
  by_cases h2:left - HP b < 0
  ·simp only[h2,if_true]
   rw[if_pos (by simp),if_pos (by omega)]
  ·simp only[h2,if_false]
   rw[if_neg (by simp),BJ (by omega) (by omega),show ((i:Int) + 1)=((i+1:Nat):Int) by omega,ih (left - HP b) (by omega) (by omega)]
   have e:left - (HP b:Int) - Jp (k.drop (i+1))=left - ((HP b+Jp (k.drop (i+1)):Nat):Int):=by omega
   rw[e]
theorem UC {N:Nat} (hN:2000000≤N) {rec:Block→Int→Option Int} {k:List Block} (hk:k.length≤9223372036854775807) {left:Int} (h0:0≤left) (h1:left≤1048576)
  (hrec :∀b∈k,∀l:Int,0≤l→l≤left - k.length→rec b l=some (lf l (HP b))):G9 N rec k left=some (lf left (k.length+Jp k)):=by
 unfold G9
 rw[AU,BJ (by omega) (by omega)]
 unfold lf
 by_cases h2:left - (k.length:Int) < 0
 ·rw[if_pos (by simpa using h2),if_pos (by omega)]
 ·rw[if_neg (by simpa using h2)]
  have:=Qq (by omega) hrec (Nat.zero_le _) (by omega:k.length - 0 < N) (left - k.length) (by omega) (Int.le_refl _)
  rw[show ((0:Nat):Int)=0 from rfl,List.drop_zero] at this
  rw[this]
  by_cases h3:left - (k.length:Int) - Jp k < 0
  ·rw[if_pos h3,if_pos (by omega)];rfl
  ·rw[if_neg h3,if_neg (by omega)]
   simp only[Sh.IB]
   congr 1;omega
theorem WO {N:Nat} (hN:2000000≤N) {rec:Block→Int→Option Int} {s:Step} (hs:Gt s) {left:Int} (h0:0≤left) (h1:left≤1048576)
  (hrec :∀b∈s.kids,∀l:Int,0≤l→l < left→rec b l=some (lf l (HP b))):Il N rec s left=some (lf left (KF s)):=by
 unfold Il
 rw[Lc h0 h1 hs.args.2,Jo]
 simp only[Option.bind_some]
 by_cases h2:left - (s.args.length:Int) < 0
 ·have:left - ((s.args.length+s.kids.length+Jp s.kids:Nat):Int) < 0:=by omega
  simp only[lf,if_pos h2,if_pos this];rfl
 ·rw[if_neg h2,if_neg (by simpa using h2),UC hN hs.Rq (by omega) (by omega) (fun b hb l l0 l1=>hrec b hb l l0 (by
   have:0 < s.kids.length:=List.length_pos_of_mem hb
   omega))]
  simp only[Option.bind_some]
  have e:lf (left - (s.args.length:Int)) (s.kids.length+Jp s.kids)=lf left (s.args.length+s.kids.length+Jp s.kids):=by
   unfold lf
   have e:left - (s.args.length:Int) - ((s.kids.length+Jp s.kids:Nat):Int)=left - ((s.args.length+s.kids.length+Jp s.kids:Nat):Int):=by omega
   rw[e]
  rw[e]
  unfold lf
  split <;> simp <;> omega
theorem SC {M:Nat} (hM:2000000≤M) {rec:Block→Int→Option Int} {l:List Step} {L:Int} (hL:L≤1048576) (hk:l.length≤1048576) (hs :∀s∈l,Gt s) (hrec :∀s∈l,∀b∈s.kids,∀left:Int,0≤left→left < L→rec b left=some (lf left (HP b))) {N i:Nat} (hi:i≤l.length) (hN:l.length - i < N) :
  ∀left:Int,0≤left→left≤L→Dg M l rec N left i=some (if left - Kl (l.drop i) < 0 then Sum.inl (-1) else Sum.inr (left - Kl (l.drop i))):=by
 refine Bn l.length (fun N i=>∀left:Int,0≤left→left≤L→Dg M l rec N left i=some (if left - Kl (l.drop i) < 0 then Sum.inl (-1) else Sum.inr (left - Kl (l.drop i)))) ?_ ?_ hi hN
 ·intro n left h0 h1
  rw[Dg,if_neg (by simp[AU])]
  simp[Kl];omega
 ·intro n i hi ih left h0 h1
  obtain⟨b,hb,hbm⟩:=Bl hi
  rw[Dg,if_pos (by simp[AU];omega),A4 hb]
  simp only[Option.bind_some]
  rw[WO hM (hs b hbm) h0 (by omega) (fun c hc l' l0 l1=>hrec b hbm c hc l' l0 (by omega)),XY hb]
  simp only[Option.bind_some]
  unfold lf
  by_cases h2:left - KF b < 0
  ·simp only[h2,if_true]
   rw[if_pos (by simp),if_pos (by omega)]
  ·simp only[h2,if_false]
   rw[if_neg (by simp),BJ (by omega) (by omega),show ((i:Int) + 1)=((i+1:Nat):Int) by omega,ih (left - KF b) (by omega) (by omega)]
   have e:left - (KF b:Int) - Kl (l.drop (i+1))=left - ((KF b+Kl (l.drop (i+1)):Nat):Int):=by omega
   rw[e]
theorem SP {N:Nat} (hN:2000000≤N) :∀(n:Nat) (b:Block) (left:Int),Ie b→0≤left→left≤1048576→left < n→E2 N n b left=some (lf left (HP b)):=by
 intro n
 induction n with
 | zero=>intro b left _ h0 _ h2;omega
 | succ n ih=>
  intro b left hb h0 h1 h2
  rw[E2]
  unfold Hs JG
  have hl:=hb.steps.2
  rw[AU,BJ (by omega) (by omega),NK]
  by_cases h3:left - (b.steps.length:Int) < 0
  ·have:left - ((b.steps.length+Kl b.steps:Nat):Int) < 0:=by omega
   rw[if_pos (by simpa using h3)]
   simp only[lf,if_pos this];rfl
  ·rw[if_neg (by simpa using h3)]
   have:=SC hN (rec:=E2 N n) (l:=b.steps) (L:=left - b.steps.length) (by omega) (by omega) hb.steps.1 (fun s hs c hc l l0 l1=>ih c l ((hb.steps.1 s hs).kids c hc) l0 (by omega) (by have:=List.length_pos_of_mem hs;omega)) (Nat.zero_le _) (by omega:b.steps.length - 0 < N) (left - b.steps.length) (by omega) (Int.le_refl _)
   rw[show ((0:Nat):Int)=0 from rfl,List.drop_zero] at this
   rw[this]
   unfold lf
   by_cases h5:left - (b.steps.length:Int) - Kl b.steps < 0
   ·rw[if_pos h5,if_pos (by omega)];rfl
   ·rw[if_neg h5,if_neg (by omega)]
    simp only[Sh.IB,Option.bind_some]
    rw[if_neg (by simp;omega)]
    congr 1;omega
end RC



namespace RC
open Go
def Bs (b:Block):Prop:=HP b≤1048576
theorem Bs.len {b:Block} (h:Bs b):b.steps.length≤1048576:=by unfold Bs at h;rw[NK] at h;omega
theorem HC {b:Block} {s:Step} (hs:s∈b.steps):KF s+1≤HP b:=by
 have h1:=UK hs
 have h2:=List.length_pos_of_mem hs
 rw[NK];omega
theorem Lb {s:Step} {b:Block} (hb:b∈s.kids):HP b+1≤KF s:=by
 have h1:=YG hb
 have h2:=List.length_pos_of_mem hb
 rw[Jo];omega
theorem Qk {rec:Block→Option Block} {k:List Block} (hk:k.length≤1048576) (hrec :∀b∈k,rec b=some b) {N i:Nat} (hi:i≤k.length) (hN:k.length - i < N) :∀m:List Block,m.length=k.length→m.take i=k.take i→DE k rec N i m=some k:=by
 refine Bn k.length (fun N i=>∀m:List Block,m.length=k.length→m.take i=k.take i→DE k rec N i m=some k) ?_ ?_ hi hN
 ·intro n m hm ht
  rw[DE,if_neg (by simp[AU])]
  rw[List.take_of_length_le (by omega),List.take_length] at ht
  rw[ht]
 ·intro n i hi ih m hm ht
  obtain⟨x,hx,hxm⟩:=Bl hi
  obtain⟨y,hy,_⟩:=Bl (l:=m) (i:=i) (by omega)
  rw[DE,if_pos (by simp[AU];omega),A4 hx]
  simp only[Option.bind_some]
  rw[hrec x hxm]
  simp only[Option.bind_some]
  rw[A4 hy]
  simp only[Option.bind_some]
  rw[BJ (by omega) (by omega),J2,show ((i:Int) + 1)=((i+1:Nat):Int) by omega]
  refine ih _ (by simp[hm]) ?_
  rw[Ee hx,Ee (x:=x) (by rw[List.getElem?_set];simp;omega),List.take_set_of_le (Nat.le_refl _),ht]
theorem WA {N:Nat} (hN:2000000≤N) {rec:Block→Option Block} {s:Step} (hs:KF s≤1048576) (hrec :∀b∈s.kids,rec b=some b):IM N rec s=some s:=by
 rw[Jo] at hs
 unfold IM Ib
 rw[Lq (by omega) hN,AU,LZ _ s.kids.length 32 (by omega) (by omega)]
 simp only[Option.bind_some]
 have:=Qk (by omega) hrec (Nat.zero_le _) (by omega:s.kids.length - 0 < N) (List.replicate s.kids.length (Block.mk [] 0)) (by simp) (by simp)
 rw[show ((0:Nat):Int)=0 from rfl] at this
 rw[this]
 exact congrArg some (KL s).symm
theorem RT {M:Nat} (hM:2000000≤M) {rec:Block→Option Block} {k:List Step} (hk:k.length≤1048576) (hs :∀s∈k,KF s≤1048576) (hrec :∀s∈k,∀b∈s.kids,rec b=some b) {N i:Nat} (hi:i≤k.length) (hN:k.length - i < N) :∀m:List Step,m.length=k.length→m.take i=k.take i→De M k rec N i m=some k:=by
 refine Bn k.length (fun N i=>∀m:List Step,m.length=k.length→m.take i=k.take i→De M k rec N i m=some k) ?_ ?_ hi hN
 ·intro n m hm ht
  rw[De,if_neg (by simp[AU])]
  rw[List.take_of_length_le (by omega),List.take_length] at ht
  rw[ht]
 ·intro n i hi ih m hm ht
  obtain⟨x,hx,hxm⟩:=Bl hi
  obtain⟨y,hy,_⟩:=Bl (l:=m) (i:=i) (by omega)
  rw[De,if_pos (by simp[AU];omega),A4 hx]
  simp only[Option.bind_some]
  rw[WA hM (hs x hxm) (hrec x hxm)]
  simp only[Option.bind_some]
  rw[A4 hy]
  simp only[Option.bind_some]
  rw[BJ (by omega) (by omega),J2,show ((i:Int) + 1)=((i+1:Nat):Int) by omega]
  refine ih _ (by simp[hm]) ?_
  rw[Ee hx,Ee (x:=x) (by rw[List.getElem?_set];simp;omega),List.take_set_of_le (Nat.le_refl _),ht]
theorem Sg {N:Nat} (hN:2000000≤N) :∀(n:Nat) (b:Block),Bs b→HP b < n→E4 N n b=some b:=by
 intro n
 induction n with
 | zero=>intro b _ h;omega
 | succ n ih=>
  intro b hb hn
  have hl:=hb.len
  rw[E4]
  unfold Hr JB
  rw[AU,LZ _ b.steps.length 72 (by omega) (by omega)]
  simp only[Option.bind_some]
  have:=RT hN (rec:=E4 N n) hl (fun s hs=>by have:=HC hs;unfold Bs at hb;omega) (fun s hs c hc=>ih c (by have:=HC hs;have:=Lb hc;unfold Bs at *;omega) (by have:=HC hs;have:=Lb hc;omega)) (Nat.zero_le _) (by omega:b.steps.length - 0 < N) (List.replicate b.steps.length (Step.mk 0 0 0 [] [])) (by simp) (by simp)
  rw[show ((0:Nat):Int)=0 from rfl] at this
  rw[this];rfl
theorem Ui {b:Block} (hb:Bs b) {N:Nat} (hN:2000000≤N):JJ N b=some b:=by
 unfold JJ
 exact Sg hN N b hb (by unfold Bs at hb;omega)
theorem Qt {rec:Block→Block→Option Bool} {k:List Block} (hk:k.length≤1048576) (hrec :∀b∈k,rec b b=some true) {N i:Nat} (hi:i≤k.length) (hN:k.length - i < N):DI k k rec N i=some (Sum.inr ()):=by
 refine Bn k.length (fun N i=>DI k k rec N i=some (Sum.inr ())) ?_ ?_ hi hN
 ·intro n
  rw[DI,if_neg (by simp[AU])]
 ·intro n i hi ih
  obtain⟨x,hx,hxm⟩:=Bl hi
  rw[DI,if_pos (by simp[AU];omega),A4 hx]
  simp only[Option.bind_some]
  rw[hrec x hxm,BJ (by omega) (by omega),show ((i:Int) + 1)=((i+1:Nat):Int) by omega]
  simpa using ih
theorem WH {N:Nat} (hN:2000000≤N) {rec:Block→Block→Option Bool} {s:Step} (hs:KF s≤1048576) (hrec :∀b∈s.kids,rec b b=some true):IG N rec s s=some true:=by
 rw[Jo] at hs
 unfold IG IH
 have:=Qt (k:=s.kids) (by omega) hrec (Nat.zero_le _) (by omega:s.kids.length - 0 < N)
 rw[show ((0:Nat):Int)=0 from rfl] at this
 simp[La (l:=s.args) (by omega) hN,this]
theorem R7 {M:Nat} (hM:2000000≤M) {rec:Block→Block→Option Bool} {k:List Step} (hk:k.length≤1048576) (hs :∀s∈k,KF s≤1048576) (hrec :∀s∈k,∀b∈s.kids,rec b b=some true) {N i:Nat} (hi:i≤k.length) (hN:k.length - i < N):Dc M k k rec N i=some (Sum.inr ()):=by
 refine Bn k.length (fun N i=>Dc M k k rec N i=some (Sum.inr ())) ?_ ?_ hi hN
 ·intro n
  rw[Dc,if_neg (by simp[AU])]
 ·intro n i hi ih
  obtain⟨x,hx,hxm⟩:=Bl hi
  rw[Dc,if_pos (by simp[AU];omega),A4 hx]
  simp only[Option.bind_some]
  rw[WH hM (hs x hxm) (hrec x hxm),BJ (by omega) (by omega),show ((i:Int) + 1)=((i+1:Nat):Int) by omega]
  simpa using ih
theorem Sk {N:Nat} (hN:2000000≤N) :∀(n:Nat) (b:Block),Bs b→HP b < n→E3 N n b b=some true:=by
 intro n
 induction n with
 | zero=>intro b _ h;omega
 | succ n ih=>
  intro b hb hn
  have hl:=hb.len
  rw[E3]
  unfold Ho JD
  have:=R7 hN (rec:=E3 N n) hl (fun s hs=>by have:=HC hs;unfold Bs at hb;omega) (fun s hs c hc=>ih c (by have:=HC hs;have:=Lb hc;unfold Bs at *;omega) (by have:=HC hs;have:=Lb hc;omega)) (Nat.zero_le _) (by omega:b.steps.length - 0 < N)
  rw[show ((0:Nat):Int)=0 from rfl] at this
  simp[this]
theorem Uk {b:Block} (hb:Bs b) {N:Nat} (hN:2000000≤N):JF N b b=some true:=by
 unfold JF
 exact Sk hN N b hb (by unfold Bs at hb;omega)
mutual
def Oh:Step→Nat | .mk _ _ _ _ k=>H5 k+1
def H5:List (E8 Step)→Nat | []=>0 | b :: k=>GK b+H5 k
def GK:E8 Step→Nat | ⟨ss,_⟩=>I3 ss
def I3:List Step→Nat | []=>0 | s :: l=>Oh s+I3 l
end
theorem RA (s:Step):Oh s=H5 s.kids+1:=by cases s;simp[Oh,Step.kids]
theorem Q4 (b:Block):GK b=I3 b.steps:=by cases b;simp[GK]
theorem S8 {k:List Block} {i:Nat} {b:Block} (h:k[i]?=some b):H5 (k.drop i)=GK b+H5 (k.drop (i+1)):=by rw[drop_cons h];simp[H5]
theorem PV {l:List Step} {i:Nat} {s:Step} (h:l[i]?=some s):I3 (l.drop i)=Oh s+I3 (l.drop (i+1)):=by rw[drop_cons h];simp[I3]
theorem VA {b:Block} {s:Step} {i:Nat} {rec:Block→Int→Option Int} (hs:b.steps[i]?=some s) (hk:s.kids.length≤1048576) (hrec :∀c∈s.kids,∀l:Int,0≤l→l≤600→rec c l=some (lf l (GK c))) {N k:Nat} (hi:k≤s.kids.length) (hN:s.kids.length - k < N) :∀left:Int,0≤left→left≤600→
  CM i b rec N left k=some (if left - H5 (s.kids.drop k) < 0 then Sum.inl (-1) else Sum.inr (left - H5 (s.kids.drop k))):=by
 refine Bn s.kids.length (fun N k=>∀left:Int,0≤left→left≤600→CM i b rec N left k=some (if left - H5 (s.kids.drop k) < 0 then Sum.inl (-1) else Sum.inr (left - H5 (s.kids.drop k)))) ?_ ?_ hi hN
 ·intro n left h0 h1
  rw[CM,A4 hs]
  simp only[Option.bind_some]
  rw[if_neg (by simp[AU])]
  simp[H5];omega
 ·intro n k hi ih left h0 h1
  obtain⟨c,hc,hcm⟩:=Bl hi
  rw[CM,A4 hs]
  simp only[Option.bind_some]
  rw[if_pos (by simp[AU];omega),A4 hc]
  simp only[Option.bind_some]
  rw[hrec c hcm left h0 h1,S8 hc]
  simp only[Option.bind_some]
  unfold lf
  by_cases h2:left - GK c < 0
  ·simp only[h2,if_true]
   rw[if_pos (by simp),if_pos (by omega)]
  ·simp only[h2,if_false]
   rw[if_neg (by simp),BJ (by omega) (by omega),show ((k:Int) + 1)=((k+1:Nat):Int) by omega,ih (left - GK c) (by omega) (by omega)]
   have e:left - (GK c:Int) - H5 (s.kids.drop (k+1))=left - ((GK c+H5 (s.kids.drop (k+1)):Nat):Int):=by omega
   rw[e]
theorem Up {b:Block} {rec:Block→Int→Option Int} {M:Nat} (hM:2000000≤M) (hl:b.steps.length≤1048576) (hk :∀s∈b.steps,s.kids.length≤1048576) (hrec :∀s∈b.steps,∀c∈s.kids,∀l:Int,0≤l→l≤600→rec c l=some (lf l (GK c))) {N i:Nat} (hi:i≤b.steps.length) (hN:b.steps.length - i < N) :∀left:Int,0≤left→left≤600→
  CK M b rec N left i=some (if left - I3 (b.steps.drop i) < 0 then Sum.inl (-1) else Sum.inr (left - I3 (b.steps.drop i))):=by
 refine Bn b.steps.length (fun N i=>∀left:Int,0≤left→left≤600→CK M b rec N left i=some (if left - I3 (b.steps.drop i) < 0 then Sum.inl (-1) else Sum.inr (left - I3 (b.steps.drop i)))) ?_ ?_ hi hN
 ·intro n left h0 h1
  rw[CK,if_neg (by simp[AU])]
  simp[I3];omega
 ·intro n i hi ih left h0 h1
  obtain⟨s,hs,hsm⟩:=Bl hi
  rw[CK,if_pos (by simp[AU];omega),PV hs,RA]
  by_cases h2:left < 1
  ·rw[if_pos (by simpa using h2),if_pos (by omega)]
  ·rw[if_neg (by simpa using h2),BJ (n:=left - 1) (by omega) (by omega)]
   have hks:=hk s hsm
   have L2:=VA hs hks (hrec s hsm) (Nat.zero_le _) (by omega:s.kids.length - 0 < M) (left - 1) (by omega) (by omega)
   rw[show ((0:Nat):Int)=0 from rfl,List.drop_zero] at L2
   rw[L2]
   by_cases h3:left - 1 - (H5 s.kids:Int) < 0
   ·rw[if_pos h3,if_pos (by omega)];rfl
   ·rw[if_neg h3]
    simp only[Sh.IB]
    rw[BJ (by omega) (by omega),show ((i:Int) + 1)=((i+1:Nat):Int) by omega,ih _ (by omega) (by omega)]
    have e:left - 1 - (H5 s.kids:Int) - I3 (b.steps.drop (i+1))=left - ((H5 s.kids+1+I3 (b.steps.drop (i+1)):Nat):Int):=by omega
    rw[e]
theorem Kn {b:Block} (hb:Bs b) {s:Step} (hs:s∈b.steps):s.kids.length≤1048576:=by
 have h1:=HC hs
 rw[Jo] at h1
 unfold Bs at hb;omega
theorem Hv {b:Block} (hb:Bs b) {s:Step} (hs:s∈b.steps) {c:Block} (hc:c∈s.kids):Bs c∧HP c+2≤HP b:=by
 have h1:=HC hs
 have h2:=Lb hc
 unfold Bs at *
 exact⟨by omega,by omega⟩
theorem Qe {N:Nat} (hN:2000000≤N) :∀(n:Nat) (b:Block) (left:Int),Bs b→HP b < n→0≤left→left≤600→EP N n b left=some (lf left (GK b)):=by
 intro n
 induction n with
 | zero=>intro b left _ h;omega
 | succ n ih=>
  intro b left hb hn h0 h1
  have hl:=hb.len
  rw[EP]
  unfold Gy
  have:=Up (rec:=EP N n) hN hl (fun s hs=>Kn hb hs) (fun s hs c hc l l0 l1=>ih c l (Hv hb hs hc).1 (by have:=(Hv hb hs hc).2;omega) l0 l1) (Nat.zero_le _) (by omega:b.steps.length - 0 < N) left h0 h1
  rw[show ((0:Nat):Int)=0 from rfl,List.drop_zero,← Q4] at this
  rw[this]
  unfold lf
  by_cases h3:left - (GK b:Int) < 0
  ·rw[if_pos h3,if_pos h3];rfl
  ·rw[if_neg h3,if_neg h3];rfl
theorem Ph {b:Block} (hb:Bs b) {N:Nat} (hN:2000000≤N):Ha N b=some (if GK b≤600 then (GK b:Int) else -1):=by
 unfold Ha Je
 rw[Qe hN N b 600 hb (by unfold Bs at hb;omega) (by decide) (by decide)]
 simp only[Option.bind_some]
 by_cases h:GK b≤600
 ·have e:lf 600 (GK b)=600 - (GK b:Int):=by unfold lf;rw[if_neg (by omega)]
  rw[e,if_neg (by simp;omega),if_pos h,BJ (by omega) (by omega)]
  congr 1;omega
 ·have e:lf 600 (GK b)=-1:=by unfold lf;rw[if_pos (by omega)]
  rw[e,if_neg h];rfl
def Cs (n:Int) (m:Nat) (r:Bool×Int):Prop:=(n+m≤600→r=(true,n+m))∧(¬ n+m≤600→r.1=false)
theorem Tq {s:Step} {rec:Int→Block→Option (Bool×Int)} (hk:s.kids.length≤1048576) (hrec :∀c∈s.kids,∀n:Int,0≤n→n≤600→∃r,rec n c=some r∧Cs n (GK c) r) {N k:Nat} (hi:k≤s.kids.length) (hN:s.kids.length - k < N) :∀n:Int,0≤n→n≤600→
  ∃r,B3 s rec N k n=some r∧(n+H5 (s.kids.drop k)≤600→r=Sum.inr (n+H5 (s.kids.drop k)))∧(¬ n+H5 (s.kids.drop k)≤600→∃m,r=Sum.inl (false,m)):=by
 refine Bn s.kids.length (fun N k=>∀n:Int,0≤n→n≤600→∃r,B3 s rec N k n=some r∧(n+H5 (s.kids.drop k)≤600→r=Sum.inr (n+H5 (s.kids.drop k)))∧(¬ n+H5 (s.kids.drop k)≤600→∃m,r=Sum.inl (false,m))) ?_ ?_ hi hN
 ·intro f n h0 h1
  rw[B3,if_neg (by simp[AU])]
  refine⟨_,rfl,fun _=>by simp[H5],fun h=>?_⟩
  simp[H5] at h;omega
 ·intro f k hi ih n h0 h1
  obtain⟨c,hc,hcm⟩:=Bl hi
  obtain⟨⟨ok,m⟩,r1,r2,r3⟩:=hrec c hcm n h0 h1
  rw[B3,if_pos (by simp[AU];omega),A4 hc]
  simp only[Option.bind_some]
  rw[r1,S8 hc]
  simp only[Option.bind_some]
  by_cases h2:n+(GK c:Int)≤600
  ·cases r2 h2
   rw[if_neg (by simp),BJ (by omega) (by omega),show ((k:Int) + 1)=((k+1:Nat):Int) by omega]
   obtain⟨r,e1,e2,e3⟩:=ih (n+GK c) (by omega) h2
   have e:n+(GK c:Int) + H5 (s.kids.drop (k+1))=n+((GK c+H5 (s.kids.drop (k+1)):Nat):Int):=by omega
   rw[e] at e2 e3
   exact⟨r,e1,e2,e3⟩
  ·have:ok=false:=r3 h2
   subst this
   rw[if_pos (by simp)]
   exact⟨_,rfl,fun h=>by omega,fun _=>⟨_,rfl⟩⟩
theorem T3 {b:Block} {rec:Int→Block→Option (Bool×Int)} {M:Nat} (hM:2000000≤M) (hl:b.steps.length≤1048576) (hk :∀s∈b.steps,s.kids.length≤1048576) (hrec :∀s∈b.steps,∀c∈s.kids,∀n:Int,0≤n→n≤600→∃r,rec n c=some r∧Cs n (GK c) r) {N i:Nat} (hi:i≤b.steps.length) (hN:b.steps.length - i < N) :∀n:Int,0≤n→n≤600→
  ∃r,B7 M b rec N i n=some r∧(n+I3 (b.steps.drop i)≤600→r=Sum.inr (n+I3 (b.steps.drop i)))∧(¬ n+I3 (b.steps.drop i)≤600→∃m,r=Sum.inl (false,m)):=by
 refine Bn b.steps.length (fun N i=>∀n:Int,0≤n→n≤600→∃r,B7 M b rec N i n=some r∧(n+I3 (b.steps.drop i)≤600→r=Sum.inr (n+I3 (b.steps.drop i)))∧(¬ n+I3 (b.steps.drop i)≤600→∃m,r=Sum.inl (false,m))) ?_ ?_ hi hN
 ·intro f n h0 h1
  rw[B7,if_neg (by simp[AU])]
  refine⟨_,rfl,fun _=>by simp[I3],fun h=>?_⟩
  simp[I3] at h;omega
 ·intro f i hi ih n h0 h1
  obtain⟨s,hs,hsm⟩:=Bl hi
  rw[B7,if_pos (by simp[AU];omega),A4 hs,PV hs,RA]
  simp only[Option.bind_some]
  rw[BJ (n:=n+1) (by omega) (by omega)]
  by_cases h2:600 < n+1
  ·rw[if_pos (by simpa using h2)]
   exact⟨_,rfl,fun h=>by omega,fun _=>⟨_,rfl⟩⟩
  ·rw[if_neg (by simpa using h2)]
   have hks:=hk s hsm
   obtain⟨r,e1,e2,e3⟩:=Tq hks (hrec s hsm) (Nat.zero_le _) (by omega:s.kids.length - 0 < M) (n+1) (by omega) (by omega)
   rw[show ((0:Nat):Int)=0 from rfl] at e1
   rw[List.drop_zero] at e2 e3
   rw[e1]
   by_cases h3:n+1+(H5 s.kids:Int)≤600
   ·rw[e2 h3]
    simp only[Sh.IB]
    rw[BJ (by omega) (by omega),show ((i:Int) + 1)=((i+1:Nat):Int) by omega]
    obtain⟨r',f1,f2,f3⟩:=ih _ (by omega) h3
    have e:n+1+(H5 s.kids:Int) + I3 (b.steps.drop (i+1))=n+((H5 s.kids+1+I3 (b.steps.drop (i+1)):Nat):Int):=by omega
    rw[e] at f2 f3
    exact⟨r',f1,f2,f3⟩
   ·obtain⟨m,hm⟩:=e3 h3
    rw[hm]
    exact⟨_,rfl,fun h=>by omega,fun _=>⟨_,rfl⟩⟩
theorem P5 {N:Nat} (hN:2000000≤N) :∀(f:Nat) (b:Block) (n:Int),Bs b→HP b < f→0≤n→n≤600→∃r,D7 N f n b=some r∧Cs n (GK b) r:=by
 intro f
 induction f with
 | zero=>intro b n _ h;omega
 | succ f ih=>
  intro b n hb hn h0 h1
  have hl:=hb.len
  rw[D7]
  unfold GR
  obtain⟨r,e1,e2,e3⟩:=T3 (rec:=D7 N f) hN hl (fun s hs=>Kn hb hs) (fun s hs c hc l l0 l1=>ih c l (Hv hb hs hc).1 (by have:=(Hv hb hs hc).2;omega) l0 l1) (Nat.zero_le _) (by omega:b.steps.length - 0 < N) n h0 h1
  rw[show ((0:Nat):Int)=0 from rfl] at e1
  rw[List.drop_zero,← Q4] at e2 e3
  rw[e1]
  by_cases h3:n+(GK b:Int)≤600
  ·rw[e2 h3]
   exact⟨_,rfl,fun _=>rfl,fun h=>absurd h3 h⟩
  ·obtain⟨m,hm⟩:=e3 h3
   rw[hm]
   exact⟨_,rfl,fun h=>absurd h h3,fun _=>rfl⟩
theorem QH {b:Block} (hb:Bs b) {N:Nat} (hN:2000000≤N):HZ N b=some (if GK b≤600 then (GK b:Int) else -1):=by
 unfold HZ I7
 obtain⟨⟨ok,m⟩,e1,e2,e3⟩:=P5 hN N b 0 hb (by unfold Bs at hb;omega) (by decide) (by decide)
 rw[e1]
 simp only[Option.bind_some]
 by_cases h:GK b≤600
 ·cases e2 (by omega)
  rw[if_neg (by simp),if_pos h]
  congr 1;omega
 ·have:ok=false:=e3 (by omega)
  subst this
  rw[if_pos (by simp),if_neg h]
end RC



namespace RC
open Go
def L9 (o:Int):Bool:=decide (14≤o) && decide (o≤17)
mutual
def us (v:Int):Step→Nat | .mk o _ _ a k=>if L9 o then 0 else a.countP (fun x=>decide (x=v)) + uk v k
def uk (v:Int):List (E8 Step)→Nat | []=>0 | b :: k=>ub v b+uk v k
def ub (v:Int):E8 Step→Nat | ⟨ss,r⟩=>(if r=v then 1 else 0) + ul v ss
def ul (v:Int):List Step→Nat | []=>0 | s :: l=>us v s+ul v l
end
def ua (v:Int) (a:List Int):Nat:=a.countP fun x=>decide (x=v)
theorem dt (v:Int) (a:List Int):ua v a≤a.length:=List.countP_le_length
theorem XF (o:Int):GA o=some (L9 o):=by unfold GA;rw[CB];rfl
theorem Ju (o:Int):CG o=some (L9 o):=by
 unfold CG L9
 by_cases h:14≤o <;> simp[h]
end RC



namespace RC
open Go
def J9 (v:List Int) (a:Int):Option Int:=if 0≤a∧a < (v.length:Int) then v[a.toNat]? else none
def CD (v:List Int):List Int→Option (List Int)
 | []=>some []
 | a :: r=>(J9 v a).bind fun t=>(CD v r).map (t :: ·)
theorem Q6 {v:List Int} {a:Int} (h0:0≤a) (h1:a < (v.length:Int)) :∃t,J9 v a=some t∧Sh.get v a=some t∧t∈v:=by
 obtain⟨t,g1,g2⟩:=Kz h0 h1
 exact⟨t,by unfold J9;rw[if_pos ⟨h0,h1⟩,g2],g1,List.mem_of_getElem? g2⟩
theorem UG {v:List Int} {a:Int} (h:¬ (0≤a∧a < (v.length:Int))):J9 v a=none:=if_neg h
theorem Kp {v:List Int} :∀{args l:List Int},CD v args=some l↔args.length=l.length∧∀(i:Nat) a,args[i]?=some a→J9 v a=l[i]?∧(J9 v a).isSome=true
 | [],l=>by
  simp only[CD,Option.some.injEq,List.length_nil]
  constructor
  ·rintro rfl;simp
  ·rintro⟨h,_⟩;exact (List.eq_nil_of_length_eq_zero h.symm).symm
 | a :: r,l=>by
  simp only[CD]
  constructor
  ·intro h
   obtain⟨t,h1,h2⟩:=Option.bind_eq_some_iff.1 h
   obtain⟨m,h3,rfl⟩:=Option.map_eq_some_iff.1 h2
   obtain⟨h4,h5⟩:=Kp.1 h3
   refine⟨by simp[h4],fun i b hb=>?_⟩
   cases i with
   | zero=>simp only[List.getElem?_cons_zero,Option.some.injEq] at hb ⊢;subst hb;rw[h1];simp
   | succ i=>simpa using h5 i b (by simpa using hb)
  ·rintro⟨h1,h2⟩
   cases l with
   | nil=>simp at h1
   | cons t m=>
    have h3:=h2 0 a rfl
    simp only[List.getElem?_cons_zero] at h3
    have h4:CD v r=some m:=Kp.2 ⟨by simpa using h1,fun i b hb=>by have:=h2 (i+1) b (by simpa using hb);simpa using this⟩
    rw[h3.1,h4];rfl
theorem H9 {v args types:List Int} (hv:v.length≤1048576) (ha:args.length≤1048576) {N:Nat} (hN:2000000≤N):Bd N v args types=some (decide (CD v args=some types)):=by
 unfold Bd
 by_cases h:args.length=types.length
 ·rw[if_neg (by simp[AU,h]),CS (l:=args) (Er v args types) (fun i a=>decide (J9 v a=types[i]?∧(J9 v a).isSome=true)) (fun n=>by rw[Er,if_neg (by simp[AU])]) (fun n i a hi=>?_) (by omega),C1]
  ·have:Dh (fun i a=>decide (J9 v a=types[i]?∧(J9 v a).isSome=true)) 0 args=decide (CD v args=some types):=by
    rw[Bool.eq_iff_iff,KQ,decide_eq_true_iff,Kp]
    constructor
    ·intro g
     exact⟨h,fun i a ha=>by have:=g i a ha;rw[decide_eq_true_iff,Nat.zero_add] at this;exact this⟩
    ·rintro⟨_,g⟩ i a ha
     rw[decide_eq_true_iff,Nat.zero_add];exact g i a ha
   rw[this]
   cases decide (CD v args=some types) <;> rfl
  ·have hil:=(List.getElem?_eq_some_iff.1 hi).1
   obtain⟨t,ht,_⟩:=Bl (l:=types) (i:=i) (by omega)
   rw[Er,if_pos (by simp[AU];omega),A4 hi]
   simp only[Option.bind_some]
   rw[CB,AU,BJ (n:=(v.length:Int) - 1) (by omega) (by omega),BJ (n:=(i:Int) + 1) (by omega) (by omega),show ((i:Int) + 1)=((i+1:Nat):Int) by omega]
   simp only[Option.bind_some]
   by_cases hr:0≤a∧a < (v.length:Int)
   ·obtain⟨x,x1,x2,_⟩:=Q6 hr.1 hr.2
    have hr2:a≤(v.length:Int) - 1:=by omega
    rw[x1,x2,A4 ht,ht]
    by_cases q:x=t <;> simp[hr.1,hr2,q]
   ·rw[UG hr]
    have:(decide (0≤a) && decide (a≤(v.length:Int) - 1))=false:=by
     rw[Bool.and_eq_false_iff,decide_eq_false_iff_not,decide_eq_false_iff_not];omega
    rw[this];simp
 ·have h1:¬ ((args.length:Int)=(types.length:Int)):=by omega
  have h2:¬ CD v args=some types:=fun q=>h (Kp.1 q).1
  simp[AU,h1,h2]
theorem WC {v:List Int} {s:Step} (hv:v.length≤1048576) (ha:s.args.length≤1048576) {N:Nat} (hN:2000000≤N) :
  BP v s N 0 []=some ((CD v s.args).elim (.inl (-1,false)) .inr):=by
 have key :∀{M i:Nat},i≤s.args.length→s.args.length - i < M→∀acc:List Int,acc.length=i→BP v s M i acc=some ((CD v (s.args.drop i)).elim (.inl (-1,false)) fun l=>.inr (acc ++ l)):=by
  intro M i hi hM
  refine Bn s.args.length (fun M i=>∀acc:List Int,acc.length=i→BP v s M i acc=some ((CD v (s.args.drop i)).elim (.inl (-1,false)) fun l=>.inr (acc ++ l))) ?_ ?_ hi hM
  ·intro n acc _
   rw[BP,if_neg (by simp[AU]),List.drop_length];simp[CD]
  ·intro n i hi ih acc hacc
   obtain⟨a,hx,_⟩:=Bl hi
   rw[BP,if_pos (by simp[AU];omega),A4 hx,drop_cons hx]
   simp only[Option.bind_some,CD,AU]
   by_cases hr:0≤a∧a < (v.length:Int)
   ·obtain⟨x,x1,x2,_⟩:=Q6 hr.1 hr.2
    have r1:¬ a < 0:=by omega
    have r2:¬ (v.length:Int)≤a:=by omega
    rw[x1,x2]
    simp only[r1,r2,decide_false,Bool.false_eq_true,if_false,Option.bind_some]
    rw[Dp acc [x] 8 (by simp;omega) (by simp;omega),BJ (by omega) (by omega),show ((i:Int) + 1)=((i+1:Nat):Int) by omega]
    simp only[Option.bind_some]
    rw[ih (acc ++ [x]) (by simp[hacc])]
    cases CD v (s.args.drop (i+1)) <;> simp
   ·rw[UG hr]
    by_cases r1:a < 0
    ·simp[r1]
    ·have r2:(v.length:Int)≤a:=by omega
     simp[r1,r2]
 have:=key (Nat.zero_le _) (by omega:s.args.length - 0 < N) [] rfl
 simpa using this
section
variable {D : List Ag} {G : List Ba} {ks : List Int} {op num : Int} {N : Nat}
theorem XI (h:op=0):Av N ⟨D,G⟩ op num ks=some (0,(decide (-999≤num) && decide (num≤999)) && decide (ks=[])):=by
 unfold Av
 simp only[h,decide_true,if_true,MZ]
 by_cases a:-999≤num <;> by_cases b:num≤999 <;> simp[a,b,Sh.cont]
theorem QL (hk:ks.length≤1048576) (hN:2000000≤N) (h:op=1∨op=2∨op=3∨op=4):Av N ⟨D,G⟩ op num ks=some (0,decide (num=0) && decide (ks=[0,0])):=by
 unfold Av
 have e3:CA N ks [0,0]=some (decide (ks=[0,0])):=Ko hk hN
 rcases h with h | h | h | h <;> simp only[h,Int.reduceEq,decide_true,decide_false,Bool.false_eq_true,if_true,if_false,Option.bind_some,Sh.IB] <;> rw[e3] <;> by_cases a:num=0 <;> simp[a]
theorem QQ (hk:ks.length≤1048576) (hN:2000000≤N) (h:op=5):Av N ⟨D,G⟩ op num ks=some (0,decide (num=0) && decide (ks=[0])):=by
 unfold Av
 simp only[h,Int.reduceEq,decide_true,decide_false,Bool.false_eq_true,if_true,if_false,Option.bind_some,Sh.IB]
 rw[Ko hk hN]
 by_cases a:num=0 <;> simp[a]
theorem PU {F:List Fp} (S:Mf D F) (hk:ks.length≤1048576) (hI:IF num) (hN:2000000≤N) (h:op=6) :
  (∃t x,0 < t∧Ck D t=true∧(∀y∈x,0≤y)∧CO N D num=some t∧C0 N D num=some x∧Av N ⟨D,G⟩ op num ks=some (t,decide (ks=x)))∨
  (CO N D num=some (-1)∧Av N ⟨D,G⟩ op num ks=some (-1,false)):=by
 have hD:=S.QV
 have hn:=S.nc
 by_cases hr:0≤num∧num < (nc D:Int)
 ·obtain⟨c,hc⟩:=Int.eq_ofNat_of_zero_le hr.1
  have hc2:c < nc D:=by omega
  obtain⟨t,x,e1,e2⟩:=Kt (D:=D) (by omega) (by omega) hc2 hN
  obtain⟨t',x',e1',e3⟩:=J5 (D:=D) (by omega) (by omega) hc2 hN
  obtain⟨t'',x'',e1'',e4⟩:=Mq (D:=D) (by omega) (by omega) hc2 hN
  rw[e1] at e1' e1''
  cases e1';cases e1''
  obtain⟨g1,g2,d,g3,g4⟩:=QJ e1
  have hx:=S.MP d g3 x g4
  refine .inl ⟨(t:Int),x.fields,by omega,by unfold Ck;simp;omega,fun y hy=>(LQ (hx.2 y hy)).1,by rw[hc,e2],by rw[hc,e3],?_⟩
  unfold Av
  simp only[h,Int.reduceEq,decide_true,decide_false,Bool.false_eq_true,if_true,if_false,Option.bind_some]
  rw[hc,e4]
  simp only[Option.bind_some]
  rw[Ko hk hN,if_pos (by simp)]
  simp[Sh.cont]
 ·refine .inr ⟨PH (by omega) (by omega) (by omega) hN,?_⟩
  unfold Av
  simp only[h,Int.reduceEq,decide_true,decide_false,Bool.false_eq_true,if_true,if_false,Option.bind_some]
  rw[Qs (by omega) (by omega) hI (by omega) hN]
  simp[Sh.cont]
theorem WJ {f:Ba} (hk:ks.length≤1048576) (hG:G.length≤4) (hN:2000000≤N) (h:op=9) (f0:0≤num) (f1:num < (G.length:Int)) (f5:Sh.get G num=some f):Av N ⟨D,G⟩ op num ks=some (f.result,decide (ks=f.params)):=by
 have f0':¬ num < 0:=by omega
 have f1':¬ (G.length:Int)≤num:=by omega
 unfold Av
 simp only[h,Int.reduceEq,decide_true,decide_false,Bool.false_eq_true,if_true,if_false,Option.bind_some,AU,f0',f1']
 rw[f5]
 simp only[Option.bind_some]
 rw[Ko hk hN]
 simp[Sh.cont]
theorem QM {f:Ba} (hk:ks.length≤1048576) (hD:D.length≤4) (hG:G.length≤4) (hp:f.params.length≤3) (hN:2000000≤N) (h:op=10) (f0:0≤num) (f1:num < (G.length:Int)) (f5:Sh.get G num=some f) :
  (f.params=[]∧Av N ⟨D,G⟩ op num ks=some (-1,false))∨
  (∃m x,f.params.length=m+1∧f.params[m]?=some x∧Av N ⟨D,G⟩ op num ks=some (Gu x f.result D 0,decide (0≤Gu x f.result D 0) && decide (ks=f.params.take m))):=by
 have f0':¬ num < 0:=by omega
 have f1':¬ (G.length:Int)≤num:=by omega
 by_cases hp0:f.params.length=0
 ·refine .inl ⟨List.eq_nil_of_length_eq_zero hp0,?_⟩
  unfold Av
  simp only[h,Int.reduceEq,decide_true,decide_false,Bool.false_eq_true,if_true,if_false,Option.bind_some,AU,f0',f1']
  rw[f5]
  simp only[Option.bind_some,hp0]
  rw[BJ (by omega) (by omega)]
  simp[Sh.cont]
 ·obtain⟨m,hm⟩ :∃m,f.params.length=m+1:=⟨f.params.length - 1,by omega⟩
  obtain⟨x,hx,hxm⟩:=Bl (l:=f.params) (i:=m) (by omega)
  have hw:Sh.w ((f.params.length:Int) - 1)=(m:Int):=by rw[BJ (by omega) (by omega)];omega
  have hm0:¬ ((m:Int) < 0):=by omega
  refine .inr ⟨m,x,hm,hx,?_⟩
  unfold Av
  simp only[h,Int.reduceEq,decide_true,decide_false,Bool.false_eq_true,if_true,if_false,Option.bind_some,AU,f0',f1']
  rw[f5]
  simp only[Option.bind_some,hw,hm0,decide_false,Bool.false_eq_true,if_false]
  rw[A4 hx]
  simp only[Option.bind_some]
  rw[PY (by omega) hN,UM (by omega)]
  simp only[Option.bind_some]
  rw[Ko hk hN]
  by_cases z:0≤Gu x f.result D 0 <;> simp[z,Sh.cont]
theorem Nt (hG:G.length≤4) (h:op=9∨op=10) (hr:num < 0∨(G.length:Int)≤num):Av N ⟨D,G⟩ op num ks=some (-1,false):=by
 unfold Av
 rcases h with h | h <;> simp only[h,Int.reduceEq,decide_true,decide_false,Bool.false_eq_true,if_true,if_false,Option.bind_some,AU] <;> rcases hr with hr | hr
 ·simp[hr,Sh.cont]
 ·have:¬ num < 0:=by omega
  simp[hr,this,Sh.cont]
 ·simp[hr,Sh.cont]
 ·have:¬ num < 0:=by omega
  simp[hr,this,Sh.cont]
theorem MS (hD:D.length≤4) (h:op=11) {a b:Int} (hk:ks=[a,b]):Av N ⟨D,G⟩ op num ks=some ((Ii D a).elim (0,false) fun d=>(d.to,decide (b=d.from_∧num=0))):=by
 subst hk
 unfold Av
 simp only[h,Int.reduceEq,decide_true,decide_false,Bool.false_eq_true,if_true,if_false,Option.bind_some,AU,List.length_cons,List.length_nil]
 rw[show Sh.get [a,b] 0=some a from rfl,show Sh.get [a,b] 1=some b from rfl]
 simp only[Option.bind_some]
 rw[K0 (by omega)]
 simp only[Option.bind_some]
 cases hA:Ii D a with
 | none=>simp[Sh.cont]
 | some d=>by_cases c1:b=d.from_ <;> by_cases c2:num=0 <;> simp[c1,c2,Sh.cont]
theorem Mi (h:op=11) (hk:¬ ks.length=2):Av N ⟨D,G⟩ op num ks=some (-1,false):=by
 have hk':¬ ((ks.length:Int)=2):=by omega
 unfold Av
 simp only[h,Int.reduceEq,decide_true,decide_false,Bool.false_eq_true,if_true,if_false,Option.bind_some,AU,hk']
 simp[Sh.cont]
theorem UI (h:op < 0∨11 < op∨op=7∨op=8):Av N ⟨D,G⟩ op num ks=some (-1,false):=by
 unfold Av
 simp only[show ¬ op=0 by omega,show ¬ op=1 by omega,show ¬ op=2 by omega,show ¬ op=3 by omega,show ¬ op=4 by omega,show ¬ op=5 by omega,show ¬ op=6 by omega,show ¬ op=9 by omega,show ¬ op=10 by omega,show ¬ op=11 by omega,decide_false,Bool.false_eq_true,if_false,Option.bind_some]
 simp[Sh.cont]
end
end RC



namespace RC
open Go
def DD (n:Aj):A1:=⟨n.decls,n.AD.map fun r=>⟨r.params,r.At,r.result⟩⟩
def Qm (r:Ac):Fp:=⟨r.params,r.result,.mk 0 0 []⟩
abbrev JT (n:Aj):Prop:=Mf n.decls (n.AD.map Qm)
theorem Hb {n:Aj}:(DD n).funcs.length=n.AD.length:=by show (n.AD.map _).length=_;simp
theorem JT.Oi {n:Aj} (S:JT n):n.AD.length≤4:=by have:=S.aO;simpa using this
theorem Uu {n:Aj} (S:JT n) (k:Int):(∃r,0≤k∧k < (n.AD.length:Int)∧Sh.get n.AD k=some r∧Sh.get (DD n).funcs k=some ⟨r.params,r.At,r.result⟩∧r.params.length≤3∧(∀t∈r.params,Ck n.decls t=true)∧Ck n.decls r.result=true)∨(k < 0∨(n.AD.length:Int)≤k):=by
 by_cases h:0≤k∧k < (n.AD.length:Int)
 ·obtain⟨r,h1,h2⟩:=Kz h.1 h.2
  have hm:=List.mem_of_getElem? h2
  obtain⟨q1,q2,q3⟩:=S.aU (Qm r) (List.mem_map_of_mem hm)
  refine .inl ⟨r,h.1,h.2,h1,?_,q1,q2,q3⟩
  rw[Pp h.1]
  show ((n.AD.map fun r=>(⟨r.params,r.At,r.result⟩:Ba)))[k.toNat]?=_
  rw[List.getElem?_map,h2];rfl
 ·exact .inr (by omega)
theorem TH {γ:Type} {bad:γ} {ts:List Int} (L:Nat→Int→Int→Option (γ ⊕ Int)) (h0 :∀n r,L (n+1) r (ts.length:Int)=some (.inr r))
  (hs :∀n (i:Nat) r t,ts[i]?=some t→L (n+1) r (i:Int)=if t < 0∨(0 < i∧t≠r) then some (.inl bad) else L n t ((i+1:Nat):Int)) {N:Nat} (hN:ts.length < N) (hne:ts≠[]) (hty :∀t∈ts,t < 0→t=-1) (r0:Int) :
  L N r0 0=some (if Ft ts < 0 then .inl bad else .inr (Ft ts)):=by
 have rest :∀(d i n:Nat) (r:Int),0≤r→ts.length - i=d→0 < i→i≤ts.length→d < n→L n r i=some (if (ts.drop i).all (fun x=>decide (x=r))=true then .inr r else .inl bad):=by
  intro d
  induction d with
  | zero=>
   intro i n r _ h1 h2 h3 h4
   obtain⟨n,rfl⟩ :∃q,n=q+1:=⟨n - 1,by omega⟩
   rw[show i=ts.length by omega,h0,List.drop_length];rfl
  | succ d ih=>
   intro i n r hr h1 h2 h3 h4
   obtain⟨n,rfl⟩ :∃q,n=q+1:=⟨n - 1,by omega⟩
   obtain⟨t,ht,_⟩:=Bl (l:=ts) (i:=i) (by omega)
   rw[hs n i r t ht,drop_cons ht,List.all_cons]
   by_cases h5:t=r
   ·subst h5
    rw[if_neg (by rintro (h | h);omega;exact h.2 rfl),ih (i+1) n _ hr (by omega) (by omega) (by omega) (by omega)]
    simp
   ·rw[if_pos (.inr ⟨h2,h5⟩)]
    simp[h5]
 cases hts:ts with
 | nil=>exact absurd hts hne
 | cons t r=>
  obtain⟨n,hn⟩ :∃q,N=q+1:=⟨N - 1,by omega⟩
  have h1:=hs n 0 r0 t (by rw[hts];rfl)
  rw[show ((0:Nat):Int)=0 from rfl] at h1
  have hpos:1≤ts.length:=by rw[hts];simp
  rw[hn,h1]
  by_cases h2:t < 0
  ·have:=hty t (by rw[hts];simp) h2
   subst this
   have ho:Ft (-1 :: r)=-1:=by
    show (if (r.all fun x=>decide (x=-1))=true then (-1:Int) else -1)=-1
    split <;> rfl
   rw[if_pos (.inl h2),ho,if_pos (by omega)]
  ·rw[if_neg (by rintro (h | h);exact h2 h;exact absurd h.1 (Nat.lt_irrefl _)),rest _ 1 n t (by omega) rfl (by omega) hpos (by omega),hts,List.drop_succ_cons,List.drop_zero]
   by_cases h3:r.all (fun x=>decide (x=t))=true
   ·have ho:Ft (t :: r)=t:=if_pos h3
    rw[if_pos h3,ho,if_neg h2]
   ·have ho:Ft (t :: r)=-1:=if_neg h3
    rw[if_neg h3,ho,if_pos (by omega)]
theorem S5 {ts:List Int}:Ft ts=-1∨Ft ts∈ts:=by
 cases ts with
 | nil=>exact .inl rfl
 | cons t r=>
  unfold Ft
  dsimp only
  split
  ·exact .inr (by simp)
  ·exact .inl rfl
def SN (n:Aj) (R1:Aj→List Int→Block→Option Int) (R2:A1→List Int→Block→Option Int) (T:List Int→Block→Int) (m:Nat):Prop:=
 ∀(v:List Int) (b:Block),Ie b→Bs b→GK b < m→v.length+4 * GK b≤4000→(∀x∈v,Ck n.decls x=true)→R1 n v b=some (T v b)∧R2 (DD n) v b=some (T v b)∧(T v b=-1∨Ck n.decls (T v b)=true)
structure SK (n:Aj) (s:Step) (v:List Int):Prop where
 Xf:Gt s
 size:KF s≤1048576
 len:v.length+4 * Oh s≤4000
 Zp :∀x∈v,Ck n.decls x=true
theorem X3 {k:List Block} {b:Block} (h:b∈k):GK b≤H5 k:=by
 induction k with
 | nil=>cases h
 | cons c k ih=>
  simp only[H5]
  rcases List.mem_cons.1 h with rfl | h
  ·omega
  ·have:=ih h;omega
theorem VI {N:Nat} {a b:List Int} (ha:a.length≤4000) (hb:b.length≤4000) (hN:2000000≤N):Db N [a,b]=some (a ++ b):=by
 obtain⟨n,rfl⟩ :∃n,N=n+3:=⟨N - 3,by omega⟩
 unfold Db
 have e1:Bk [a,b] (n+3) 0 0=some ((a.length+b.length:Nat):Int):=by
  rw[Bk,if_pos (by simp[AU]),show Sh.get [a,b] 0=some a from rfl]
  simp only[Option.bind_some]
  rw[AU,BJ (n:=(0:Int) + 1) (by omega) (by omega),BJ (by omega) (by omega),if_neg (by rw[decide_eq_true_eq];omega)]
  rw[Bk,if_pos (by simp[AU]),show Sh.get [a,b] (0+1)=some b from rfl]
  simp only[Option.bind_some]
  rw[AU,BJ (n:=(0:Int) + 1+1) (by omega) (by omega),BJ (by omega) (by omega),if_neg (by rw[decide_eq_true_eq];omega)]
  rw[Bk,if_neg (by simp[AU])]
  congr 1;omega
 have e2:Bi [a,b] (n+3) 0 []=some (a ++ b):=by
  rw[Bi,if_pos (by simp[AU]),show Sh.get [a,b] 0=some a from rfl]
  simp only[Option.bind_some]
  rw[Dp [] a 8 (by simp;omega) (by simp;omega),BJ (n:=(0:Int) + 1) (by omega) (by omega)]
  simp only[Option.bind_some,List.nil_append]
  rw[Bi,if_pos (by simp[AU]),show Sh.get [a,b] (0+1)=some b from rfl]
  simp only[Option.bind_some]
  rw[Dp a b 8 (by omega) (by omega),BJ (n:=(0:Int) + 1+1) (by omega) (by omega)]
  simp only[Option.bind_some]
  rw[Bi,if_neg (by simp[AU])]
 have e3:Es ((a.length+b.length:Nat):Int)=some []:=by
  unfold Es
  rw[if_neg (by simp;omega),BJ (n:=(0:Int) - 0) (by omega) (by omega),BJ (by omega) (by omega)]
  by_cases h:0 < a.length+b.length
  ·rw[if_pos (by simp;omega),show (((a.length+b.length:Nat):Int) - (0 - 0))=((a.length+b.length:Nat):Int) by omega,LZ _ _ _ (by omega) (by omega)]
   simp only[Option.bind_some]
   have:=bW (l:=List.replicate (a.length+b.length) (0:Int)) (j:=0) (by omega)
   rw[show ((0:Nat):Int)=0 from rfl] at this
   rw[this];rfl
  ·rw[if_neg (by simp;omega)];rfl
 rw[e1]
 simp only[Option.bind_some]
 rw[e3]
 simp only[Option.bind_some]
 rw[e2];rfl
section
variable {n : Aj} {R1 : Aj → List Int → Block → Option Int} {R2 : A1 → List Int → Block → Option Int} {T : List Int → Block → Int} {s : Step} {v : List Int} {N : Nat}
theorem SK.KK (V:SK n s v):v.length≤4000:=by have:=V.len;omega
theorem SK.KY (V:SK n s v):s.args.length≤1048576:=by have:=V.size;rw[Jo] at this;omega
theorem TO (H:SN n R1 R2 T (Oh s)) (V:SK n s v) {b:Block} (hb:b∈s.kids) {m:List Int} (hm:m.length≤3) (ht :∀x∈m,Ck n.decls x=true) :
  R1 n (v ++ m) b=some (T (v ++ m) b)∧R2 (DD n) (v ++ m) b=some (T (v ++ m) b)∧(T (v ++ m) b=-1∨Ck n.decls (T (v ++ m) b)=true):=by
 have h1:=X3 hb
 have h2:=RA s
 have h3:=Lb hb
 have h4:=V.size
 have h5:=V.len
 refine H (v ++ m) b (V.Xf.kids b hb) (by unfold Bs;omega) (by omega) (by rw[List.length_append];omega) fun x hx=>?_
 rcases List.mem_append.1 hx with h | h
 ·exact V.Zp x h
 ·exact ht x h
def Hk (T:List Int→Block→Int) (v:List Int) (ms:List (List Int)) (ks:List Block):List Int:=List.zipWith (fun m k=>T (v ++ m) k) ms ks
theorem Ua {ms:List (List Int)} {ks:List Block} {i:Nat} {m:List Int} {k:Block} (h1:ms[i]?=some m) (h2:ks[i]?=some k):(Hk T v ms ks)[i]?=some (T (v ++ m) k):=by
 unfold Hk;rw[List.getElem?_zipWith,h1,h2]
theorem RB (H:SN n R1 R2 T (Oh s)) (V:SK n s v) {ms:List (List Int)} (hm :∀m∈ms,m.length≤3∧∀x∈m,Ck n.decls x=true) :∀t∈Hk T v ms s.kids,t=-1∨Ck n.decls t=true:=fun t ht=>by
 obtain⟨i,hi⟩:=List.mem_iff_getElem?.1 ht
 unfold Hk at hi
 rw[List.getElem?_zipWith] at hi
 cases h1:ms[i]? with
 | none=>rw[h1] at hi;simp at hi
 | some m=>
  cases h2:s.kids[i]? with
  | none=>rw[h1,h2] at hi;simp at hi
  | some k=>
   rw[h1,h2] at hi
   simp only[Option.some.injEq] at hi
   subst hi
   obtain⟨q1,q2⟩:=hm m (List.mem_of_getElem? h1)
   exact (TO H V (List.mem_of_getElem? h2) q1 q2).2.2
theorem SG (H:SN n R1 R2 T (Oh s)) (V:SK n s v) (hN:2000000≤N) {ms:List (List Int)} (hl:ms.length=s.kids.length) (hne:ms≠[]) (hml:ms.length≤10) (hm :∀m∈ms,m.length≤3∧∀x∈m,Ck n.decls x=true) :
  Bu N R2 (DD n) v s.kids ms=some (if Ft (Hk T v ms s.kids) < 0 then (-1,false) else (Ft (Hk T v ms s.kids),true)):=by
 unfold Bu
 have hkl:(Hk T v ms s.kids).length=s.kids.length:=by unfold Hk;simp[hl]
 rw[TH (bad:=(-1,false)) (ts:=Hk T v ms s.kids) (Bg N (DD n) v s.kids ms R2) (fun q r=>by rw[Bg,if_neg (by simp[AU,hkl])]) (fun q i r t ht=>?_) (by omega) (fun q=>by have:=congrArg List.length q;rw[hkl,← hl] at this;exact hne (List.eq_nil_of_length_eq_zero (by simpa using this))) (fun t ht hn=>by rcases RB H V hm t ht with q | q;exact q;have:=(LQ q).1;omega) (-1)]
 ·by_cases h:Ft (Hk T v ms s.kids) < 0 <;> simp[h,Sh.cont]
 ·have hi:=(List.getElem?_eq_some_iff.1 ht).1
  obtain⟨m,h1,hmm⟩:=Bl (l:=ms) (i:=i) (by omega)
  obtain⟨k,h2,hkm⟩:=Bl (l:=s.kids) (i:=i) (by omega)
  rw[Ua h1 h2] at ht
  simp only[Option.some.injEq] at ht
  subst ht
  obtain⟨q1,q2⟩:=hm m hmm
  rw[Bg,if_pos (by simp[AU];omega),A4 h2]
  simp only[Option.bind_some]
  rw[A4 h1]
  simp only[Option.bind_some]
  have hvl:=V.KK
  have hc:Db N [v,m]=some (v ++ m):=VI hvl (by omega) hN
  rw[hc]
  simp only[Option.bind_some]
  rw[(TO H V hkm q1 q2).2.1,BJ (by omega) (by omega),show ((i:Int) + 1)=((i+1:Nat):Int) by omega]
  simp only[Option.bind_some]
  by_cases c1:T (v ++ m) k < 0
  ·simp[c1]
  ·by_cases c2:0 < i
   ·by_cases c3:T (v ++ m) k=r
    ·have c1':¬ r < 0:=c3 ▸ c1
     simp[c1',c2,c3]
    ·simp[c1,c2,c3]
   ·simp[c1,c2]
theorem RP (H:SN n R1 R2 T (Oh s)) (V:SK n s v) (S:JT n) (hN:2000000≤N) {ms:List (List Int)} (h:(s.op=7∧ms=[[],[]])∨(s.op=8∧ms=(GS n.decls s.num).map (Nl n.decls))) :
  Ev N R1 n v s=some (if ms=[]∨¬ s.kids.length=ms.length then -1 else Ft (Hk T v ms s.kids)):=by
 have hD:=S.QV
 have hn:=S.nc
 have hvl:=V.KK
 have hcl:=OK S.W2 s.num
 unfold Ev
 rw[Ql (by omega) (by omega) hN]
 simp only[Option.bind_some]
 have hmany:(if decide (s.op=7)=true then some (2:Int) else some (Sh.len (GS n.decls s.num)))=some (ms.length:Int):=by
  rcases h with ⟨h1,h2⟩ | ⟨h1,h2⟩
  ·rw[h2];simp[h1]
  ·rw[h2];simp[h1,AU]
 rw[hmany]
 simp only[Option.bind_some,AU]
 by_cases h0:ms=[]
 ·have eg:(if ms=[]∨¬ s.kids.length=ms.length then (-1:Int) else Ft (Hk T v ms s.kids))=-1:=if_pos (.inl h0)
  rw[eg];simp[h0]
 ·have h0':¬ ((ms.length:Int)=0):=fun q=>h0 (List.eq_nil_of_length_eq_zero (by omega))
  by_cases hl:s.kids.length=ms.length
  ·have hl':((s.kids.length:Int)=(ms.length:Int)):=by omega
   have eg:(if ms=[]∨¬ s.kids.length=ms.length then (-1:Int) else Ft (Hk T v ms s.kids))=Ft (Hk T v ms s.kids):=if_neg (by rintro (q | q);exact h0 q;exact q hl)
   rw[eg]
   simp only[h0',hl',decide_false,decide_true,Bool.not_true,Bool.false_eq_true,if_false,Option.bind_some]
   have hkl:(Hk T v ms s.kids).length=s.kids.length:=by unfold Hk;simp[hl]
   have hml:ms.length≤3:=by rcases h with ⟨_,h2⟩ | ⟨_,h2⟩ <;> rw[h2] <;> simp;exact hcl
   have hm :∀m∈ms,m.length≤3∧∀x∈m,Ck n.decls x=true:=fun m hm=>by
    rcases h with ⟨_,h2⟩ | ⟨_,h2⟩
    ·rw[h2] at hm;simp at hm;subst hm;simp
    ·rw[h2] at hm
     obtain⟨c,hc,rfl⟩:=List.mem_map.1 hm
     exact (Q8 S hc hN).2.2
   rw[TH (bad:=(-1:Int)) (ts:=Hk T v ms s.kids) (Dn N (ms.length:Int) n v s (GS n.decls s.num) R1) (fun q r=>by rw[Dn,if_neg (by simp;omega)]) (fun q i r t ht=>?_) (by omega) (fun q=>by have:=congrArg List.length q;rw[hkl,hl] at this;exact h0 (List.eq_nil_of_length_eq_zero (by simpa using this))) (fun t ht hn=>by rcases RB H V hm t ht with q | q;exact q;have:=(LQ q).1;omega) 0]
   ·by_cases q:Ft (Hk T v ms s.kids) < 0
    ·have:Ft (Hk T v ms s.kids)=-1:=by
      rcases S5 (ts:=Hk T v ms s.kids) with z | z
      ·exact z
      ·rcases RB H V hm _ z with y | y
       ·exact y
       ·have:=(LQ y).1;omega
     rw[this];simp[Sh.cont]
    ·simp[q,Sh.cont]
   ·have hi:=(List.getElem?_eq_some_iff.1 ht).1
    obtain⟨m,h1,hmm⟩:=Bl (l:=ms) (i:=i) (by omega)
    obtain⟨k,h2,hkm⟩:=Bl (l:=s.kids) (i:=i) (by omega)
    rw[Ua h1 h2] at ht
    simp only[Option.some.injEq] at ht
    subst ht
    obtain⟨q1,q2⟩:=hm m hmm
    have hin:(if decide (s.op=8)=true then Option.bind (Sh.get (GS n.decls s.num) i) fun c43=>Option.bind (C0 N n.decls c43) fun q44=>Option.bind (Im v q44) fun q45=>some q45 else some v)=some (v ++ m):=by
     rcases h with ⟨o1,o2⟩ | ⟨o1,o2⟩
     ·have:m=[]:=by rw[o2] at hmm;simpa using hmm
      simp[o1,this]
     ·rw[o2] at h1
      rw[List.getElem?_map,Option.map_eq_some_iff] at h1
      obtain⟨c,hc,rfl⟩:=h1
      simp only[o1,decide_true,if_true]
      rw[A4 hc]
      simp only[Option.bind_some]
      rw[(Q8 S (List.mem_of_getElem? hc) hN).1]
      simp only[Option.bind_some]
      unfold Im Cw
      rw[Dp [] v 8 (by simp;omega) (by simp;omega)]
      simp only[Option.bind_some,List.nil_append]
      rw[Dp _ _ 8 (by omega) (by omega)];rfl
    rw[Dn,if_pos (by simp;omega),hin,A4 h2]
    simp only[Option.bind_some]
    rw[(TO H V hkm q1 q2).1,BJ (by omega) (by omega),show ((i:Int) + 1)=((i+1:Nat):Int) by omega]
    simp only[Option.bind_some]
    by_cases c1:T (v ++ m) k < 0
    ·simp[c1]
    ·by_cases c2:0 < i
     ·by_cases c3:T (v ++ m) k=r
      ·have c1':¬ r < 0:=c3 ▸ c1
       simp[c1',c2,c3]
      ·simp[c1,c2,c3]
     ·simp[c1,c2]
  ·have hl':¬ ((s.kids.length:Int)=(ms.length:Int)):=by omega
   have eg:(if ms=[]∨¬ s.kids.length=ms.length then (-1:Int) else Ft (Hk T v ms s.kids))=-1:=if_pos (.inr hl)
   rw[eg]
   simp[h0,h0',hl']
theorem UH (S:JT n) (hN:2000000≤N) (t:Int):Ca N (DD n) t=some ((GS n.decls t).map (Nl n.decls)):=by
 have hD:=S.QV
 have hn:=S.nc
 have hcl:=OK S.W2 t
 unfold Ca
 rw[show (DD n).decls=n.decls from rfl,Qr (by omega) (by omega) hN]
 simp only[Option.bind_some]
 have hm :∀c∈GS n.decls t,FL N n.decls c=some (Nl n.decls c):=fun c hc=>(Q8 S hc hN).2.1
 generalize GS n.decls t=C at hcl hm
 have key :∀{M i:Nat},i≤C.length→C.length - i < M→BV N (DD n) C M i ((C.take i).map (Nl n.decls))=some (C.map (Nl n.decls)):=by
  intro M i hi hM
  refine Bn C.length (fun M i=>BV N (DD n) C M i ((C.take i).map (Nl n.decls))=some (C.map (Nl n.decls))) ?_ ?_ hi hM
  ·intro q;rw[BV,if_neg (by simp[AU]),List.take_length]
  ·intro q i hi ih
   obtain⟨c,hc,hcm⟩:=Bl hi
   rw[BV,if_pos (by simp[AU];omega),A4 hc]
   simp only[Option.bind_some]
   rw[show (DD n).decls=n.decls from rfl,hm c hcm]
   simp only[Option.bind_some]
   rw[Dp _ _ _ (by simp;omega) (by simp;omega),BJ (by omega) (by omega),show ((i:Int) + 1)=((i+1:Nat):Int) by omega]
   simp only[Option.bind_some]
   rw[← ih,Ee hc,List.map_append];rfl
 have:=key (Nat.zero_le _) (by omega:C.length - 0 < N)
 rw[show ((0:Nat):Int)=0 from rfl,List.take_zero,List.map_nil] at this
 rw[this];rfl
end
end RC



namespace RC
open Go
def Bt (N:Nat) (rec_spec_blockType:Aj→(List Int)→Block→Option (Int)) (p0:Aj) (p1:(List Int)) (p2:Step):Option (Int):=
 Sh.cont (
  if (decide (p2.op=0))=true then
   Option.bind (
    if (decide ((Sh.len p2.args)=0))=true then
     Option.bind (BT p2.num (-999) 999) fun q20=>
     some q20
    else
     some false
   ) fun t15=>
   if t15=true then
    some (Sum.inl 0)
   else
    some (Sum.inr ())
  else
   Option.bind (
    if (decide (p2.op=1))=true then
     some true
    else
    if (decide (p2.op=2))=true then
     some true
    else
    if (decide (p2.op=3))=true then
     some true
    else
     some (decide (p2.op=4))
   ) fun t22=>
   if t22=true then
    Option.bind (Bd N p1 p2.args [(0:Int),0]) fun q26=>
    if q26=true then
     some (Sum.inl 0)
    else
     some (Sum.inr ())
   else
   if (decide (p2.op=5))=true then
    Option.bind (Bd N p1 p2.args [(0:Int)]) fun q32=>
    if q32=true then
     some (Sum.inl 0)
    else
     some (Sum.inr ())
   else
   if (decide (p2.op=6))=true then
    Option.bind (
     Option.bind (CO N p0.decls p2.num) fun q43=>
     if (decide (0 < q43))=true then
      Option.bind (C0 N p0.decls p2.num) fun q45=>
      Option.bind (Bd N p1 p2.args q45) fun q46=>
      some q46
     else
      some false
    ) fun t38=>
    if t38=true then
     Option.bind (CO N p0.decls p2.num) fun q42=>
     some (Sum.inl q42)
    else
     some (Sum.inr ())
   else
   if (decide (p2.op=7))=true then
    Option.bind (Bd N p1 p2.args [(0:Int)]) fun q50=>
    if q50=true then
     Option.bind (Ev N rec_spec_blockType p0 p1 p2) fun q53=>
     some (Sum.inl q53)
    else
     some (Sum.inr ())
   else
   if (decide (p2.op=8))=true then
    Option.bind (Bd N p1 p2.args [p2.num]) fun q57=>
    if q57=true then
     Option.bind (Ev N rec_spec_blockType p0 p1 p2) fun q60=>
     some (Sum.inl q60)
    else
     some (Sum.inr ())
   else
    Option.bind (
     if (decide (p2.op=9))=true then
      some true
     else
      some (decide (p2.op=10))
    ) fun t62=>
    if t62=true then
     Option.bind (Dm N p0 p1 p2) fun q66=>
     some (Sum.inl q66)
    else
    if (decide (p2.op=11))=true then
     Option.bind (
      if (decide ((Sh.len p2.args)=2))=true then
       Option.bind (Sh.get p2.args 0) fun c79=>
       Option.bind (BT c79 0 (Sh.w ((Sh.len p1) - 1))) fun q80=>
       if q80=true then
        Option.bind (Sh.get p1 c79) fun c82=>
        Option.bind (Fo p0.decls c82) fun q83=>
        some q83
       else
        some false
      else
       some false
     ) fun t70=>
     if t70=true then
      Option.bind (Sh.get p2.args 0) fun c74=>
      Option.bind (Sh.get p1 c74) fun c75=>
      Option.bind (Sh.get p0.decls (Sh.w (c75 - 1))) fun c76=>
      Option.bind (Sh.sl p2.args 1 (Sh.len p2.args)) fun l79=>
      Option.bind (Bd N p1 l79 [c76.from_]) fun q80=>
      if q80=true then
       some (Sum.inl c76.to)
      else
       some (Sum.inr ())
     else
      some (Sum.inr ())
    else
     Option.bind (
      if (decide (p2.op=14))=true then
       some true
      else
      if (decide (p2.op=15))=true then
       some true
      else
      if (decide (p2.op=16))=true then
       some true
      else
       some (decide (p2.op=17))
     ) fun t85=>
     if t85=true then
      Option.bind (Ec p0 p1 p2) fun q89=>
      some (Sum.inl q89)
     else
      some (Sum.inr ())
 ) (id) fun ()=>
 some (-1)
def CN (N:Nat) (rec_impl_signatures_blockType:A1→(List Int)→Block→Option (Int)) (p0:A1) (p1:(List Int)) (p2:Step) (l8:List Int):Option (Int×Bool):=
 Option.bind (CG p2.op) fun q18=>
 if q18=true then
  Option.bind (
   if (decide ((Sh.len l8)=1))=true then
    Option.bind (Sh.get l8 0) fun c38=>
    if (!decide (c38=0))=true then
     if (decide (p2.num=0))=true then
      some (decide ((Sh.len p2.kids)=0))
     else
      some false
    else
     some false
   else
    some false
  ) fun ok21=>
  Option.bind (
   Option.bind (
    if ok21=true then
     if (decide (p2.op=16))=true then
      some true
     else
      some (decide (p2.op=17))
    else
     some false
   ) fun t28=>
   if t28=true then
    Option.bind (Sh.get l8 0) fun c32=>
    Option.bind (Fm p0.decls c32) fun q33=>
    some (!q33.2)
   else
    some ok21
  ) fun ok24=>
  some (-1,ok24)
 else
 if (decide (p2.op=7))=true then
  Option.bind (
   if (!decide ((Sh.len l8)=1))=true then
    some true
   else
    Option.bind (Sh.get l8 0) fun c53=>
    if (!decide (c53=0))=true then
     some true
    else
    if (!decide (p2.num=0))=true then
     some true
    else
     some (!decide ((Sh.len p2.kids)=2))
  ) fun t45=>
  if t45=true then
   some (-1,false)
  else
   Option.bind (Sh.mk [] 2 24) fun l50=>
   Option.bind (Bu N rec_impl_signatures_blockType p0 p1 p2.kids l50) fun q51=>
   some (q51.1,q51.2)
 else
 if (decide (p2.op=8))=true then
  Option.bind (Ca N p0 p2.num) fun q59=>
  Option.bind (
   if (!decide ((Sh.len l8)=1))=true then
    some true
   else
    Option.bind (Sh.get l8 0) fun c69=>
    if (!decide (c69=p2.num))=true then
     some true
    else
    if (decide ((Sh.len q59)=0))=true then
     some true
    else
     some (!decide ((Sh.len p2.kids)=(Sh.len q59)))
  ) fun t62=>
  if t62=true then
   some (-1,false)
  else
   Option.bind (Bu N rec_impl_signatures_blockType p0 p1 p2.kids q59) fun q67=>
   some (q67.1,q67.2)
 else
  Option.bind (
   if (decide (0 < (Sh.len p2.kids)))=true then
    some true
   else
   if (decide (p2.op=10))=true then
    if (decide (0≤p2.num))=true then
     if (decide (p2.num < (Sh.len p0.funcs)))=true then
      Option.bind (Sh.get p0.funcs p2.num) fun c83=>
      some (decide (0 < (Sh.len c83.At)))
     else
      some false
    else
     some false
   else
    some false
  ) fun t73=>
  if t73=true then
   some (-1,false)
  else
   Option.bind (Av N p0 p2.op p2.num l8) fun q78=>
   some (q78.1,q78.2)
def Dj (p1:(List Int)) (p2:Step):Option Bool:=
  if (!decide (p2.Ax=0))=true then
   if (!decide (p2.op=6))=true then
    some true
   else
   if (decide (p2.Ax < 1))=true then
    some true
   else
   if (decide ((Sh.len p1) < p2.Ax))=true then
    some true
   else
    Option.bind (Sh.get p1 (Sh.w (p2.Ax - 1))) fun c88=>
    some (decide (c88=0))
  else
   some false
section
variable {n : Aj} {R1 : Aj → List Int → Block → Option Int} {R2 : A1 → List Int → Block → Option Int} {T : List Int → Block → Int} {s : Step} {v : List Int} {N : Nat}
theorem V7 (hv :∀x∈v,Ck n.decls x=true) (hl:v.length≤1048576) :∃b,BU v s=some b∧Dj v s=some (!b):=by
 unfold BU Dj
 by_cases h0:s.Ax=0
 ·exact⟨true,by simp[h0],by simp[h0]⟩
 ·by_cases h6:s.op=6
  ·by_cases hr:1≤s.Ax∧s.Ax≤(v.length:Int)
   ·have hw:Sh.w (s.Ax - 1)=s.Ax - 1:=BJ (by omega) (by omega)
    obtain⟨x,x1,x2⟩:=Kz (l:=v) (j:=s.Ax - 1) (by omega) (by omega)
    have hx:=(LQ (hv x (List.mem_of_getElem? x2))).1
    have r1:¬ s.Ax < 1:=by omega
    have r2:¬ (v.length:Int) < s.Ax:=by omega
    rw[CB,hw,x1,AU]
    by_cases q:x=0
    ·exact⟨false,by simp[h0,h6,hr.1,hr.2,q],by simp[h0,h6,r1,r2,q]⟩
    ·have q':0 < x:=by omega
     exact⟨true,by simp[h0,h6,hr.1,hr.2,q'],by simp[h0,h6,r1,r2,q]⟩
   ·refine⟨false,?_,?_⟩
    ·rw[CB,AU]
     have:(decide (1≤s.Ax) && decide (s.Ax≤(v.length:Int)))=false:=by
      rw[Bool.and_eq_false_iff,decide_eq_false_iff_not,decide_eq_false_iff_not];omega
     rw[this];simp[h0,h6]
    ·rw[AU]
     by_cases r1:s.Ax < 1
     ·simp[h0,h6,r1]
     ·have r2:(v.length:Int) < s.Ax:=by omega
      simp[h0,h6,r1,r2]
  ·exact⟨false,by simp[h0,h6],by simp[h0,h6]⟩
def Ku (o:Int):Bool:=decide (o=0∨o=6∨o=8∨o=9∨o=10)
theorem Vs (o:Int):HG o=some (Ku o):=by
 unfold HG Ku
 by_cases h0:o=0
 ·simp[h0]
 by_cases h6:o=6
 ·simp[h6]
 by_cases h8:o=8
 ·simp[h8]
 by_cases h9:o=9
 ·simp[h9]
 simp[h0,h6,h8,h9]
def FN (b:Bool) (s:Step):Bool:=((decide (s.num=0) || Ku s.op) && b) && (decide (s.kids=[]) || (decide (s.op=7) || decide (s.op=8)))
theorem Jw {b:Bool} (hb:BU v s=some b):Dz N R1 n v s=if FN b s=true then Bt N R1 n v s else some (-1):=by
 have e:Dz N R1 n v s=Option.bind (
  if (!decide (s.num=0))=true then
   Option.bind (HG s.op) fun q105=>
   if (!q105)=true then some true
   else Option.bind (BU v s) fun q107=>if (!q107)=true then some true else if (decide (0 < (Sh.len s.kids)))=true then (if (!decide (s.op=7))=true then some (!decide (s.op=8)) else some false) else some false
  else Option.bind (BU v s) fun q111=>if (!q111)=true then some true else if (decide (0 < (Sh.len s.kids)))=true then (if (!decide (s.op=7))=true then some (!decide (s.op=8)) else some false) else some false) fun t4=>if t4=true then some (-1) else Bt N R1 n v s:=rfl
 rw[e,Vs,hb]
 have hk:(if (decide (0 < (Sh.len s.kids)))=true then (if (!decide (s.op=7))=true then some (!decide (s.op=8)) else some false) else some false)=some (!(decide (s.kids=[]) || (decide (s.op=7) || decide (s.op=8)))):=by
  cases hk:s.kids with
  | nil=>simp[AU]
  | cons a r=>
   have:decide ((0:Int) < Sh.len (a :: r))=true:=decide_eq_true (by rw[AU,List.length_cons];omega)
   rw[this]
   by_cases h7:s.op=7
   ·simp[h7]
   ·simp[h7]
 simp only[Option.bind_some]
 rw[hk]
 unfold FN
 cases decide (s.num=0) <;> cases Ku s.op <;> cases b <;> cases (decide (s.kids=[]) || (decide (s.op=7) || decide (s.op=8))) <;> simp
theorem J7 (hl:v.length≤1048576) (ha:s.args.length≤1048576) (hN:2000000≤N) {b:Bool} (hb:Dj v s=some (!b)) :
  Bj N R2 (DD n) v s=(CD v s.args).elim (some (-1,false)) fun l=>if b=true then CN N R2 (DD n) v s l else some (-1,false):=by
 have e:Bj N R2 (DD n) v s=Option.bind (Sh.mk (0:Nat) (Sh.len s.args) 8) fun l3=>Sh.cont (BP v s N 0 []) (id) fun l8=>Option.bind (Dj v s) fun t12=>if t12=true then some (-1,false) else CN N R2 (DD n) v s l8:=rfl
 rw[e,AU,LZ _ _ _ (by omega) (by omega),WC hl ha hN,hb]
 cases CD v s.args with
 | none=>rfl
 | some l=>cases b <;> simp[Sh.cont]
def HV (n:Aj) (R1:Aj→List Int→Block→Option Int) (R2:A1→List Int→Block→Option Int) (N:Nat) (v:List Int) (s:Step):Prop:=
 ∃(q t:Int) (ok:Bool),Dz N R1 n v s=some q∧Bj N R2 (DD n) v s=some (t,ok)∧(if ok=true then 0≤q∧(if L9 s.op=true then True else t=q∧Ck n.decls q=true∧0≤s.op∧s.op≤11) else q < 0)
theorem FC {q t:Int} {ok:Bool} (h1:Dz N R1 n v s=some q) (h2:Bj N R2 (DD n) v s=some (t,ok)) (h3:ok=false) (h4:q < 0):HV n R1 R2 N v s:=⟨q,t,ok,h1,h2,by rw[h3];exact h4⟩
theorem Yh {q:Int} (h1:Dz N R1 n v s=some q) (h2:Bj N R2 (DD n) v s=some (q,true)) (h3:Ck n.decls q=true) (h4:0≤s.op) (h5:s.op≤11):HV n R1 R2 N v s:=
 ⟨q,q,true,h1,h2,by
  have:L9 s.op=false:=by unfold L9;rw[Bool.and_eq_false_iff,decide_eq_false_iff_not,decide_eq_false_iff_not];omega
  rw[if_pos rfl,if_neg (by rw[this];simp)]
  exact⟨(LQ h3).1,rfl,h3,h4,h5⟩⟩
theorem FT (V:SK n s v) (hN:2000000≤N) {b:Bool} (hb1:BU v s=some b) (hb2:Dj v s=some (!b)) (h0:0≤s.op) (h5:s.op≤11) {want:List Int} {c:Bool} {t:Int} (ht:c=true→Ck n.decls t=true)
  (hs:FN b s=true→Bt N R1 n v s=some (if c=true∧CD v s.args=some want then t else -1))
  (hi :∀l,CD v s.args=some l→FN b s=true→∃t',CN N R2 (DD n) v s l=some (t',c && decide (l=want))∧(c=true→l=want→t'=t))
  (hi2 :∀l,CD v s.args=some l→FN b s=false→b=true→∃t',CN N R2 (DD n) v s l=some (t',false)):HV n R1 R2 N v s:=by
 have hl:v.length≤1048576:=by have:=V.KK;omega
 have e1:=Jw (n:=n) (R1:=R1) (N:=N) hb1
 have e2:=J7 (n:=n) (R2:=R2) hl V.KY hN hb2
 cases hA:CD v s.args with
 | none=>
  rw[hA] at e2 hs
  refine FC (q:=-1) ?_ e2 rfl (by omega)
  rw[e1]
  by_cases hp:FN b s=true
  ·rw[if_pos hp,hs hp];simp
  ·rw[if_neg hp]
 | some l=>
  rw[hA] at e2 hs
  simp only[Option.elim_some] at e2
  cases hp:FN b s with
  | false=>
   rw[hp] at e1
   simp only[Bool.false_eq_true,if_false] at e1
   cases b with
   | false=>exact FC e1 e2 rfl (by omega)
   | true=>
    obtain⟨t',h7⟩:=hi2 l hA hp rfl
    simp only[if_true] at e2
    exact FC e1 (e2.trans h7) rfl (by omega)
  | true=>
   rw[hp] at e1
   simp only[if_true] at e1
   have hbt:b=true:=by
    unfold FN at hp
    simp only[Bool.and_eq_true] at hp
    exact hp.1.2
   rw[hbt] at e2
   simp only[if_true] at e2
   obtain⟨t',h7,h8⟩:=hi l hA hp
   by_cases hc:c=true∧l=want
   ·have ht':=h8 hc.1 hc.2
    rw[hs hp,if_pos ⟨hc.1,by rw[hc.2]⟩] at e1
    rw[h7,ht',hc.1,hc.2] at e2
    simp only[decide_true,Bool.and_self] at e2
    exact Yh e1 e2 (ht hc.1) h0 h5
   ·rw[hs hp,if_neg (by rintro⟨q1,q2⟩;exact hc ⟨q1,by simpa using q2⟩)] at e1
    refine FC e1 (e2.trans h7) ?_ (by omega)
    cases c with
    | false=>rfl
    | true=>simp only[true_and] at hc;simp[hc]
end
end RC



namespace RC
open Go
section
variable {n : Aj} {R1 : Aj → List Int → Block → Option Int} {R2 : A1 → List Int → Block → Option Int} {T : List Int → Block → Int} {s : Step} {v : List Int} {N : Nat} {b : Bool}
theorem FJ {v args l:List Int} (h:CD v args=some l):l.length=args.length:=(Kp.1 h).1.symm
theorem UJ (h0:0≤s.op) (h5:s.op≤11):CG s.op=some false:=by
 rw[Ju]
 have:L9 s.op=false:=by unfold L9;rw[Bool.and_eq_false_iff,decide_eq_false_iff_not,decide_eq_false_iff_not];omega
 rw[this]
theorem Ct {l:List Int} {t:Int} {ok:Bool} (h0:0≤s.op) (h5:s.op≤11) (h7:¬ s.op=7) (h8:¬ s.op=8) (h10:¬ s.op=10) (hk:s.kids=[]) (hs:Av N (DD n) s.op s.num l=some (t,ok)):CN N R2 (DD n) v s l=some (t,ok):=by
 unfold CN
 rw[UJ h0 h5]
 simp only[Option.bind_some,Bool.false_eq_true,if_false,h7,h8,h10,decide_false]
 rw[hs,hk]
 simp[AU]
theorem H8 {l:List Int} (h0:0≤s.op) (h5:s.op≤11) (h7:¬ s.op=7) (h8:¬ s.op=8) (hk:¬ s.kids=[]):CN N R2 (DD n) v s l=some (-1,false):=by
 unfold CN
 rw[UJ h0 h5]
 have:decide ((0:Int) < Sh.len s.kids)=true:=by
  cases hq:s.kids with
  | nil=>exact absurd hq hk
  | cons a r=>exact decide_eq_true (by rw[AU,List.length_cons];omega)
 simp only[Option.bind_some,Bool.false_eq_true,if_false,h7,h8,decide_false,this,if_true]
theorem FE (h7:¬ s.op=7) (h8:¬ s.op=8) (hp:FN b s=true):s.kids=[]:=by
 unfold FN at hp
 simp only[Bool.and_eq_true,Bool.or_eq_true,decide_eq_true_eq,h7,h8,or_false] at hp
 exact hp.2
theorem Kq (h7:¬ s.op=7) (h8:¬ s.op=8) (hp:FN b s=false) (hb:b=true):¬ s.kids=[]∨(¬ s.num=0∧Ku s.op=false):=by
 by_cases hk:s.kids=[]
 ·right
  unfold FN at hp
  simp only[hb,hk,decide_true,Bool.and_true,Bool.true_or,Bool.or_eq_false_iff,decide_eq_false_iff_not] at hp
  exact hp
 ·exact .inl hk
theorem SA (hn:Ku s.op=false) (hp:FN b s=true):s.num=0:=by
 unfold FN at hp
 simp only[Bool.and_eq_true,Bool.or_eq_true,decide_eq_true_eq,hn,Bool.false_eq_true,or_false] at hp
 exact hp.1.1
theorem Za (V:SK n s v) (hN:2000000≤N) (hb1:BU v s=some b) (hb2:Dj v s=some (!b)) (h:s.op=0):HV n R1 R2 N v s:=by
 have ha:=V.KY
 refine FT V hN hb1 hb2 (by omega) (by omega) (want:=[]) (c:=decide (-999≤s.num) && decide (s.num≤999)) (t:=0) (fun _=>cO) (fun hp=>?_) (fun l hA hp=>⟨0,?_,fun _ _=>rfl⟩) (fun l hA hp hb=>?_)
 ·have e1:(CD v s.args=some [])↔s.args=[]:=by
   constructor
   ·intro q;exact List.eq_nil_of_length_eq_zero (FJ q).symm
   ·intro q;rw[q];rfl
  unfold Bt
  simp only[h,decide_true,if_true,MZ,CB,e1]
  by_cases a:-999≤s.num <;> by_cases c:s.num≤999 <;> by_cases d:s.args=[] <;> simp[a,c,d,Sh.cont]
 ·exact Ct (by omega) (by omega) (by omega) (by omega) (by omega) (FE (by omega) (by omega) hp) (XI h)
 ·rcases Kq (by omega) (by omega) hp hb with q | q
  ·exact⟨_,H8 (by omega) (by omega) (by omega) (by omega) q⟩
  ·rw[h] at q;exact absurd q.2 (by decide)
theorem XU (V:SK n s v) (hN:2000000≤N) (hb1:BU v s=some b) (hb2:Dj v s=some (!b)) (h:s.op=1∨s.op=2∨s.op=3∨s.op=4):HV n R1 R2 N v s:=by
 have ha:=V.KY
 have hvl:=V.KK
 have hh:Ku s.op=false:=by rcases h with h | h | h | h <;> rw[h] <;> decide
 refine FT V hN hb1 hb2 (by omega) (by omega) (want:=[0,0]) (c:=decide (s.num=0)) (t:=0) (fun _=>cO) (fun hp=>?_) (fun l hA hp=>⟨0,?_,fun _ _=>rfl⟩) (fun l hA hp hb=>?_)
 ·have hn:=SA hh hp
  have e2:Bd N v s.args [0,0]=some (decide (CD v s.args=some [0,0])):=H9 (by omega) ha hN
  unfold Bt
  rcases h with h | h | h | h <;> simp only[h,Int.reduceEq,decide_true,decide_false,Bool.false_eq_true,if_true,if_false,Option.bind_some] <;> rw[e2] <;> by_cases q:CD v s.args=some [0,0] <;> simp[q,hn,Sh.cont]
 ·have hl:=FJ hA
  exact Ct (by omega) (by omega) (by omega) (by omega) (by omega) (FE (by omega) (by omega) hp) (QL (by omega) hN h)
 ·have hl:=FJ hA
  by_cases hk:s.kids=[]
  ·rcases Kq (by omega) (by omega) hp hb with q | q
   ·exact absurd hk q
   ·exact⟨0,Ct (by omega) (by omega) (by omega) (by omega) (by omega) hk (by rw[show (DD n)=⟨n.decls,(DD n).funcs⟩ from rfl,QL (by omega) hN h];simp[q.1])⟩
  ·exact⟨_,H8 (by omega) (by omega) (by omega) (by omega) hk⟩
theorem XE (V:SK n s v) (hN:2000000≤N) (hb1:BU v s=some b) (hb2:Dj v s=some (!b)) (h:s.op=5):HV n R1 R2 N v s:=by
 have ha:=V.KY
 have hvl:=V.KK
 have hh:Ku s.op=false:=by rw[h];decide
 refine FT V hN hb1 hb2 (by omega) (by omega) (want:=[0]) (c:=decide (s.num=0)) (t:=0) (fun _=>cO) (fun hp=>?_) (fun l hA hp=>⟨0,?_,fun _ _=>rfl⟩) (fun l hA hp hb=>?_)
 ·have hn:=SA hh hp
  have e2:Bd N v s.args [0]=some (decide (CD v s.args=some [0])):=H9 (by omega) ha hN
  unfold Bt
  simp only[h,Int.reduceEq,decide_true,decide_false,Bool.false_eq_true,if_true,if_false,Option.bind_some]
  rw[e2]
  by_cases q:CD v s.args=some [0] <;> simp[q,hn,Sh.cont]
 ·have hl:=FJ hA
  exact Ct (by omega) (by omega) (by omega) (by omega) (by omega) (FE (by omega) (by omega) hp) (QQ (by omega) hN h)
 ·have hl:=FJ hA
  by_cases hk:s.kids=[]
  ·rcases Kq (by omega) (by omega) hp hb with q | q
   ·exact absurd hk q
   ·exact⟨0,Ct (by omega) (by omega) (by omega) (by omega) (by omega) hk (by rw[show (DD n)=⟨n.decls,(DD n).funcs⟩ from rfl,QQ (by omega) hN h];simp[q.1])⟩
  ·exact⟨_,H8 (by omega) (by omega) (by omega) (by omega) hk⟩
theorem ZC (h:Gt s):IF s.num:=by cases h;assumption
theorem Z3 (V:SK n s v) (S:JT n) (hN:2000000≤N) (hb1:BU v s=some b) (hb2:Dj v s=some (!b)) (h:s.op=6):HV n R1 R2 N v s:=by
 have ha:=V.KY
 have hvl:=V.KK
 have hI:=ZC V.Xf
 have hbad :∀l,CD v s.args=some l→FN b s=false→b=true→∃t',CN N R2 (DD n) v s l=some (t',false):=fun l hA hp hb=>by
  rcases Kq (by omega) (by omega) hp hb with q | q
  ·exact⟨_,H8 (by omega) (by omega) (by omega) (by omega) q⟩
  ·rw[h] at q;exact absurd q.2 (by decide)
 have hcase:(∃t x,0 < t∧Ck n.decls t=true∧CO N n.decls s.num=some t∧C0 N n.decls s.num=some x)∨CO N n.decls s.num=some (-1):=by
  rcases PU (G:=(DD n).funcs) (ks:=[]) S (by simp) hI hN h with ⟨t,x,q1,q2,q3,q4,q5,q6⟩ | ⟨q1,q2⟩
  ·exact .inl ⟨t,x,q1,q2,q4,q5⟩
  ·exact .inr q1
 rcases hcase with ⟨t,x,q1,q2,q4,q5⟩ | q1
 ·refine FT V hN hb1 hb2 (by omega) (by omega) (want:=x) (c:=true) (t:=t) (fun _=>q2) (fun hp=>?_) (fun l hA hp=>⟨t,?_,fun _ _=>rfl⟩) hbad
  ·have e2:Bd N v s.args x=some (decide (CD v s.args=some x)):=H9 (by omega) ha hN
   unfold Bt
   simp only[h,Int.reduceEq,decide_true,decide_false,Bool.false_eq_true,if_true,if_false,Option.bind_some]
   rw[q4,q5]
   simp only[Option.bind_some]
   rw[e2]
   by_cases q:CD v s.args=some x <;> simp[q,q1,Sh.cont]
  ·have hl:=FJ hA
   refine Ct (by omega) (by omega) (by omega) (by omega) (by omega) (FE (by omega) (by omega) hp) ?_
   rcases PU (G:=(DD n).funcs) (ks:=l) S (by omega) hI hN h with ⟨t',x',p1,p2,p3,p4,p5,p6⟩ | ⟨p1,p2⟩
   ·rw[q4] at p4;rw[q5] at p5
    cases p4;cases p5
    rw[Bool.true_and];exact p6
   ·rw[q4] at p1;cases p1;omega
 ·refine FT V hN hb1 hb2 (by omega) (by omega) (want:=[]) (c:=false) (t:=0) (fun q=>nomatch q) (fun hp=>?_) (fun l hA hp=>⟨-1,?_,fun q=>nomatch q⟩) hbad
  ·unfold Bt
   simp only[h,Int.reduceEq,decide_true,decide_false,Bool.false_eq_true,if_true,if_false,Option.bind_some]
   rw[q1]
   simp[Sh.cont]
  ·have hl:=FJ hA
   refine Ct (by omega) (by omega) (by omega) (by omega) (by omega) (FE (by omega) (by omega) hp) ?_
   rcases PU (G:=(DD n).funcs) (ks:=l) S (by omega) hI hN h with ⟨t',x',p1,p2,p3,p4,p5,p6⟩ | ⟨p1,p2⟩
   ·rw[q1] at p4;cases p4;omega
   ·rw[Bool.false_and];exact p2
end
end RC



namespace RC
open Go
section
variable {n : Aj} {R1 : Aj → List Int → Block → Option Int} {R2 : A1 → List Int → Block → Option Int} {T : List Int → Block → Int} {s : Step} {v : List Int} {N : Nat} {b : Bool}
theorem VD :∀m∈([[],[]]:List (List Int)),m.length≤3∧∀x∈m,Ck n.decls x=true:=fun m hm=>by
 simp at hm;subst hm;simp
theorem Wj {o:Int} (h0:0≤s.op) (h5:s.op≤11) (ho:o=-1∨Ck n.decls o=true) (h1:Dz N R1 n v s=some o) (h2:Bj N R2 (DD n) v s=some (if o < 0 then (-1,false) else (o,true))):HV n R1 R2 N v s:=by
 by_cases h:o < 0
 ·rw[if_pos h] at h2
  exact FC h1 h2 rfl h
 ·rw[if_neg h] at h2
  refine Yh h1 h2 ?_ h0 h5
  rcases ho with q | q
  ·omega
  ·exact q
theorem Wx (H:SN n R1 R2 T (Oh s)) (V:SK n s v) {ms:List (List Int)} (hm :∀m∈ms,m.length≤3∧∀x∈m,Ck n.decls x=true):Ft (Hk T v ms s.kids)=-1∨Ck n.decls (Ft (Hk T v ms s.kids))=true:=by
 rcases S5 (ts:=Hk T v ms s.kids) with z | z
 ·exact .inl z
 ·exact RB H V hm _ z
theorem cM (H:SN n R1 R2 T (Oh s)) (V:SK n s v) (S:JT n) (hN:2000000≤N) (hb1:BU v s=some b) (hb2:Dj v s=some (!b)) (h:s.op=7):HV n R1 R2 N v s:=by
 have hl:v.length≤1048576:=by have:=V.KK;omega
 have e1:=Jw (n:=n) (R1:=R1) (N:=N) hb1
 have e2:=J7 (n:=n) (R2:=R2) hl V.KY hN hb2
 have ht:Bd N v s.args [0]=some (decide (CD v s.args=some [0])):=H9 hl V.KY hN
 have hp:FN b s=(decide (s.num=0) && b):=by
  unfold FN
  rw[h,show Ku 7=false by decide]
  simp
 have hcore:Bt N R1 n v s=some (if CD v s.args=some [0] then (if s.kids.length=2 then Ft (Hk T v [[],[]] s.kids) else -1) else -1):=by
  unfold Bt
  simp only[h,Int.reduceEq,decide_true,decide_false,Bool.false_eq_true,if_true,if_false,Option.bind_some]
  rw[ht,RP H V S hN (.inl ⟨h,rfl⟩)]
  by_cases q:CD v s.args=some [0]
  ·by_cases q2:s.kids.length=2 <;> simp[q,q2,Sh.cont]
  ·simp[q,Sh.cont]
 rw[hp,hcore] at e1
 cases hA:CD v s.args with
 | none=>
  rw[hA] at e1 e2
  refine FC (q:=-1) ?_ e2 rfl (by omega)
  rw[e1];simp
 | some l=>
  rw[hA] at e1 e2
  simp only[Option.elim_some] at e2
  have ilen:decide (Sh.len l=1)=decide (l.length=1):=decide_eq_decide.2 (by rw[AU];omega)
  cases b with
  | false=>
   refine FC (q:=-1) ?_ e2 rfl (by omega)
   rw[e1];simp
  | true=>
   simp only[if_true] at e2
   have hc:CN N R2 (DD n) v s l=if l=[0]∧s.num=0∧s.kids.length=2 then some (if Ft (Hk T v [[],[]] s.kids) < 0 then (-1,false) else (Ft (Hk T v [[],[]] s.kids),true)) else some (-1,false):=by
    unfold CN
    rw[UJ (by omega) (by omega),ilen]
    simp only[Option.bind_some,Bool.false_eq_true,if_false,h,decide_true,if_true]
    match l with
    | []=>simp
    | [x]=>
     have Rq:decide (Sh.len s.kids=2)=decide (s.kids.length=2):=decide_eq_decide.2 (by rw[AU];omega)
     rw[show Sh.get [x] 0=some x from rfl,Rq]
     simp only[Option.bind_some]
     by_cases q1:x=0
     ·by_cases q2:s.num=0
      ·by_cases q3:s.kids.length=2
       ·have mk2:Sh.mk ([]:List Int) 2 24=some [[],[]]:=LZ [] 2 24 (by omega) (by omega)
        rw[mk2]
        have ik:=SG (ms:=[[],[]]) H V hN (by rw[q3];rfl) (by simp) (by simp) VD
        simp only[Option.bind_some]
        rw[ik]
        by_cases z:Ft (Hk T v [[],[]] s.kids) < 0 <;> simp[q1,q2,q3,z]
       ·simp[q1,q2,q3]
      ·simp[q1,q2]
     ·simp[q1]
    | x :: y :: r=>simp
   rw[hc] at e2
   by_cases q:l=[0]∧s.num=0∧s.kids.length=2
   ·rw[if_pos q] at e2
    refine Wj (by omega) (by omega) (Wx H V VD) ?_ e2
    rw[e1];simp[q.1,q.2.1,q.2.2]
   ·rw[if_neg q] at e2
    refine FC (q:=-1) ?_ e2 rfl (by omega)
    rw[e1]
    by_cases q1:s.num=0
    ·by_cases q2:l=[0]
     ·have q3:¬ s.kids.length=2:=fun z=>q ⟨q2,q1,z⟩
      simp[q1,q2,q3]
     ·simp[q1,q2]
    ·simp[q1]
theorem XS (H:SN n R1 R2 T (Oh s)) (V:SK n s v) (S:JT n) (hN:2000000≤N) (hb1:BU v s=some b) (hb2:Dj v s=some (!b)) (h:s.op=8):HV n R1 R2 N v s:=by
 have hl:v.length≤1048576:=by have:=V.KK;omega
 have e1:=Jw (n:=n) (R1:=R1) (N:=N) hb1
 have e2:=J7 (n:=n) (R2:=R2) hl V.KY hN hb2
 have ht:Bd N v s.args [s.num]=some (decide (CD v s.args=some [s.num])):=H9 hl V.KY hN
 have hp:FN b s=b:=by
  unfold FN
  rw[h,show Ku 8=true by decide]
  simp
 have hcl:=OK S.W2 s.num
 have hm :∀m∈(GS n.decls s.num).map (Nl n.decls),m.length≤3∧∀x∈m,Ck n.decls x=true:=fun m hm=>by
  obtain⟨c,hc,rfl⟩:=List.mem_map.1 hm
  exact (Q8 S hc hN).2.2
 have sk:=RP H V S hN (.inr ⟨h,rfl⟩)
 have af:=UH (n:=n) S hN s.num
 have hml:((GS n.decls s.num).map (Nl n.decls)).length≤10:=by simp;omega
 generalize (GS n.decls s.num).map (Nl n.decls)=ms at hm sk af hml
 have hcore:Bt N R1 n v s=some (if CD v s.args=some [s.num] then (if ms=[]∨¬ s.kids.length=ms.length then -1 else Ft (Hk T v ms s.kids)) else -1):=by
  unfold Bt
  simp only[h,Int.reduceEq,decide_true,decide_false,Bool.false_eq_true,if_true,if_false,Option.bind_some]
  rw[ht,sk]
  by_cases q:CD v s.args=some [s.num] <;> simp[q,Sh.cont]
 rw[hp,hcore] at e1
 cases hA:CD v s.args with
 | none=>
  rw[hA] at e1 e2
  refine FC (q:=-1) ?_ e2 rfl (by omega)
  rw[e1];simp
 | some l=>
  rw[hA] at e1 e2
  simp only[Option.elim_some] at e2
  have ilen:decide (Sh.len l=1)=decide (l.length=1):=decide_eq_decide.2 (by rw[AU];omega)
  cases b with
  | false=>
   refine FC (q:=-1) ?_ e2 rfl (by omega)
   rw[e1];simp
  | true=>
   simp only[if_true] at e1 e2
   have hc:CN N R2 (DD n) v s l=if l=[s.num]∧¬ ms=[]∧s.kids.length=ms.length then some (if Ft (Hk T v ms s.kids) < 0 then (-1,false) else (Ft (Hk T v ms s.kids),true)) else some (-1,false):=by
    unfold CN
    rw[UJ (by omega) (by omega),ilen,af]
    simp only[Option.bind_some,Bool.false_eq_true,if_false,h,Int.reduceEq,decide_false,decide_true,if_true,MZ]
    match l with
    | []=>simp
    | [x]=>
     have Rq:decide (Sh.len s.kids=Sh.len ms)=decide (s.kids.length=ms.length):=decide_eq_decide.2 (by rw[AU,AU];omega)
     rw[show Sh.get [x] 0=some x from rfl,Rq]
     simp only[Option.bind_some]
     by_cases q1:x=s.num
     ·by_cases q2:ms=[]
      ·simp[q1,q2]
      ·by_cases q3:s.kids.length=ms.length
       ·have ik:=SG (ms:=ms) H V hN q3.symm q2 hml hm
        rw[ik]
        by_cases z:Ft (Hk T v ms s.kids) < 0 <;> simp[q1,q2,q3,z]
       ·simp[q1,q2,q3]
     ·simp[q1]
    | x :: y :: r=>simp
   rw[hc] at e2
   by_cases q:l=[s.num]∧¬ ms=[]∧s.kids.length=ms.length
   ·rw[if_pos q] at e2
    refine Wj (by omega) (by omega) (Wx H V hm) ?_ e2
    rw[e1];simp[q.1,q.2.1,q.2.2]
   ·rw[if_neg q] at e2
    refine FC (q:=-1) ?_ e2 rfl (by omega)
    rw[e1]
    by_cases q2:l=[s.num]
    ·have q3:ms=[]∨¬ s.kids.length=ms.length:=by
      by_cases z:ms=[]
      ·exact .inl z
      ·exact .inr fun y=>q ⟨q2,z,y⟩
     rw[if_pos (by rw[q2]),if_pos q3]
    ·rw[if_neg (by simpa using q2)]
theorem S3 (hh:Ku s.op=true) (h0:0≤s.op) (h5:s.op≤11) (h7:¬ s.op=7) (h8:¬ s.op=8) :∀l,CD v s.args=some l→FN b s=false→b=true→∃t',CN N R2 (DD n) v s l=some (t',false):=fun l _ hp hb=>by
 rcases Kq h7 h8 hp hb with q | q
 ·exact⟨_,H8 h0 h5 h7 h8 q⟩
 ·rw[hh] at q;exact absurd q.2 (by decide)
theorem ZP (V:SK n s v) (S:JT n) (hN:2000000≤N) (hb1:BU v s=some b) (hb2:Dj v s=some (!b)) (h:s.op=9):HV n R1 R2 N v s:=by
 have hl:v.length≤1048576:=by have:=V.KK;omega
 have ha:=V.KY
 have hR:=S.Oi
 have hG:(DD n).funcs.length≤4:=by rw[Hb];exact hR
 have hbad:=S3 (n:=n) (R2:=R2) (N:=N) (v:=v) (b:=b) (s:=s) (by rw[h];decide) (by omega) (by omega) (by omega) (by omega)
 rcases Uu S s.num with ⟨r,r0,r1,r2,r3,r4,r5,r6⟩ | hr
 ·refine FT V hN hb1 hb2 (by omega) (by omega) (want:=r.params) (c:=true) (t:=r.result) (fun _=>r6) (fun hp=>?_) (fun l hA hp=>⟨r.result,?_,fun _ _=>rfl⟩) hbad
  ·have ht:Bd N v s.args r.params=some (decide (CD v s.args=some r.params)):=H9 hl ha hN
   have r1':s.num≤(n.AD.length:Int) - 1:=by omega
   unfold Bt Dm
   simp only[h,Int.reduceEq,decide_true,decide_false,Bool.false_eq_true,if_true,if_false,Option.bind_some]
   rw[CB,AU n.AD,BJ (n:=(n.AD.length:Int) - 1) (by omega) (by omega),r2]
   simp only[Option.bind_some,r0,r1',decide_true,Bool.and_self,Bool.not_true,Bool.false_eq_true,if_false]
   rw[ht]
   by_cases q:CD v s.args=some r.params <;> simp[q,Sh.cont]
  ·have hl2:=FJ hA
   refine Ct (by omega) (by omega) (by omega) (by omega) (by omega) (FE (by omega) (by omega) hp) ?_
   rw[Bool.true_and]
   exact WJ (D:=n.decls) (f:=⟨r.params,r.At,r.result⟩) (by omega) hG hN h r0 (by first | (rw[Hb];exact r1) | (rw[List.length_map];exact r1)) r3
 ·refine FT V hN hb1 hb2 (by omega) (by omega) (want:=[]) (c:=false) (t:=0) (fun q=>nomatch q) (fun hp=>?_) (fun l hA hp=>⟨-1,?_,fun q=>nomatch q⟩) hbad
  ·unfold Bt Dm
   simp only[h,Int.reduceEq,decide_true,decide_false,Bool.false_eq_true,if_true,if_false,Option.bind_some]
   rw[CB,AU n.AD,BJ (n:=(n.AD.length:Int) - 1) (by omega) (by omega)]
   have:(decide (0≤s.num) && decide (s.num≤(n.AD.length:Int) - 1))=false:=by
    rw[Bool.and_eq_false_iff,decide_eq_false_iff_not,decide_eq_false_iff_not];omega
   rw[this];simp[Sh.cont]
  ·refine Ct (by omega) (by omega) (by omega) (by omega) (by omega) (FE (by omega) (by omega) hp) ?_
   rw[Bool.false_and]
   exact Nt (D:=n.decls) hG (.inl h) (by first | (rw[Hb];exact hr) | (rw[List.length_map];exact hr))
theorem MU {l:List Int} {t:Int} {ok:Bool} {At:Bool} (h:s.op=10) (hk:s.kids=[]) (hle:(if decide (0≤s.num)=true then if decide (s.num < Sh.len (DD n).funcs)=true then Option.bind (Sh.get (DD n).funcs s.num) fun c83=>some (decide (0 < Sh.len c83.At)) else some false else some false)=some At)
  (hs:Av N (DD n) s.op s.num l=some (t,ok)):CN N R2 (DD n) v s l=if At=true then some (-1,false) else some (t,ok):=by
 unfold CN
 rw[UJ (by omega) (by omega),hs,hk]
 simp only[Option.bind_some,Bool.false_eq_true,if_false,h,Int.reduceEq,decide_false,decide_true,if_true]
 rw[show decide ((0:Int) < Sh.len ([]:List Block))=false from rfl]
 simp only[Bool.false_eq_true,if_false]
 rw[hle]
 cases At <;> rfl
theorem XB (V:SK n s v) (S:JT n) (hN:2000000≤N) (hb1:BU v s=some b) (hb2:Dj v s=some (!b)) (h:s.op=10):HV n R1 R2 N v s:=by
 have hl:v.length≤1048576:=by have:=V.KK;omega
 have ha:=V.KY
 have hR:=S.Oi
 have hD:=S.QV
 have hG:(DD n).funcs.length≤4:=by rw[Hb];exact hR
 have hbad:=S3 (n:=n) (R2:=R2) (N:=N) (v:=v) (b:=b) (s:=s) (by rw[h];decide) (by omega) (by omega) (by omega) (by omega)
 rcases Uu S s.num with ⟨r,r0,r1,r2,r3,r4,r5,r6⟩ | hr
 ·have r1':s.num≤(n.AD.length:Int) - 1:=by omega
  have hle:(if decide (0≤s.num)=true then if decide (s.num < Sh.len (DD n).funcs)=true then Option.bind (Sh.get (DD n).funcs s.num) fun c83=>some (decide (0 < Sh.len c83.At)) else some false else some false)=some (decide (¬ r.At=[])):=by
   rw[r3,AU,Hb]
   simp only[r0,r1,decide_true,if_true,Option.bind_some]
   cases r.At with
   | nil=>rfl
   | cons a q=>simp[AU] <;> omega
  have hcore :∀(X:Option Int),Bt N R1 n v s=Sh.cont (Option.bind (Option.bind (
     if decide (r.params=[])=true then some true
     else if decide (0 < Sh.len r.At)=true then some true
     else Option.bind (Sh.sl r.params 0 (Sh.w (Sh.len r.params - 1))) fun l36=>Option.bind (Bd N v s.args l36) fun q37=>some !q37) fun t25=>
     if t25=true then some (-1) else Option.bind (Sh.get r.params (Sh.w (Sh.len r.params - 1))) fun c30=>Option.bind (Gp N n.decls c30 r.result) fun q31=>some q31) fun q66=>some (Sum.inl q66)) id fun ()=>some (-1):=fun _=>by
   unfold Bt Dm
   simp only[h,Int.reduceEq,decide_true,decide_false,Bool.false_eq_true,if_true,if_false,Option.bind_some]
   rw[CB,AU n.AD,BJ (n:=(n.AD.length:Int) - 1) (by omega) (by omega),r2]
   simp only[Option.bind_some,r0,r1',decide_true,Bool.and_self,Bool.not_true,Bool.false_eq_true,if_false,MZ]
  have hcore:=hcore none
  have hlent:decide ((0:Int) < Sh.len r.At)=decide (¬ r.At=[]):=by
   cases r.At with
   | nil=>rfl
   | cons a q=>exact decide_eq_decide.2 (by rw[AU,List.length_cons];simp <;> omega)
  rw[hlent] at hcore
  by_cases hp0:r.params=[]
  ·refine FT V hN hb1 hb2 (by omega) (by omega) (want:=[]) (c:=false) (t:=0) (fun q=>nomatch q) (fun hp=>by rw[hcore];simp[hp0,Sh.cont]) (fun l hA hp=>⟨-1,?_,fun q=>nomatch q⟩) hbad
   have hl2:=FJ hA
   rcases QM (D:=n.decls) (G:=(DD n).funcs) (ks:=l) (N:=N) (f:=⟨r.params,r.At,r.result⟩) (by omega) hD hG r4 hN h r0 (by first | (rw[Hb];exact r1) | (rw[List.length_map];exact r1)) r3 with ⟨_,z⟩ | ⟨m,x,z,_⟩
   ·rw[MU h (FE (by omega) (by omega) hp) hle z]
    cases decide (¬ r.At=[]) <;> rfl
   ·exfalso;rw[hp0] at z;simp at z
  ·obtain⟨m,hm⟩ :∃m,r.params.length=m+1:=⟨r.params.length - 1,by have:=List.length_pos_iff.2 hp0;omega⟩
   obtain⟨x,hx,hxm⟩:=Bl (l:=r.params) (i:=m) (by omega)
   have hw:Sh.w (Sh.len r.params - 1)=(m:Int):=by rw[AU,BJ (by omega) (by omega)];omega
   have ht:Bd N v s.args (r.params.take m)=some (decide (CD v s.args=some (r.params.take m))):=H9 hl ha hN
   have hty:Gu x r.result n.decls 0=-1∨Ck n.decls (Gu x r.result n.decls 0)=true:=by
    rcases UL (a:=x) (b:=r.result) n.decls 0 with q | q
    ·exact .inl q
    ·right;unfold Ck;simp;omega
   rw[hw,UM (by omega),A4 hx] at hcore
   simp only[Option.bind_some] at hcore
   rw[Pf (by omega) hN,ht] at hcore
   simp only[Option.bind_some] at hcore
   refine FT V hN hb1 hb2 (by omega) (by omega) (want:=r.params.take m) (c:=decide (r.At=[]) && decide (0≤Gu x r.result n.decls 0)) (t:=Gu x r.result n.decls 0) (fun q=>?_) (fun hp=>?_) (fun l hA hp=>?_) hbad
   ·simp only[Bool.and_eq_true,decide_eq_true_eq] at q
    rcases hty with z | z
    ·omega
    ·exact z
   ·rw[hcore]
    by_cases c1:r.At=[]
    ·by_cases c2:CD v s.args=some (r.params.take m)
     ·by_cases c3:0≤Gu x r.result n.decls 0
      ·simp[hp0,c1,c2,c3,Sh.cont]
      ·have:Gu x r.result n.decls 0=-1:=by
        rcases hty with z | z
        ·exact z
        ·exact absurd (LQ z).1 c3
       simp[hp0,c1,c2,this,Sh.cont]
     ·simp[hp0,c1,c2,Sh.cont]
    ·simp[hp0,c1,Sh.cont]
   ·have hl2:=FJ hA
    rcases QM (D:=n.decls) (G:=(DD n).funcs) (ks:=l) (N:=N) (f:=⟨r.params,r.At,r.result⟩) (by omega) hD hG r4 hN h r0 (by first | (rw[Hb];exact r1) | (rw[List.length_map];exact r1)) r3 with ⟨z,_⟩ | ⟨m',x',z,z2,z3⟩
    ·exact absurd z hp0
    ·have:m'=m:=by rw[hm] at z;omega
     subst this
     have z2':r.params[m']?=some x':=z2
     rw[hx] at z2'
     cases z2'
     rw[MU h (FE (by omega) (by omega) hp) hle z3]
     by_cases c1:r.At=[]
     ·exact⟨_,by simp[c1],fun _ _=>rfl⟩
     ·exact⟨-1,by simp[c1],fun q=>by simp[c1] at q⟩
 ·refine FT V hN hb1 hb2 (by omega) (by omega) (want:=[]) (c:=false) (t:=0) (fun q=>nomatch q) (fun hp=>?_) (fun l hA hp=>⟨-1,?_,fun q=>nomatch q⟩) hbad
  ·unfold Bt Dm
   simp only[h,Int.reduceEq,decide_true,decide_false,Bool.false_eq_true,if_true,if_false,Option.bind_some]
   rw[CB,AU n.AD,BJ (n:=(n.AD.length:Int) - 1) (by omega) (by omega)]
   have:(decide (0≤s.num) && decide (s.num≤(n.AD.length:Int) - 1))=false:=by
    rw[Bool.and_eq_false_iff,decide_eq_false_iff_not,decide_eq_false_iff_not];omega
   rw[this];simp[Sh.cont]
  ·have hle:(if decide (0≤s.num)=true then if decide (s.num < Sh.len (DD n).funcs)=true then Option.bind (Sh.get (DD n).funcs s.num) fun c83=>some (decide (0 < Sh.len c83.At)) else some false else some false)=some false:=by
    rw[AU,Hb]
    by_cases c:0≤s.num
    ·have:¬ s.num < (n.AD.length:Int):=by omega
     simp[c,this]
    ·simp[c]
   rw[MU h (FE (by omega) (by omega) hp) hle (Nt (D:=n.decls) hG (.inr h) (by first | (rw[Hb];exact hr) | (rw[List.length_map];exact hr)))]
   simp
end
end RC



namespace RC
open Go
section
variable {n : Aj} {R1 : Aj → List Int → Block → Option Int} {R2 : A1 → List Int → Block → Option Int} {T : List Int → Block → Int} {s : Step} {v : List Int} {N : Nat} {b : Bool}
theorem Sw {a x:Int} (h:J9 v a=some x):0≤a∧a < (v.length:Int)∧Sh.get v a=some x∧x∈v:=by
 unfold J9 at h
 split at h
 ·rename_i hr
  exact⟨hr.1,hr.2,by rw[Pp hr.1,h],List.mem_of_getElem? h⟩
 ·cases h
theorem Py {a0 a1:Int}:CD v [a0,a1]=(J9 v a0).bind fun x=>(J9 v a1).map fun y=>[x,y]:=by
 simp only[CD]
 cases J9 v a0 <;> cases J9 v a1 <;> rfl
theorem P2 {a0:Int}:CD v [a0]=(J9 v a0).map fun x=>[x]:=by
 simp only[CD]
 cases J9 v a0 <;> rfl
theorem XC (V:SK n s v) (S:JT n) (hN:2000000≤N) (hb1:BU v s=some b) (hb2:Dj v s=some (!b)) (h:s.op=11):HV n R1 R2 N v s:=by
 have hl:v.length≤1048576:=by have:=V.KK;omega
 have ha:=V.KY
 have hD:=S.QV
 have hh:Ku s.op=false:=by rw[h];decide
 by_cases h2:s.args.length=2
 ·obtain⟨a0,a1,hargs⟩ :∃a0 a1,s.args=[a0,a1]:=by
   match hk:s.args,h2 with
   | [a,c],_=>exact⟨a,c,rfl⟩
  have hcore:Bt N R1 n v s=some (match J9 v a0 with
    | some x=>match Ii n.decls x with
     | some d=>if CD v [a1]=some [d.from_] then d.to else -1
     | none=>-1
    | none=>-1):=by
   unfold Bt
   simp only[h,Int.reduceEq,decide_true,decide_false,Bool.false_eq_true,if_true,if_false,Option.bind_some]
   rw[hargs,show decide (Sh.len [a0,a1]=2)=true from rfl,show Sh.get [a0,a1] 0=some a0 from rfl,show Sh.sl [a0,a1] 1 (Sh.len [a0,a1])=some [a1] from rfl]
   simp only[if_true,Option.bind_some]
   rw[CB,AU v,BJ (n:=(v.length:Int) - 1) (by omega) (by omega)]
   simp only[Option.bind_some]
   cases hA:J9 v a0 with
   | none=>
    have hr:¬ (0≤a0∧a0 < (v.length:Int)):=fun q=>by obtain⟨x,q1,_⟩:=Q6 q.1 q.2;rw[hA] at q1;cases q1
    have:(decide (0≤a0) && decide (a0≤(v.length:Int) - 1))=false:=by
     rw[Bool.and_eq_false_iff,decide_eq_false_iff_not,decide_eq_false_iff_not];omega
    rw[this];simp[Sh.cont]
   | some x=>
    obtain⟨q1,q2,q3,q4⟩:=Sw hA
    have:(decide (0≤a0) && decide (a0≤(v.length:Int) - 1))=true:=by
     rw[Bool.and_eq_true,decide_eq_true_eq,decide_eq_true_eq];omega
    rw[this,q3]
    simp only[if_true,Option.bind_some]
    rw[LB (by omega)]
    simp only[Option.bind_some]
    cases hB:Ii n.decls x with
    | none=>simp[Sh.cont]
    | some d=>
     obtain⟨m1,m2,m3,m4⟩:=S7 hB
     have g5:Sh.get n.decls (Sh.w (x - 1))=some d:=by rw[BJ (by omega) (by omega),Pp (by omega),m4]
     have ht:Bd N v [a1] [d.from_]=some (decide (CD v [a1]=some [d.from_])):=H9 hl (by simp) hN
     rw[g5]
     simp only[Option.isSome_some,if_true,Option.bind_some]
     rw[ht]
     by_cases q:CD v [a1]=some [d.from_] <;> simp[q,Sh.cont]
  cases hA0:J9 v a0 with
  | none=>
   have hA:CD v s.args=none:=by rw[hargs,Py,hA0];rfl
   refine FT V hN hb1 hb2 (by omega) (by omega) (want:=[]) (c:=false) (t:=0) (fun q=>nomatch q) (fun hp=>by rw[hcore,hA0];simp) (fun l q=>by rw[hA] at q;cases q) (fun l q=>by rw[hA] at q;cases q)
  | some x=>
   cases hA1:J9 v a1 with
   | none=>
    have hA:CD v s.args=none:=by rw[hargs,Py,hA0,hA1];rfl
    have hA2:CD v [a1]=none:=by rw[P2,hA1];rfl
    refine FT V hN hb1 hb2 (by omega) (by omega) (want:=[]) (c:=false) (t:=0) (fun q=>nomatch q) (fun hp=>by rw[hcore,hA0,hA2];simp;split <;> rfl) (fun l q=>by rw[hA] at q;cases q) (fun l q=>by rw[hA] at q;cases q)
   | some y=>
    have hA:CD v s.args=some [x,y]:=by rw[hargs,Py,hA0,hA1];rfl
    have hA2:CD v [a1]=some [y]:=by rw[P2,hA1];rfl
    have hbad :∀l,CD v s.args=some l→FN b s=false→b=true→∃t',CN N R2 (DD n) v s l=some (t',false):=fun l hl2 hp hb=>by
     by_cases hk:s.kids=[]
     ·rcases Kq (by omega) (by omega) hp hb with q | q
      ·exact absurd hk q
      ·rw[hA] at hl2;cases hl2
       have e:=MS (D:=n.decls) (G:=(DD n).funcs) (ks:=[x,y]) (num:=s.num) (N:=N) hD h rfl
       cases hB:Ii n.decls x with
       | none=>rw[hB] at e;exact⟨0,Ct (by omega) (by omega) (by omega) (by omega) (by omega) hk e⟩
       | some d=>
        rw[hB] at e
        refine⟨d.to,Ct (by omega) (by omega) (by omega) (by omega) (by omega) hk (e.trans ?_)⟩
        simp[q.1]
     ·exact⟨_,H8 (by omega) (by omega) (by omega) (by omega) hk⟩
    cases hB:Ii n.decls x with
    | none=>
     refine FT V hN hb1 hb2 (by omega) (by omega) (want:=[]) (c:=false) (t:=0) (fun q=>nomatch q) (fun hp=>by rw[hcore,hA0];dsimp only;rw[hB];simp) (fun l hl2 hp=>⟨0,?_,fun q=>nomatch q⟩) hbad
     rw[hA] at hl2;cases hl2
     refine Ct (by omega) (by omega) (by omega) (by omega) (by omega) (FE (by omega) (by omega) hp) ((MS (D:=n.decls) (G:=(DD n).funcs) (N:=N) hD h rfl).trans ?_)
     rw[hB];rfl
    | some d=>
     obtain⟨m1,m2,m3,m4⟩:=S7 hB
     have hty:=(S.df d m1).2
     refine FT V hN hb1 hb2 (by omega) (by omega) (want:=[x,y]) (c:=decide (y=d.from_)) (t:=d.to) (fun _=>hty) (fun hp=>?_) (fun l hl2 hp=>⟨d.to,?_,fun _ _=>rfl⟩) hbad
     ·rw[hcore,hA0]
      dsimp only
      rw[hB,hA2,hA]
      by_cases q:y=d.from_ <;> simp[q]
     ·rw[hA] at hl2;cases hl2
      have hn:=SA hh hp
      refine Ct (by omega) (by omega) (by omega) (by omega) (by omega) (FE (by omega) (by omega) hp) ((MS (D:=n.decls) (G:=(DD n).funcs) (N:=N) hD h rfl).trans ?_)
      rw[hB];simp[hn]
 ·have h2':¬ ((s.args.length:Int)=2):=by omega
  refine FT V hN hb1 hb2 (by omega) (by omega) (want:=[]) (c:=false) (t:=0) (fun q=>nomatch q) (fun hp=>?_) (fun l hA hp=>⟨-1,?_,fun q=>nomatch q⟩) (fun l hA hp hb=>?_)
  ·unfold Bt
   simp only[h,Int.reduceEq,decide_true,decide_false,Bool.false_eq_true,if_true,if_false,Option.bind_some,AU,h2']
   simp[Sh.cont]
  ·have:=FJ hA
   exact Ct (by omega) (by omega) (by omega) (by omega) (by omega) (FE (by omega) (by omega) hp) ((Mi (D:=n.decls) (G:=(DD n).funcs) (N:=N) h (by omega)).trans (by simp))
  ·have:=FJ hA
   by_cases hk:s.kids=[]
   ·exact⟨-1,Ct (by omega) (by omega) (by omega) (by omega) (by omega) hk (Mi (D:=n.decls) (G:=(DD n).funcs) (N:=N) h (by omega))⟩
   ·exact⟨_,H8 (by omega) (by omega) (by omega) (by omega) hk⟩
def US (D:List Ag) (s:Step):List Int→Bool
 | [x]=>decide (¬ x=0∧s.num=0∧s.kids=[]∧¬ ((s.op=16∨s.op=17)∧(Ii D x).isSome=true))
 | _=>false
theorem XA (V:SK n s v) (S:JT n) (hN:2000000≤N) (hb1:BU v s=some b) (hb2:Dj v s=some (!b)) (h:s.op=14∨s.op=15∨s.op=16∨s.op=17):HV n R1 R2 N v s:=by
 have hl:v.length≤1048576:=by have:=V.KK;omega
 have hD:=S.QV
 have e1:=Jw (n:=n) (R1:=R1) (N:=N) hb1
 have e2:=J7 (n:=n) (R2:=R2) hl V.KY hN hb2
 have hc:L9 s.op=true:=by rcases h with h | h | h | h <;> rw[h] <;> decide
 have hp:FN b s=((decide (s.num=0) && b) && decide (s.kids=[])):=by
  unfold FN
  rcases h with h | h | h | h <;> rw[h] <;> simp[Ku]
 have hcore:Bt N R1 n v s=some (match CD v s.args with
   | some [x]=>if x=0∨((s.op=16∨s.op=17)∧(Ii n.decls x).isSome=true) then -1 else 0
   | _=>-1):=by
  have hct:Bt N R1 n v s=Sh.cont (Option.bind (Ec n v s) fun q=>some (Sum.inl q)) id fun ()=>some (-1):=by
   unfold Bt
   rcases h with h | h | h | h <;> simp only[h,Int.reduceEq,decide_true,decide_false,Bool.false_eq_true,if_true,if_false,Option.bind_some]
  rw[hct]
  unfold Ec
  have Rq:decide (Sh.len s.args=1)=decide (s.args.length=1):=decide_eq_decide.2 (by rw[AU];omega)
  rw[Rq]
  by_cases h1:s.args.length=1
  ·obtain⟨a,hargs⟩ :∃a,s.args=[a]:=by
    match hk:s.args,h1 with
    | [a],_=>exact⟨a,rfl⟩
   rw[hargs,show Sh.get [a] 0=some a from rfl,P2]
   simp only[Option.bind_some,List.length_cons,List.length_nil,decide_true,Bool.not_true,Bool.false_eq_true,if_false]
   rw[CB,AU,BJ (by omega) (by omega)]
   simp only[Option.bind_some]
   cases hA:J9 v a with
   | none=>
    have hr:¬ (0≤a∧a < (v.length:Int)):=fun q=>by obtain⟨x,q1,_⟩:=Q6 q.1 q.2;rw[hA] at q1;cases q1
    have:(decide (0≤a) && decide (a≤(v.length:Int) - 1))=false:=by
     rw[Bool.and_eq_false_iff,decide_eq_false_iff_not,decide_eq_false_iff_not];omega
    rw[this];simp[Sh.cont]
   | some x=>
    obtain⟨q1,q2,q3,q4⟩:=Sw hA
    have:(decide (0≤a) && decide (a≤(v.length:Int) - 1))=true:=by
     rw[Bool.and_eq_true,decide_eq_true_eq,decide_eq_true_eq];omega
    rw[this,q3]
    simp only[Bool.not_true,Bool.false_eq_true,if_false,Option.bind_some]
    rw[LB (by omega)]
    by_cases z:x=0
    ·simp[z,Sh.cont]
    ·rcases h with h | h | h | h <;> cases hB:Ii n.decls x <;> simp[h,z,hB,Sh.cont]
  ·have :∀x,CD v s.args≠some [x]:=fun x q=>h1 (by have:=FJ q;simpa using this.symm)
   simp only[h1,decide_false,Bool.not_false,if_true,Option.bind_some]
   cases hA:CD v s.args with
   | none=>rfl
   | some l=>
    match l,hA with
    | [],_=>rfl
    | [x],hA=>exact absurd hA (this x)
    | x :: y :: r,_=>rfl
 rw[hp,hcore] at e1
 cases hA:CD v s.args with
 | none=>
  rw[hA] at e1 e2
  refine FC (q:=-1) ?_ e2 rfl (by omega)
  rw[e1];simp
 | some l=>
  rw[hA] at e1 e2
  simp only[Option.elim_some] at e2
  cases b with
  | false=>
   refine FC (q:=-1) ?_ e2 rfl (by omega)
   rw[e1];simp
  | true=>
   simp only[if_true] at e2
   have ilen:decide (Sh.len l=1)=decide (l.length=1):=decide_eq_decide.2 (by rw[AU];omega)
   have hci:CG s.op=some true:=by rw[Ju,hc]
   have hic:CN N R2 (DD n) v s l=some (-1,US n.decls s l):=by
    unfold CN
    rw[hci,ilen]
    simp only[Option.bind_some,if_true,MZ]
    match l with
    | []=>simp[US]
    | [x]=>
     rw[show Sh.get [x] 0=some x from rfl]
     simp only[Option.bind_some,US]
     rw[show (DD n).decls=n.decls from rfl,K0 (by omega)]
     by_cases z:x=0
     ·simp[z]
     ·by_cases z2:s.num=0
      ·by_cases z3:s.kids=[]
       ·rcases h with h | h | h | h <;> cases hB:Ii n.decls x <;> simp[h,z,z2,z3,hB]
       ·simp[z,z2,z3]
      ·simp[z,z2]
    | x :: y :: r=>simp[US]
   rw[hic] at e2
   match l with
   | []=>exact FC (q:=-1) (by rw[e1];simp) e2 rfl (by omega)
   | x :: y :: r=>exact FC (q:=-1) (by rw[e1];simp) e2 rfl (by omega)
   | [x]=>
    simp only[US] at e2
    simp only at e1
    by_cases g:¬ x=0∧s.num=0∧s.kids=[]∧¬ ((s.op=16∨s.op=17)∧(Ii n.decls x).isSome=true)
    ·refine⟨0,-1,true,?_,?_,?_⟩
     ·rw[e1]
      have:¬ (x=0∨((s.op=16∨s.op=17)∧(Ii n.decls x).isSome=true)):=fun q=>by
       rcases q with q | q
       ·exact g.1 q
       ·exact g.2.2.2 q
      rw[if_neg this];simp[g.2.1,g.2.2.1]
     ·rw[e2,decide_eq_true g]
     ·rw[if_pos rfl,if_pos hc];exact⟨by omega,trivial⟩
    ·refine FC (q:=-1) ?_ e2 (decide_eq_false g) (by omega)
     rw[e1]
     by_cases z2:s.num=0
     ·by_cases z3:s.kids=[]
      ·have:x=0∨((s.op=16∨s.op=17)∧(Ii n.decls x).isSome=true):=by
        by_cases q:x=0
        ·exact .inl q
        ·refine .inr (Classical.byContradiction fun q2=>g ⟨q,z2,z3,q2⟩)
       rw[if_pos this];simp
      ·simp[z3]
     ·simp[z2]
theorem Xp (V:SK n s v) (hN:2000000≤N) (hb1:BU v s=some b) (hb2:Dj v s=some (!b)) (h:s.op < 0∨s.op=12∨s.op=13∨17 < s.op):HV n R1 R2 N v s:=by
 have hl:v.length≤1048576:=by have:=V.KK;omega
 have e1:=Jw (n:=n) (R1:=R1) (N:=N) hb1
 have e2:=J7 (n:=n) (R2:=R2) hl V.KY hN hb2
 have hc:L9 s.op=false:=by unfold L9;rw[Bool.and_eq_false_iff,decide_eq_false_iff_not,decide_eq_false_iff_not];omega
 have hcore:Bt N R1 n v s=some (-1):=by
  unfold Bt
  simp only[show ¬ s.op=0 by omega,show ¬ s.op=1 by omega,show ¬ s.op=2 by omega,show ¬ s.op=3 by omega,show ¬ s.op=4 by omega,show ¬ s.op=5 by omega,show ¬ s.op=6 by omega,show ¬ s.op=7 by omega,show ¬ s.op=8 by omega,show ¬ s.op=9 by omega,show ¬ s.op=10 by omega,show ¬ s.op=11 by omega,show ¬ s.op=14 by omega,show ¬ s.op=15 by omega,show ¬ s.op=16 by omega,show ¬ s.op=17 by omega,decide_false,Bool.false_eq_true,if_false,Option.bind_some]
  simp[Sh.cont]
 have h1:Dz N R1 n v s=some (-1):=by rw[e1,hcore];split <;> rfl
 cases hA:CD v s.args with
 | none=>rw[hA] at e2;exact FC h1 e2 rfl (by omega)
 | some l=>
  rw[hA] at e2
  simp only[Option.elim_some] at e2
  cases b with
  | false=>exact FC h1 e2 rfl (by omega)
  | true=>
   simp only[if_true] at e2
   have hic:CN N R2 (DD n) v s l=some (-1,false):=by
    unfold CN
    rw[Ju,hc]
    simp only[Option.bind_some,Bool.false_eq_true,if_false,show ¬ s.op=7 by omega,show ¬ s.op=8 by omega,show ¬ s.op=10 by omega,decide_false]
    rw[show (DD n)=⟨n.decls,(DD n).funcs⟩ from rfl,UI (by omega)]
    by_cases hk:decide (0 < Sh.len s.kids)=true <;> simp[hk]
   rw[hic] at e2
   exact FC h1 e2 rfl (by omega)
theorem Vq (H:SN n R1 R2 T (Oh s)) (V:SK n s v) (S:JT n) (hN:2000000≤N):HV n R1 R2 N v s:=by
 obtain⟨b,hb1,hb2⟩:=V7 (n:=n) (s:=s) V.Zp (by have:=V.KK;omega)
 by_cases h0:s.op=0
 ·exact Za V hN hb1 hb2 h0
 by_cases h1:s.op=1∨s.op=2∨s.op=3∨s.op=4
 ·exact XU V hN hb1 hb2 h1
 by_cases h5:s.op=5
 ·exact XE V hN hb1 hb2 h5
 by_cases h6:s.op=6
 ·exact Z3 V S hN hb1 hb2 h6
 by_cases h7:s.op=7
 ·exact cM H V S hN hb1 hb2 h7
 by_cases h8:s.op=8
 ·exact XS H V S hN hb1 hb2 h8
 by_cases h9:s.op=9
 ·exact ZP V S hN hb1 hb2 h9
 by_cases h10:s.op=10
 ·exact XB V S hN hb1 hb2 h10
 by_cases h11:s.op=11
 ·exact XC V S hN hb1 hb2 h11
 by_cases hc:s.op=14∨s.op=15∨s.op=16∨s.op=17
 ·exact XA V S hN hb1 hb2 hc
 exact Xp V hN hb1 hb2 (by omega)
end
end RC



namespace RC
open Go
section
variable {n : Aj} {R1 : Aj → List Int → Block → Option Int} {R2 : A1 → List Int → Block → Option Int} {T : List Int → Block → Int} {b : Block} {v : List Int} {N : Nat}
theorem QA (o:Int):Gm o=some (decide (0≤o) && decide (o≤11)):=by unfold Gm;rw[CB];rfl
theorem ZO {l:List Step} {s:Step} (h:s∈l):Oh s≤I3 l:=by
 induction l with
 | nil=>cases h
 | cons c k ih=>
  simp only[I3]
  rcases List.mem_cons.1 h with rfl | h
  ·omega
  ·have:=ih h;omega
structure BK (n:Aj) (b:Block) (v:List Int):Prop where
 Xf:Ie b
 size:Bs b
 len:v.length+4 * GK b≤4000
 Zp :∀x∈v,Ck n.decls x=true
theorem Ta (H:SN n R1 R2 T (GK b)) (B:BK n b v) (S:JT n) (hN:2000000≤N) :∃o:Option (List Int),
  Bh N n b R1 N 0 v=some (o.elim (.inl (-1)) .inr)∧BG N (DD n) b R2 N 0 v=some (o.elim (.inl (-1)) .inr)∧∀l,o=some l→l.length≤8000∧∀x∈l,Ck n.decls x=true:=by
 have hb:=B.size
 have hsl:=hb.len
 have key :∀{M i:Nat},i≤b.steps.length→b.steps.length - i < M→∀w:List Int,w.length+4 * I3 (b.steps.drop i)≤4000→(∀x∈w,Ck n.decls x=true)→∃o:Option (List Int),
   Bh N n b R1 M i w=some (o.elim (.inl (-1)) .inr)∧BG N (DD n) b R2 M i w=some (o.elim (.inl (-1)) .inr)∧∀l,o=some l→l.length≤8000∧∀x∈l,Ck n.decls x=true:=by
  intro M i hi hM
  refine Bn b.steps.length (fun M i=>∀w:List Int,w.length+4 * I3 (b.steps.drop i)≤4000→(∀x∈w,Ck n.decls x=true)→∃o:Option (List Int),
   Bh N n b R1 M i w=some (o.elim (.inl (-1)) .inr)∧BG N (DD n) b R2 M i w=some (o.elim (.inl (-1)) .inr)∧∀l,o=some l→l.length≤8000∧∀x∈l,Ck n.decls x=true) ?_ ?_ hi hM
  ·intro q w hw ht
   refine⟨some w,?_,?_,fun l hl=>?_⟩
   ·rw[Bh,if_neg (by simp[AU])];rfl
   ·rw[BG,if_neg (by simp[AU])];rfl
   ·cases hl;exact⟨by omega,ht⟩
  ·intro q i hi ih w hw ht
   obtain⟨s,hs,hsm⟩:=Bl hi
   rw[PV hs] at hw
   have hn1:=ZO hsm
   have hn2:=Q4 b
   have hz:=HC hsm
   have hbz:HP b≤1048576:=hb
   have V:SK n s w:=⟨B.Xf.steps.1 s hsm,by omega,by omega,ht⟩
   obtain⟨y,t,ok,e1,e2,e3⟩:=Vq (T:=T) (N:=N) (fun v b a1 a2 a3 a4 a5=>H v b a1 a2 (by omega) a4 a5) V S hN
   have f1:Bh N n b R1 (q+1) i w=Sh.cont (if decide (y < 0)=true then some (Sum.inl (Sum.inl (-1))) else Option.bind (Gm s.op) fun q33=>if q33=true then Option.bind (Sh.app w [y] 8) fun l35=>some (Sum.inr l35) else some (Sum.inr w)) id fun l23=>Bh N n b R1 q ((i+1:Nat):Int) l23:=by
    rw[Bh,if_pos (by simp[AU];omega),A4 hs]
    simp only[Option.bind_some]
    rw[e1,BJ (by omega) (by omega),show ((i:Int) + 1)=((i+1:Nat):Int) by omega]
    rfl
   have f2:BG N (DD n) b R2 (q+1) i w=Sh.cont (if (!ok)=true then some (Sum.inl (Sum.inl (-1))) else Option.bind (CG s.op) fun q36=>if (!q36)=true then Option.bind (Sh.app w [t] 8) fun l39=>some (Sum.inr l39) else some (Sum.inr w)) id fun l23=>BG N (DD n) b R2 q ((i+1:Nat):Int) l23:=by
    rw[BG,if_pos (by simp[AU];omega),A4 hs]
    simp only[Option.bind_some]
    rw[e2,BJ (by omega) (by omega),show ((i:Int) + 1)=((i+1:Nat):Int) by omega]
    rfl
   rw[f1,f2,QA,Ju]
   cases ok with
   | false=>
    simp only[Bool.false_eq_true,if_false] at e3
    exact⟨none,by simp[e3,Sh.cont],by simp[Sh.cont],fun l hl=>nomatch hl⟩
   | true=>
    simp only[if_true] at e3
    obtain⟨e3,e4⟩:=e3
    have e3':¬ y < 0:=by omega
    have hns:=RA s
    cases hc:L9 s.op with
    | true=>
     have hop:(decide (0≤s.op) && decide (s.op≤11))=false:=by
      unfold L9 at hc
      simp only[Bool.and_eq_true,decide_eq_true_eq] at hc
      rw[Bool.and_eq_false_iff,decide_eq_false_iff_not,decide_eq_false_iff_not];omega
     obtain⟨o,g1,g2,g3⟩:=ih w (by omega) ht
     refine⟨o,?_,?_,g3⟩
     ·rw[hop,← g1];simp[e3',Sh.cont]
     ·rw[← g2];simp[Sh.cont]
    | false=>
     rw[hc] at e4
     simp only[Bool.false_eq_true,if_false] at e4
     obtain⟨rfl,e5,e6,e7⟩:=e4
     have hop:(decide (0≤s.op) && decide (s.op≤11))=true:=by
      rw[Bool.and_eq_true,decide_eq_true_eq,decide_eq_true_eq];exact⟨e6,e7⟩
     obtain⟨o,g1,g2,g3⟩:=ih (w ++ [t]) (by rw[List.length_append];simp only[List.length_cons,List.length_nil];omega) (fun x hx=>by
      rcases List.mem_append.1 hx with h | h
      ·exact ht x h
      ·simp only[List.mem_singleton] at h;rw[h];exact e5)
     refine⟨o,?_,?_,g3⟩
     ·rw[hop,← g1,Dp w [t] 8 (by simp;omega) (by simp;omega)];simp[e3',Sh.cont]
     ·rw[← g2,Dp w [t] 8 (by simp;omega) (by simp;omega)];simp[Sh.cont]
 have:=key (Nat.zero_le _) (by omega:b.steps.length - 0 < N) v (by rw[List.drop_zero,← Q4];exact B.len) B.Zp
 simpa using this
theorem Ux (H:SN n R1 R2 T (GK b)) (B:BK n b v) (S:JT n) (hN:2000000≤N) :∃t,E1 N R1 n v b=some t∧CH N R2 (DD n) v b=some t∧(t=-1∨Ck n.decls t=true):=by
 have hvl:v.length≤4000:=by have:=B.len;omega
 obtain⟨o,h1,h2,h3⟩:=Ta H B S hN
 unfold E1 CH Cw Be
 rw[Dp [] v 8 (by simp;omega) (by simp;omega)]
 simp only[Option.bind_some,List.nil_append]
 rw[h1,h2]
 cases o with
 | none=>exact⟨-1,rfl,rfl,.inl rfl⟩
 | some l=>
  obtain⟨l1,l2⟩:=h3 l rfl
  simp only[Option.elim_some,Sh.IB]
  rw[CB,AU,BJ (by omega) (by omega)]
  by_cases hr:0≤b.result∧b.result < (l.length:Int)
  ·obtain⟨x,x1,x2⟩:=Kz hr.1 hr.2
   have r1:b.result≤(l.length:Int) - 1:=by omega
   have r2:¬ b.result < 0:=by omega
   have r3:¬ (l.length:Int)≤b.result:=by omega
   exact⟨x,by simp[hr.1,r1,x1],by simp[r2,r3,x1],.inr (l2 x (List.mem_of_getElem? x2))⟩
  ·refine⟨-1,?_,?_,.inl rfl⟩
   ·have:(decide (0≤b.result) && decide (b.result≤(l.length:Int) - 1))=false:=by
     rw[Bool.and_eq_false_iff,decide_eq_false_iff_not,decide_eq_false_iff_not];omega
    rw[this];simp
   ·by_cases r2:b.result < 0
    ·simp[r2]
    ·have r3:(l.length:Int)≤b.result:=by omega
     simp[r2,r3]
end
theorem Th {n:Aj} (S:JT n) {N:Nat} (hN:2000000≤N) :∀(m:Nat),∃T:List Int→Block→Int,∀(v:List Int) (b:Block),GK b < m→BK n b v→
  ∀n1 n2,m≤n1→m≤n2→Ce N n1 n v b=some (T v b)∧Br N n2 (DD n) v b=some (T v b)∧(T v b=-1∨Ck n.decls (T v b)=true):=by
 intro m
 induction m with
 | zero=>exact⟨fun _ _=>0,fun v b h=>by omega⟩
 | succ m ih=>
  obtain⟨T,hT⟩:=ih
  refine⟨fun v b=>(Ce N (m+1) n v b).getD 0,fun v b hn B n1 n2 h1 h2=>?_⟩
  have step :∀n1 n2,m≤n1→m≤n2→∃t,E1 N (Ce N n1) n v b=some t∧CH N (Br N n2) (DD n) v b=some t∧(t=-1∨Ck n.decls t=true):=fun n1 n2 h1 h2=>
   Ux (T:=T) (fun v c a1 a2 a3 a4 a5=>hT v c (by omega) ⟨a1,a2,a4,a5⟩ n1 n2 h1 h2) B S hN
  obtain⟨m1,rfl⟩ :∃q,n1=q+1:=⟨n1 - 1,by omega⟩
  obtain⟨m2,rfl⟩ :∃q,n2=q+1:=⟨n2 - 1,by omega⟩
  obtain⟨t,q1,q2,q3⟩:=step m m (Nat.le_refl _) (Nat.le_refl _)
  obtain⟨t',r1,r2,_⟩:=step m m2 (Nat.le_refl _) (by omega)
  obtain⟨t'',s1,s2,_⟩:=step m1 m (by omega) (Nat.le_refl _)
  have e1:t'=t:=by rw[q1] at r1;cases r1;rfl
  have e2:t''=t:=by rw[q2] at s2;cases s2;rfl
  subst e1;subst e2
  have e3:(Ce N (m+1) n v b).getD 0=t'':=by rw[Ce,q1];rfl
  dsimp only
  rw[e3]
  exact⟨by rw[Ce];exact s1,by rw[Br];exact r2,q3⟩
end RC



namespace RC
open Go
structure JW (r:Ac):Prop where
 params:D1 IF r.params
 At:D1 IF r.At
 result:IF r.result
 body:Ie r.body
structure Li (n:Aj):Prop where
 decls:D1 Mc n.decls
 AD:D1 JW n.AD
def Iw (r:Ac):Nat:=r.params.length+r.At.length+HP r.body
def Ki (n:Aj):Nat:=(n.decls.length+(n.decls.map dz).sum) + (n.AD.length+(n.AD.map Iw).sum)
theorem UO {b:Block} (hb:Ie b) {left:Int} (h0:0≤left) (h1:left≤1048576) {N:Nat} (hN:2000000≤N):JC N b left=some (Ru left (HP b)):=by
 unfold JC
 rw[SP hN N b left hb h0 h1 (by omega)];rfl
theorem SS {r:Ac} (hr:JW r) {left:Int} (h0:0≤left) (h1:left≤1048576) {N:Nat} (hN:2000000≤N):Ge N r left=some (Ru left (Iw r)):=by
 unfold Ge Iw
 rw[Lc h0 h1 hr.params.2]
 simp only[Option.bind_some]
 by_cases h:left - (r.params.length:Int) < 0
 ·rw[if_pos h,EC (by omega)];rfl
 ·rw[if_neg h,if_neg (by simpa using h),Lc (by omega) (by omega) hr.At.2]
  simp only[Option.bind_some]
  by_cases h2:left - (r.params.length:Int) - (r.At.length:Int) < 0
  ·rw[if_pos h2,EC (by omega)];rfl
  ·rw[if_neg h2,if_neg (by simpa using h2),UO hr.body (by omega) (by omega) hN]
   simp only[Option.bind_some]
   by_cases h3:left - (r.params.length:Int) - (r.At.length:Int) - (HP r.body:Int) < 0
   ·rw[EC h3,EC (by omega)];rfl
   ·rw[Fj h3,Fj (by omega),if_neg (by simpa using h3)]
    congr 1;omega
theorem Ri {l:List Ac} (hl:D1 JW l) {left:Int} (h0:0≤left) (h1:left≤1048576) {N:Nat} (hN:2000000≤N):F6 N l left=some (Ru left (l.length+(l.map Iw).sum)):=by
 have hlen:=hl.2
 unfold F6
 rw[AU,BJ (by omega) (by omega)]
 by_cases h2:left - (l.length:Int) < 0
 ·rw[if_pos (by simpa using h2),EC (by omega)]
 ·rw[if_neg (by simpa using h2),SB (l:=l) Iw (C8 N l) (fun n l=>by rw[C8,if_neg (by simp[AU])]) (fun n i x l' hx l0 l1=>?_) (by omega) (by omega) (by omega)]
  ·by_cases h3:left - (l.length:Int) - ((l.map Iw).sum:Nat) < 0
   ·rw[if_pos h3,EC (by omega)];rfl
   ·rw[if_neg h3,Fj (by omega)]
    simp only[Sh.IB]
    congr 1;omega
  ·have hi:=(List.getElem?_eq_some_iff.1 hx).1
   rw[C8,if_pos (by simp[AU];omega),A4 hx]
   simp only[Option.bind_some]
   rw[SS (hl.1 x (List.mem_of_getElem? hx)) l0 l1 hN]
   simp only[Option.bind_some]
   by_cases h3:l' - (Iw x:Int) < 0
   ·rw[EC h3,if_pos h3];rfl
   ·rw[Fj h3,if_neg h3,if_neg (by simpa using h3),BJ (by omega) (by omega),show ((i:Int) + 1)=((i+1:Nat):Int) by omega]
theorem UD {n:Aj} (H:Li n) {left:Int} (h0:0≤left) (h1:left≤1048576) {N:Nat} (hN:2000000≤N):HA N n left=some (Ru left (Ki n)):=by
 unfold HA Ki
 rw[VM H.decls h0 h1 hN]
 simp only[Option.bind_some]
 by_cases h:left - ((n.decls.length+(n.decls.map dz).sum:Nat):Int) < 0
 ·rw[EC h,EC (by omega)];rfl
 ·rw[Fj h,if_neg (by simpa using h),Ri H.AD (by omega) (by omega) hN]
  simp only[Option.bind_some]
  by_cases h3:left - ((n.decls.length+(n.decls.map dz).sum:Nat):Int) - ((n.AD.length+(n.AD.map Iw).sum:Nat):Int) < 0
  ·rw[EC h3,EC (by omega)];rfl
  ·rw[Fj h3,Fj (by omega),if_neg (by simpa using h3)]
   congr 1;omega
theorem SU {r:Ac} (h:Iw r≤1048576) {N:Nat} (hN:2000000≤N):Gd N r=some r:=by
 unfold Iw at h
 unfold Gd;rw[Lq (by omega) hN,Lq (by omega) hN,Ui (by unfold Bs;omega) hN];rfl
theorem SD {l:List Ac} (hl:l.length+(l.map Iw).sum≤1048576) {N:Nat} (hN:2000000≤N):GI N l=some l:=by
 unfold GI
 rw[AU,LZ _ _ _ (by omega) (by omega)]
 simp only[Option.bind_some]
 rw[R3 (l:=l) (C2 N l) (fun n m=>by rw[C2,if_neg (by simp[AU])]) (fun n i x m hx hm=>?_) (by omega) (by simp)]
 ·rfl
 ·have hi:=(List.getElem?_eq_some_iff.1 hx).1
  have hz:=E9 Iw (List.mem_of_getElem? hx)
  obtain⟨y,hy,_⟩:=Bl (l:=m) (i:=i) (by omega)
  rw[C2,if_pos (by simp[AU];omega),A4 hx]
  simp only[Option.bind_some]
  rw[SU (by omega) hN,A4 hy]
  simp only[Option.bind_some]
  rw[J2,BJ (by omega) (by omega),show ((i:Int) + 1)=((i+1:Nat):Int) by omega]
theorem Td {n:Aj} (h:Ki n≤1048576) {N:Nat} (hN:2000000≤N):Eo N n=some n:=by
 unfold Ki at h
 unfold Eo;rw[VG (by omega) hN,SD (by omega) hN];rfl
theorem Sa {r:Ac} (h:Iw r≤1048576) {N:Nat} (hN:2000000≤N):Gg N r r=some true:=by
 unfold Iw at h
 unfold Gg;rw[La (by omega) hN,La (by omega) hN,Uk (by unfold Bs;omega) hN];simp
theorem RS {l:List Ac} (hl:l.length+(l.map Iw).sum≤1048576) {N:Nat} (hN:2000000≤N):Fy N l l=some true:=by
 unfold Fy
 have L:=CS (l:=l) (DB N l l) (fun _ _=>true) (fun n=>by rw[DB,if_neg (by simp[AU])]) (fun n i x hx=>?_) (by omega:l.length < N)
 ·rw[DP (p:=fun _=>true)] at L
  simp[L,Sh.cont]
 ·have hi:=(List.getElem?_eq_some_iff.1 hx).1
  have hz:=E9 Iw (List.mem_of_getElem? hx)
  rw[DB,if_pos (by simp[AU];omega),A4 hx]
  simp only[Option.bind_some]
  rw[Sa (by omega) hN,BJ (by omega) (by omega),show ((i:Int) + 1)=((i+1:Nat):Int) by omega]
  rfl
theorem PJ {n:Aj} (h:Ki n≤1048576) {N:Nat} (hN:2000000≤N):Ew N n n=some true:=by
 unfold Ki at h
 unfold Ew;rw[VN (by omega) hN,RS (by omega) hN];rfl
structure HI (n:Aj):Prop where
 Xf:Li n
 size:Ki n≤1048576
theorem HI.decls {n:Aj} (S:HI n):NN n.decls:=by
 have h:=S.size
 unfold Ki at h
 have hd :∀d∈n.decls,dz d≤1048576:=fun d hd=>by have:=E9 dz hd;omega
 refine⟨by omega,fun d hm=>?_,fun d hm c hc=>?_⟩
 ·have:=hd d hm;unfold dz at this;omega
 ·have:=hd d hm;unfold dz at this
  have:=E9 cz hc
  show cz c≤_
  omega
theorem HI.Oi {n:Aj} (S:HI n):n.AD.length≤1048576:=by have h:=S.size;unfold Ki at h;omega
theorem HI.rz {n:Aj} (S:HI n) {r:Ac} (hr:r∈n.AD):r.params.length≤1048576∧r.At.length≤1048576∧Bs r.body:=by
 have h:=S.size
 unfold Ki at h
 have h2:=E9 Iw hr
 have h3:Iw r=r.params.length+r.At.length+HP r.body:=rfl
 unfold Bs
 omega
theorem Tb {n:Aj} (hl:n.AD.length≤1048576) {N:Nat} (hN:2000000≤N):Ia N n=some ⟨n.decls,n.AD.map Qm⟩:=by
 have key :∀{N i:Nat},i≤n.AD.length→n.AD.length - i < N→D5 n N i ((n.AD.take i).map Qm)=some (n.AD.map Qm):=by
  intro N i hi hN
  refine Bn n.AD.length (fun N i=>D5 n N i ((n.AD.take i).map Qm)=some (n.AD.map Qm)) ?_ ?_ hi hN
  ·intro q;rw[D5,if_neg (by simp[AU]),List.take_length]
  ·intro q i hi ih
   obtain⟨r,hr,_⟩:=Bl hi
   rw[D5,if_pos (by simp[AU];omega),A4 hr]
   simp only[Option.bind_some]
   rw[Dp _ _ _ (by simp;omega) (by simp;omega),BJ (by omega) (by omega),show ((i:Int) + 1)=((i+1:Nat):Int) by omega]
   simp only[Option.bind_some]
   rw[← ih,Ee hr,List.map_append];rfl
 have:=key (Nat.zero_le _) (by omega:n.AD.length - 0 < N)
 rw[show ((0:Nat):Int)=0 from rfl,List.take_zero,List.map_nil] at this
 unfold Ia
 rw[this];rfl
theorem UP {n:Aj} (hl:n.AD.length≤1048576) {N:Nat} (hN:2000000≤N):CC n N 0 []=some (DD n).funcs:=by
 have key :∀{N i:Nat},i≤n.AD.length→n.AD.length - i < N→CC n N i ((n.AD.take i).map fun r=>(⟨r.params,r.At,r.result⟩:Ba))=some (DD n).funcs:=by
  intro N i hi hN
  refine Bn n.AD.length (fun N i=>CC n N i ((n.AD.take i).map fun r=>(⟨r.params,r.At,r.result⟩:Ba))=some (DD n).funcs) ?_ ?_ hi hN
  ·intro q;rw[CC,if_neg (by simp[AU]),List.take_length];rfl
  ·intro q i hi ih
   obtain⟨r,hr,_⟩:=Bl hi
   rw[CC,if_pos (by simp[AU];omega),A4 hr]
   simp only[Option.bind_some]
   rw[Dp _ _ _ (by simp;omega) (by simp;omega),BJ (by omega) (by omega),show ((i:Int) + 1)=((i+1:Nat):Int) by omega]
   simp only[Option.bind_some]
   rw[← ih,Ee hr,List.map_append];rfl
 have:=key (Nat.zero_le _) (by omega:n.AD.length - 0 < N)
 simpa using this
def RH (r:Ac):Bool:=Dh (Gr r.params r.At) 0 r.At
def VW (n:Aj):Bool:=decide (n.AD.length≤4) && (Mo n.decls (n.AD.map fun r=>(r.params,r.result)) && n.AD.all RH)
theorem VL {n:Aj} (S:HI n) {N:Nat} (hN:2000000≤N):Ea N n=some (VW n):=by
 have hl:=S.Oi
 unfold Ea VW
 have L:=CS (l:=n.AD) (B0 N n) (fun _ r=>RH r) (fun q=>by rw[B0,if_neg (by simp[AU])]) (fun q i r hi=>by
  have hil:=(List.getElem?_eq_some_iff.1 hi).1
  obtain⟨z1,z2,z3⟩:=S.rz (List.mem_of_getElem? hi)
  rw[B0,if_pos (by simp[AU];omega),A4 hi]
  simp only[Option.bind_some]
  rw[Oc z1 z2 hN,BJ (by omega) (by omega),show ((i:Int) + 1)=((i+1:Nat):Int) by omega]
  simp only[Option.bind_some]
  unfold RH
  cases Dh (Gr r.params r.At) 0 r.At <;> rfl) (by omega:n.AD.length < N)
 rw[DP] at L
 have e1:(n.AD.map Qm).map (fun f=>(f.params,f.result))=n.AD.map fun r=>(r.params,r.result):=by rw[List.map_map];rfl
 rw[Tb hl hN,L,C1]
 simp only[Option.bind_some]
 rw[OQ (p:=⟨n.decls,n.AD.map Qm⟩) S.decls (by simpa using hl) (fun f hf=>by obtain⟨r,hr,rfl⟩:=List.mem_map.1 hf;exact (S.rz hr).1) hN,e1]
 have e4:decide ((4:Int) < Sh.len n.AD)=!decide (n.AD.length≤4):=by rw[← decide_not];exact decide_eq_decide.2 (by rw[AU];omega)
 rw[e4]
 simp only[Option.bind_some]
 cases decide (n.AD.length≤4) <;> cases Mo n.decls (n.AD.map fun r=>(r.params,r.result)) <;> cases n.AD.all RH <;> rfl
theorem U6 {n:Aj} (S:HI n) {N:Nat} (hN:2000000≤N) :∃q,Fx N n=some (q,VW n)∧(VW n=true→q=DD n):=by
 have hl:=S.Oi
 unfold Fx VW
 have e4:decide ((4:Int) < Sh.len n.AD)=!decide (n.AD.length≤4):=by rw[← decide_not];exact decide_eq_decide.2 (by rw[AU];omega)
 rw[e4,UP hl hN]
 simp only[Option.bind_some]
 rw[Oa S.decls (by rw[Hb];exact hl) (fun f hf=>by obtain⟨r,hr,rfl⟩:=List.mem_map.1 (show f∈n.AD.map _ from hf);exact⟨(S.rz hr).1,(S.rz hr).2.1⟩) hN]
 have e1:((DD n).funcs.map fun f=>(f.params,f.result))=n.AD.map fun r=>(r.params,r.result):=by
  show (n.AD.map _).map _=_
  rw[List.map_map];rfl
 have e2:((DD n).funcs.all fun f=>Dh (Gr f.params f.At) 0 f.At)=n.AD.all RH:=by
  show (n.AD.map _).all _=_
  rw[List.all_map];rfl
 rw[e1,e2]
 cases h4:decide (n.AD.length≤4) with
 | false=>exact⟨⟨[],[]⟩,rfl,fun h=>by simp at h⟩
 | true=>exact⟨DD n,rfl,fun _=>rfl⟩
def OU (T:List Int→Block→Int) (r:Ac):Bool:=decide (GK r.body≤600) && decide (T r.params r.body=r.result)
theorem Oj {n:Aj} (S:HI n) {N:Nat} (hN:2000000≤N) :∃b,E0 N n=some b∧Fl N n=some b:=by
 have hl:=S.Oi
 obtain⟨q,h1,h2⟩:=U6 S hN
 unfold E0 Fl
 rw[VL S hN,h1]
 simp only[Option.bind_some]
 cases hs:VW n with
 | false=>exact⟨false,rfl,rfl⟩
 | true=>
  have hq:=h2 hs
  subst hq
  have SO:JT n:=by
   unfold VW at hs
   simp only[Bool.and_eq_true] at hs
   have:=Mf.of (p:=⟨n.decls,n.AD.map Qm⟩) (by
    rw[show List.map (fun f:Fp=>(f.params,f.result)) (n.AD.map Qm)=n.AD.map fun r=>(r.params,r.result) by rw[List.map_map];rfl]
    exact hs.2.1)
   exact this
  obtain⟨T,hT⟩:=Th SO hN 601
  have hty :∀r∈n.AD,GK r.body≤600→Jd N n r.params r.body=some (T r.params r.body)∧FP N (DD n) r.params r.body=some (T r.params r.body):=fun r hr he=>by
   obtain⟨q1,q2,q3⟩:=SO.aU (Qm r) (List.mem_map_of_mem hr)
   have q1':r.params.length≤3:=q1
   obtain⟨z1,z2,z3⟩:=hT r.params r.body (by omega) ⟨(S.Xf.AD.1 r hr).body,(S.rz hr).2.2,by omega,q2⟩ N N (by omega) (by omega)
   exact⟨z1,z2⟩
  have L1:=CS (l:=n.AD) (Cj N n) (fun _ r=>OU T r) (fun q=>by rw[Cj,if_neg (by simp[AU])]) (fun q i r hi=>by
   have hil:=(List.getElem?_eq_some_iff.1 hi).1
   have hr:=List.mem_of_getElem? hi
   rw[Cj,if_pos (by simp[AU];omega),A4 hi]
   simp only[Option.bind_some]
   rw[Ph (S.rz hr).2.2 hN,BJ (by omega) (by omega),show ((i:Int) + 1)=((i+1:Nat):Int) by omega]
   simp only[Option.bind_some]
   unfold OU
   by_cases he:GK r.body≤600
   ·rw[if_pos he,if_neg (by simp),(hty r hr he).1]
    by_cases hq:T r.params r.body=r.result <;> simp[he,hq]
   ·rw[if_neg he]
    simp[he]) (by omega:n.AD.length < N)
  have L2:=CS (l:=n.AD) (Cm N n (DD n,true)) (fun _ r=>OU T r) (fun q=>by rw[Cm,if_neg (by simp[AU])]) (fun q i r hi=>by
   have hil:=(List.getElem?_eq_some_iff.1 hi).1
   have hr:=List.mem_of_getElem? hi
   rw[Cm,if_pos (by simp[AU];omega),A4 hi]
   simp only[Option.bind_some]
   rw[QH (S.rz hr).2.2 hN,BJ (by omega) (by omega),show ((i:Int) + 1)=((i+1:Nat):Int) by omega]
   simp only[Option.bind_some]
   unfold OU
   by_cases he:GK r.body≤600
   ·rw[if_pos he,if_neg (by simp),(hty r hr he).2]
    by_cases hq:T r.params r.body=r.result <;> simp[he,hq]
   ·rw[if_neg he]
    simp[he]) (by omega:n.AD.length < N)
  rw[DP] at L1 L2
  refine⟨n.AD.all (OU T),?_,?_⟩
  ·simp only[Bool.not_true,Bool.false_eq_true,if_false]
   rw[L1,C1]
   cases n.AD.all (OU T) <;> rfl
  ·simp only[Bool.not_true,Bool.false_eq_true,if_false]
   rw[L2,C1]
   cases n.AD.all (OU T) <;> rfl
end RC



namespace RC
open Go
def Xv (s:Step):Bool:=!L9 s.op && decide (s.Ax=0)
mutual
def Xs:Step→Bool | .mk o _ i _ k=>(!L9 o && decide (i=0)) && Rh k
def Rh:List (E8 Step)→Bool | []=>true | b :: k=>Jm b && Rh k
def Jm:E8 Step→Bool | ⟨ss,_⟩=>UE ss
def UE:List Step→Bool | []=>true | s :: l=>Xs s && UE l
end
theorem T9 (s:Step):Xs s=(Xv s && Rh s.kids):=by cases s;simp only[Xs];rfl
theorem Ti (b:Block):Jm b=UE b.steps:=by cases b;simp[Jm]
theorem Rb :∀k:List Block,Rh k=k.all Jm
 | []=>rfl
 | b :: k=>by rw[List.all_cons,← Rb k];simp only[Rh]
theorem Rc :∀l:List Step,UE l=l.all Xs
 | []=>rfl
 | s :: l=>by rw[List.all_cons,← Rc l];simp only[UE]
theorem XG {b:Block} {rec:Block→Option Bool} {i:Nat} {s:Step} (hs:b.steps[i]?=some s) (hk:s.kids.length≤1048576) (hrec :∀c∈s.kids,rec c=some (Jm c)) {N:Nat} (hN:2000000≤N) :
  B4 i b rec N 0=some (if Rh s.kids=true then .inr () else .inl false):=by
 have L:=CS (l:=s.kids) (B4 i b rec) (fun _ c=>Jm c) (fun q=>by
  rw[B4,A4 hs]
  simp only[Option.bind_some]
  rw[if_neg (by simp[AU])]) (fun q k c hc=>by
  have hkl:=(List.getElem?_eq_some_iff.1 hc).1
  rw[B4,A4 hs]
  simp only[Option.bind_some]
  rw[if_pos (by simp[AU];omega),A4 hc]
  simp only[Option.bind_some]
  rw[hrec c (List.mem_of_getElem? hc),BJ (by omega) (by omega),show ((k:Int) + 1)=((k+1:Nat):Int) by omega]
  simp only[Option.bind_some]
  cases Jm c <;> rfl) (by omega:s.kids.length < N)
 rw[L,DP,Rb]
theorem SQ {N:Nat} (hN:2000000≤N) :∀(m:Nat) (b:Block),Bs b→HP b < m→D8 N m b=some (Jm b):=by
 intro m
 induction m with
 | zero=>intro b _ h;omega
 | succ m ih=>
  intro b hb hm
  have hl:=hb.len
  rw[D8]
  unfold GX
  have L:=CS (l:=b.steps) (CV N b (D8 N m)) (fun _ s=>Xs s) (fun q=>by rw[CV,if_neg (by simp[AU])]) (fun q i s hs=>by
   have hil:=(List.getElem?_eq_some_iff.1 hs).1
   have hsm:=List.mem_of_getElem? hs
   rw[CV,if_pos (by simp[AU];omega),A4 hs]
   simp only[Option.bind_some]
   rw[XF,XG hs (Kn hb hsm) (fun c hc=>ih c (Hv hb hsm hc).1 (by have:=(Hv hb hsm hc).2;omega)) hN,BJ (by omega) (by omega),show ((i:Int) + 1)=((i+1:Nat):Int) by omega,C1,T9]
   simp only[Option.bind_some]
   unfold Xv
   by_cases h0:s.Ax=0 <;> cases L9 s.op <;> cases Rh s.kids <;> simp[h0]) (by omega:b.steps.length < N)
  rw[L,DP,C1,Ti,Rc]
  cases b.steps.all Xs <;> rfl
theorem NW {N:Nat} (hN:2000000≤N) {b:Block} (hb:Bs b):HU N b=some (Jm b):=by
 unfold HU
 exact SQ hN N b hb (by unfold Bs at hb;omega)
theorem XW (f:Bool) (s:Step):En f s=some (f && Xv s):=by
 unfold En Xv
 rw[Ju]
 simp only[Option.bind_some]
 cases f <;> cases L9 s.op <;> rfl
theorem Xa {s:Step} {rec:Bool→Block→Option Bool} (hk:s.kids.length≤1048576) (hrec :∀c∈s.kids,∀f,rec f c=some (f && Jm c)) {N i:Nat} (hi:i≤s.kids.length) (hN:s.kids.length - i < N) :∀f:Bool,B6 s rec N i f=some (f && Rh (s.kids.drop i)):=by
 refine Bn s.kids.length (fun N i=>∀f:Bool,B6 s rec N i f=some (f && Rh (s.kids.drop i))) ?_ ?_ hi hN
 ·intro n f
  rw[B6,if_neg (by simp[AU])];simp[Rh]
 ·intro n i hi ih f
  obtain⟨c,hc,hcm⟩:=Bl hi
  rw[B6,if_pos (by simp[AU];omega),A4 hc]
  simp only[Option.bind_some]
  rw[hrec c hcm,BJ (by omega) (by omega),show ((i:Int) + 1)=((i+1:Nat):Int) by omega,drop_cons hc]
  simp only[Option.bind_some]
  rw[ih,Rh,Bool.and_assoc]
theorem Xd {b:Block} {rec:Bool→Block→Option Bool} {M:Nat} (hM:2000000≤M) (hb:Bs b) (hrec :∀s∈b.steps,∀c∈s.kids,∀f,rec f c=some (f && Jm c)) {N i:Nat} (hi:i≤b.steps.length) (hN:b.steps.length - i < N) :∀f:Bool,B5 M b rec N i f=some (f && UE (b.steps.drop i)):=by
 have hl:=hb.len
 refine Bn b.steps.length (fun N i=>∀f:Bool,B5 M b rec N i f=some (f && UE (b.steps.drop i))) ?_ ?_ hi hN
 ·intro n f
  rw[B5,if_neg (by simp[AU])];simp[UE]
 ·intro n i hi ih f
  obtain⟨s,hs,hsm⟩:=Bl hi
  rw[B5,if_pos (by simp[AU];omega),A4 hs]
  simp only[Option.bind_some]
  have l2:=Xa (s:=s) (Kn hb hsm) (hrec s hsm) (Nat.zero_le _) (by have:=Kn hb hsm;omega:s.kids.length - 0 < M) (f && Xv s)
  rw[show ((0:Nat):Int)=0 from rfl,List.drop_zero] at l2
  rw[XW]
  simp only[Option.bind_some]
  rw[l2,BJ (by omega) (by omega),show ((i:Int) + 1)=((i+1:Nat):Int) by omega,drop_cons hs]
  simp only[Option.bind_some]
  rw[ih,UE,T9,Bool.and_assoc,Bool.and_assoc,Bool.and_assoc]
theorem SX {N:Nat} (hN:2000000≤N) :∀(m:Nat) (b:Block),Bs b→HP b < m→∀f,D9 N m f b=some (f && Jm b):=by
 intro m
 induction m with
 | zero=>intro b _ h;omega
 | succ m ih=>
  intro b hb hm f
  have hl:=hb.len
  rw[D9]
  unfold GW
  have L:=Xd hN hb (rec:=D9 N m) (fun s hs c hc=>ih c (Hv hb hs hc).1 (by have:=(Hv hb hs hc).2;omega)) (Nat.zero_le _) (by omega:b.steps.length - 0 < N) f
  rw[show ((0:Nat):Int)=0 from rfl,List.drop_zero] at L
  rw[L,Ti];rfl
theorem MB {N:Nat} (hN:2000000≤N) {b:Block} (hb:Bs b):FV N b=some (Jm b):=by
 unfold FV Iv
 rw[SX hN N b hb (by unfold Bs at hb;omega)]
 simp
theorem Sj {n:Aj} (S:HI n) {N:Nat} (hN:2000000≤N) :∃v b,E0 N n=some v∧(b=true→v=true∧∀r∈n.AD,Jm r.body=true)∧JH N n=some b∧Gn N n=some b:=by
 have hl:=S.Oi
 obtain⟨v,h1,h2⟩:=Oj S hN
 unfold JH Fq Gn
 rw[h1,h2]
 simp only[Option.bind_some]
 cases v with
 | false=>exact⟨_,false,rfl,(fun h=>by cases h),rfl,rfl⟩
 | true=>
  have L1:=CS (l:=n.AD) (EB N n) (fun _ r=>Jm r.body) (fun q=>by rw[EB,if_neg (by simp[AU])]) (fun q i r hi=>by
   have hil:=(List.getElem?_eq_some_iff.1 hi).1
   have hr:=List.mem_of_getElem? hi
   rw[EB,if_pos (by simp[AU];omega),A4 hi]
   simp only[Option.bind_some]
   rw[NW hN (S.rz hr).2.2,BJ (by omega) (by omega),show ((i:Int) + 1)=((i+1:Nat):Int) by omega]
   simp only[Option.bind_some]
   cases Jm r.body <;> rfl) (by omega:n.AD.length < N)
  have L2:=CS (l:=n.AD) (EH N n) (fun _ r=>Jm r.body) (fun q=>by rw[EH,if_neg (by simp[AU])]) (fun q i r hi=>by
   have hil:=(List.getElem?_eq_some_iff.1 hi).1
   have hr:=List.mem_of_getElem? hi
   rw[EH,if_pos (by simp[AU];omega),A4 hi]
   simp only[Option.bind_some]
   rw[MB hN (S.rz hr).2.2,BJ (by omega) (by omega),show ((i:Int) + 1)=((i+1:Nat):Int) by omega]
   simp only[Option.bind_some]
   cases Jm r.body <;> rfl) (by omega:n.AD.length < N)
  rw[DP] at L1 L2
  refine⟨_,n.AD.all fun r=>Jm r.body,rfl,fun h=>⟨rfl,by simpa using h⟩,?_,?_⟩
  ·simp only[Bool.not_true,Bool.false_eq_true,if_false]
   rw[L1,C1]
   cases (n.AD.all fun r=>Jm r.body) <;> rfl
  ·simp only[Bool.not_true,Bool.false_eq_true,if_false]
   rw[L2,C1]
   cases (n.AD.all fun r=>Jm r.body) <;> rfl
end RC

