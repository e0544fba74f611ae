import Derived.Test.YtpahalfiiahddaaGreatGAbsXToSSDefs
import Derived.Test.YtpahalfiiahddaaGreatGHADefsToFODefs

namespace RC
open Go
theorem A9 {n:Int} (h1:-9223372036854775808≤n) (h2:n≤9223372036854775807):Sh.w n=n:=Abs.wrap_i64 h1 h2
theorem AS {α:Type} (l:List α):Sh.len l=(l.length:Int):=rfl
theorem LY {α:Type} (l:List α) (i:Nat):Sh.get l (i:Int)=l[i]?:=by
 unfold Sh.get;rw[if_pos (Int.natCast_nonneg i)];simp
theorem A8 {α:Type} {l:List α} {i:Nat} {x:α} (h:l[i]?=some x):Sh.get l (i:Int)=some x:=by rw[LY,h]
theorem P8 {α:Type} {l:List α} {j:Int} (h0:0≤j) (h1:j < l.length) :∃x,Sh.get l j=some x∧l[j.toNat]?=some x:=by
 have h:l[j.toNat]?=some (l[j.toNat]'(by omega)):=List.getElem?_eq_getElem (by omega)
 exact⟨_,by unfold Sh.get;rw[if_pos h0,h],h⟩
theorem UD {α:Type} {l:List α} {j:Int} (h0:0≤j):Sh.get l j=l[j.toNat]?:=by unfold Sh.get;rw[if_pos h0]
theorem Hi {α:Type} (l:List α) (i:Nat) (x:α):Sh.put l (i:Int) x=l.set i x:=by simp[Sh.put]
theorem JF {α:Type} (x:α) (n b:Nat) (h:n * b≤281474976710656) (h2:n≤9223372036854775807):Sh.mk x (n:Int) b=some (List.replicate n x):=by
 unfold Sh.mk
 rw[if_pos ⟨by omega,by rw[← Int.natCast_mul];omega,by omega⟩];simp
theorem DM {α:Type} (l m:List α) (b:Nat) (h:(l.length+m.length) * b≤140737488355328) (h2:l.length+m.length≤9223372036854775807):Sh.app l m b=some (l ++ m):=by
 unfold Sh.app;rw[if_pos ⟨h,h2⟩]
theorem dk {α:Type} {l:List α} {j:Nat} (h:j≤l.length):Sh.hi l (j:Int)=some (l.take j):=by
 unfold Sh.hi;rw[if_pos ⟨by omega,by omega⟩];simp
theorem Bx (len:Nat) (P:Nat→Nat→Prop) (h0 :∀n,P (n+1) len) (hs :∀n i,i < len→P n (i+1)→P (n+1) i) :∀{N i:Nat},i≤len→len - i < N→P N i:=by
 intro N i hi hN
 obtain⟨k,hk⟩ :∃k,len - i=k:=⟨_,rfl⟩
 induction k generalizing N i with
 | zero=>
  obtain⟨n,rfl⟩ :∃n,N=n+1:=⟨N - 1,by omega⟩
  have:i=len:=by omega
  subst this;exact h0 n
 | succ k ih=>
  obtain⟨n,rfl⟩ :∃n,N=n+1:=⟨N - 1,by omega⟩
  exact hs n i (by omega) (ih (by omega) (by omega) (by omega))
theorem Bn {α:Type} {l:List α} {i:Nat} (h:i < l.length) :∃x,l[i]?=some x∧x∈l:=⟨l[i],List.getElem?_eq_getElem h,List.getElem_mem h⟩
theorem CC {α:Type} {l:List α} {j:Nat} {x:α} (h:l[j]?=some x):l.take (j+1)=l.take j ++ [x]:=by rw[List.take_add_one,h];rfl
theorem drop_cons {α:Type} {l:List α} {j:Nat} {x:α} (h:l[j]?=some x):l.drop j=x :: l.drop (j+1):=by
 obtain⟨hj,rfl⟩:=List.getElem?_eq_some_iff.1 h
 exact List.drop_eq_getElem_cons hj
def Ze (h:List Cell):Nat:=(h.map fun c=>c.fields.length).sum
def FJ (h:List Cell):Nat:=h.length+Ze h
structure Hp (h:List Cell):Prop where
 size:FJ h≤1048576
 cells :∀c∈h,VQ c
theorem ZJ {h:List Cell} {c:Cell} (hc:c∈h):c.fields.length≤Ze h:=by
 induction h with
 | nil=>cases hc
 | cons d h ih=>
  simp only[Ze,List.map_cons,List.sum_cons] at ih ⊢
  rcases List.mem_cons.1 hc with rfl | hc
  ·omega
  ·have:=ih hc;omega
theorem Hp.len {h:List Cell} (H:Hp h):h.length≤1048576:=by have:=H.size;unfold FJ at this;omega
theorem Hp.OF {h:List Cell} (H:Hp h) {c:Cell} (hc:c∈h):c.fields.length≤1048576:=by have:=H.size;have:=ZJ hc;unfold FJ at *;omega
end RC



namespace RC
open Go
def EV {α:Type} (f:Nat→α→Bool):Nat→List α→Bool
 | _,[]=>true
 | k,x :: r=>f k x && EV f (k+1) r
theorem P9 {α:Type} {f g:Nat→α→Bool} :∀(l:List α) (k:Nat),(∀(i:Nat) x,l[i]?=some x→f (k+i) x=g (k+i) x)→EV f k l=EV g k l
 | [],_,_=>rfl
 | x :: r,k,h=>by
  have h0:=h 0 x rfl
  rw[Nat.add_zero] at h0
  have h1:=P9 r (k+1) fun i y hy=>(show k+(i+1)=k+1+i by omega) ▸ h (i+1) y hy
  rw[EV,EV,h0,h1]
theorem Dk {α:Type} {p:α→Bool} :∀(l:List α) (k:Nat),EV (fun _ x=>p x) k l=l.all p
 | [],_=>rfl
 | x :: r,k=>by rw[EV,Dk r (k+1),List.all_cons]
theorem C9 {α:Type} {l:List α} (L:Nat→Int→Option (Bool ⊕ Unit)) (f:Nat→α→Bool) (h0 :∀n,L (n+1) (l.length:Int)=some (.inr ()))
  (hs :∀n (i:Nat) x,l[i]?=some x→L (n+1) (i:Int)=if f i x=true then L n ((i+1:Nat):Int) else some (.inl false)) {N:Nat} (hN:l.length < N) :
  L N 0=some (if EV f 0 l=true then .inr () else .inl false):=by
 have key :∀{N i:Nat},i≤l.length→l.length - i < N→L N (i:Int)=some (if EV f i (l.drop i)=true then .inr () else .inl false):=by
  intro N i hi hN
  refine Bx l.length (fun N i=>L N (i:Int)=some (if EV f i (l.drop i)=true then .inr () else .inl false)) ?_ ?_ hi hN
  ·intro n;rw[h0 n];simp[EV]
  ·intro n i hi ih
   obtain⟨x,hx,_⟩:=Bn hi
   rw[hs n i x hx,ih,drop_cons hx,EV]
   cases h:f i x <;> simp
 have:=key (Nat.zero_le _) (by omega:l.length - 0 < N)
 simpa using this
theorem EH {β:Type} {b:Bool} {g:Bool→β} {K:Unit→Option β}:Sh.cont (some (if b=true then Sum.inr () else Sum.inl false)) g K=if b=true then K () else some (g false):=by
 cases b <;> rfl
theorem Vh {α:Type} {l:List α} {j:Nat} (h:j≤l.length) (h2:l.length≤9223372036854775807):Sh.sl l 0 (j:Int)=some (l.take j):=by
 unfold Sh.sl
 rw[if_pos ⟨by omega,by omega,by omega⟩];simp
end RC


namespace RC
open Go
theorem Su {l:List Int} {left:Int} (h0:0≤left) (h1:left≤1048576) (hl:l.length≤9223372036854775807):HP l left=some (if left - l.length < 0 then -1 else left - l.length):=by
 unfold HP
 rw[AS,A9 (by omega) (by omega)]
 by_cases h:left - l.length < 0 <;> simp[h]
theorem Td {l:List Int} (hl:l.length≤1048576) {N i:Nat} (hi:i≤l.length) (hN:l.length - i < N) :∀m:List Int,m.length=l.length→m.take i=l.take i→D2 l N i m=some l:=by
 refine Bx l.length (fun N i=>∀m:List Int,m.length=l.length→m.take i=l.take i→D2 l N i m=some l) ?_ ?_ hi hN
 ·intro n m hm ht
  rw[D2,if_neg (by simp[AS])]
  rw[List.take_of_length_le (by omega),List.take_length] at ht
  rw[ht]
 ·intro n i hi ih m hm ht
  obtain⟨x,hx,_⟩:=Bn hi
  obtain⟨y,hy,_⟩:=Bn (l:=m) (i:=i) (by omega)
  rw[D2,if_pos (by simp[AS];omega),A8 hx]
  simp only[Option.bind_some]
  rw[A8 hy]
  simp only[Option.bind_some]
  rw[A9 (by omega) (by omega),Hi,show ((i:Int) + 1)=((i+1:Nat):Int) by omega]
  refine ih _ (by simp[hm]) ?_
  rw[CC hx,CC (x:=x) (by rw[List.getElem?_set];simp;omega),List.take_set_of_le (Nat.le_refl _),ht]
theorem Sg {l:List Int} (hl:l.length≤1048576) {N:Nat} (hN:2000000≤N):HR N l=some l:=by
 unfold HR
 rw[AS,JF 0 l.length 8 (by omega) (by omega)]
 simp only[Option.bind_some]
 have:=Td hl (Nat.zero_le _) (by omega:l.length - 0 < N) (List.replicate l.length 0) (by simp) (by simp)
 rw[show ((0:Nat):Int)=0 from rfl] at this
 rw[this];rfl
theorem Tx {l:List Int} (hl:l.length≤1048576) {N i:Nat} (hi:i≤l.length) (hN:l.length - i < N):Dz l l N i=some (Sum.inr ()):=by
 refine Bx l.length (fun N i=>Dz l l N i=some (Sum.inr ())) ?_ ?_ hi hN
 ·intro n
  rw[Dz,if_neg (by simp[AS])]
 ·intro n i hi ih
  obtain⟨x,hx,_⟩:=Bn hi
  rw[Dz,if_pos (by simp[AS];omega),A8 hx]
  simp only[Option.bind_some]
  rw[A9 (by omega) (by omega),show ((i:Int) + 1)=((i+1:Nat):Int) by omega]
  simpa using ih
theorem TV {l:List Int} (hl:l.length≤1048576) {N:Nat} (hN:2000000≤N):HO N l l=some true:=by
 unfold HO
 have:=Tx hl (Nat.zero_le _) (by omega:l.length - 0 < N)
 rw[show ((0:Nat):Int)=0 from rfl] at this
 simp[this]
end RC


namespace RC
open Go
def dH (h:List Cell) (w:Int):Bool:=decide (1000≤w) && (match h[(w - 1000).toNat]? with | some c=>decide (0 < c.count) | none=>false)
theorem DN (a b c:Int):CL a b c=some (decide (b≤a) && decide (a≤c)):=by
 unfold CL
 by_cases h:b≤a <;> simp[h]
end RC



namespace RC
open Go
def CB (D:List Ab) (t:Int):Bool:=decide (0≤t) && decide (t≤(D.length:Int))
theorem K0 {D:List Ab} {x:Int}:CL x 0 (Sh.len D)=some (CB D x):=by rw[DN];rfl
theorem Kp {D:List Ab} {l:List Int} (hl:l.length≤1048576) {N:Nat} (hN:l.length < N):F9 N D l=some (l.all (CB D)):=by
 unfold F9
 rw[C9 (l:=l) (Du D l) (fun _ x=>CB D x) (fun n=>by rw[Du,if_neg (by simp[AS])]) (fun n i x hx=>?_) hN,EH,Dk]
 ·cases l.all (CB D) <;> rfl
 ·have hi:=(List.getElem?_eq_some_iff.1 hx).1
  rw[Du,if_pos (by simp[AS];omega),A8 hx]
  simp only[Option.bind_some]
  rw[K0,A9 (by omega) (by omega),show ((i:Int) + 1)=((i+1:Nat):Int) by omega]
  simp only[Option.bind_some]
  cases CB D x <;> rfl
theorem Hy {D:List Ab} {t:Int}:Ft D t=some (CB D t):=by
 unfold Ft CB
 by_cases h:0≤t <;> by_cases h2:t≤(D.length:Int) <;> simp[h,h2,AS]
theorem Ig {D:List Ab} {l:List Int} (hl:l.length≤1048576) {N:Nat} (hN:l.length < N):FZ N D l=some (l.all (CB D)):=by
 unfold FZ
 rw[C9 (l:=l) (Dq D l) (fun _ x=>CB D x) (fun n=>by rw[Dq,if_neg (by simp[AS])]) (fun n i x hx=>?_) hN,EH,Dk]
 ·cases l.all (CB D) <;> rfl
 ·have hi:=(List.getElem?_eq_some_iff.1 hx).1
  rw[Dq,if_pos (by simp[AS];omega),A8 hx]
  simp only[Option.bind_some]
  rw[Hy,A9 (by omega) (by omega),show ((i:Int) + 1)=((i+1:Nat):Int) by omega]
  simp only[Option.bind_some]
  cases CB D x <;> rfl
def OE (D:List Ab) (c:BU):Bool:=decide (c.fields.length≤3) && c.fields.all (CB D)
def F5 (a b:Ab):Bool:=decide (a.cons.length=0) && (decide (a.from_=b.from_) && decide (a.to=b.to))
def Jk (D:List Ab) (i:Nat) (d:Ab):Bool:=
 if 0 < d.cons.length then (decide (d.cons.length≤3) && (decide (d.from_=0) && decide (d.to=0))) && d.cons.all (OE D)
 else (D.take i).all (fun e=>!F5 e d) && (CB D d.from_ && CB D d.to)
def QT (D:List Ab) (i:Nat) (d:Ab):Bool:=
 ((CB D d.from_ && (CB D d.to && (decide (d.cons.length≤3) && (!(decide (0 < d.cons.length) && (!decide (d.from_=0) || !decide (d.to=0))))))) && d.cons.all (OE D)) && (D.take i).all (fun e=>!(decide (d.cons.length=0) && F5 e d))
theorem Wq (D:List Ab) (i:Nat) (d:Ab):QT D i d=Jk D i d:=by
 unfold QT Jk
 by_cases h:0 < d.cons.length
 ·have h0:¬ d.cons.length=0:=by omega
  have ha:(D.take i).all (fun e=>!(decide (d.cons.length=0) && F5 e d))=true:=by simp[h0]
  rw[if_pos h,ha]
  by_cases h1:d.from_=0 <;> by_cases h2:d.to=0 <;> simp[h,h1,h2,CB]
 ·have h0:d.cons.length=0:=by omega
  have hc:d.cons=[]:=List.eq_nil_of_length_eq_zero h0
  rw[if_neg h]
  simp only[hc,h0,List.length_nil,List.all_nil,decide_true,Bool.true_and,Bool.and_true]
  cases CB D d.from_ <;> cases CB D d.to <;> simp
structure Ns (D:List Ab):Prop where
 len:D.length≤1048576
 cons :∀d∈D,d.cons.length≤1048576
 Kv :∀d∈D,∀c∈d.cons,c.fields.length≤1048576
theorem Oz {D:List Ab} (hD:Ns D) {i:Nat} {d:Ab} (hd:D[i]?=some d) {N:Nat} (hN:2000000≤N):Ge N D i=some (Jk D i d):=by
 have hm:=List.mem_of_getElem? hd
 have hi:=(List.getElem?_eq_some_iff.1 hd).1
 have hlen:=hD.len
 have hc:=hD.cons d hm
 unfold Ge Jk
 rw[A8 hd]
 simp only[Option.bind_some]
 by_cases h:0 < d.cons.length
 ·rw[if_pos (by simp[AS];omega),if_pos h]
  rw[C9 (l:=d.cons) (Db N d D) (fun _ c=>OE D c) (fun n=>by rw[Db,if_neg (by simp[AS])]) (fun n j c hj=>?_) (by omega),EH,Dk]
  ·simp only[AS]
   by_cases h3:d.cons.length≤3
   ·have e3:¬ (3:Int) < (d.cons.length:Int):=by omega
    generalize d.cons.all (OE D)=z
    cases z <;> by_cases h1:d.from_=0 <;> by_cases h2:d.to=0 <;> simp[h1,h2,h3,e3]
   ·have e3:(3:Int) < (d.cons.length:Int):=by omega
    simp[h3,e3]
  ·have hj':=(List.getElem?_eq_some_iff.1 hj).1
   have hf:=hD.Kv d hm c (List.mem_of_getElem? hj)
   rw[Db,if_pos (by simp[AS];omega),A8 hj]
   simp only[Option.bind_some]
   rw[Kp hf (by omega),A9 (by omega) (by omega),show ((j:Int) + 1)=((j+1:Nat):Int) by omega]
   unfold OE
   by_cases h3:c.fields.length≤3
   ·have e3:¬ (3:Int) < (c.fields.length:Int):=by omega
    simp only[AS]
    cases c.fields.all (CB D) <;> simp[h3,e3]
   ·have e3:(3:Int) < (c.fields.length:Int):=by omega
    simp[h3,e3,AS]
 ·have h0:d.cons.length=0:=by omega
  have e0:¬ decide ((0:Int) < Sh.len d.cons)=true:=by rw[AS,h0];simp
  rw[if_neg e0,if_neg h]
  have hlt:(D.take i).length=i:=by simp;omega
  rw[C9 (l:=D.take i) (DR d D i) (fun _ e=>!F5 e d) (fun n=>by rw[DR,if_neg (by simp;omega)]) (fun n j e hj=>?_) (by omega),EH,Dk]
  ·rw[K0,K0]
   simp only[Option.bind_some]
   cases (D.take i).all (fun e=>!F5 e d) <;> cases CB D d.from_ <;> simp
  ·have hj':=(List.getElem?_eq_some_iff.1 hj).1
   have hje:D[j]?=some e:=by rw[List.getElem?_take] at hj;split at hj <;> first | exact hj | cases hj
   rw[DR,if_pos (by simp;omega),A8 hje]
   simp only[Option.bind_some]
   rw[A9 (by omega) (by omega),show ((j:Int) + 1)=((j+1:Nat):Int) by omega]
   unfold F5
   simp only[AS]
   by_cases a0:e.cons.length=0 <;> by_cases a1:e.from_=d.from_ <;> by_cases a2:e.to=d.to <;> simp[a0,a1,a2]
def Ko (D:List Ab):Bool:=decide (D.length≤4) && EV (Jk D) 0 D
theorem OA {D:List Ab} (hD:Ns D) {N:Nat} (hN:2000000≤N):GI N D=some (Ko D):=by
 have hlen:=hD.len
 unfold GI Ko
 rw[C9 (l:=D) (DE N D) (Jk D) (fun n=>by rw[DE,if_neg (by simp[AS])]) (fun n i d hd=>?_) (by omega),EH]
 ·simp only[AS]
  by_cases h:D.length≤4
  ·have e4:¬ (4:Int) < (D.length:Int):=by omega
   cases EV (Jk D) 0 D <;> simp[h,e4]
  ·have e4:(4:Int) < (D.length:Int):=by omega
   simp[h,e4]
 ·have hi:=(List.getElem?_eq_some_iff.1 hd).1
  rw[DE,if_pos (by simp[AS];omega),Oz hD hd hN]
  simp only[Option.bind_some]
  rw[A9 (by omega) (by omega),show ((i:Int) + 1)=((i+1:Nat):Int) by omega]
  cases Jk D i d <;> rfl
theorem N7 {D:List Ab} (hD:Ns D) {N:Nat} (hN:2000000≤N):GL N D=some (Ko D):=by
 have hlen:=hD.len
 unfold GL Ko
 rw[← P9 (f:=QT D) D 0 (fun i d _=>Wq D _ d)]
 rw[C9 (l:=D) (DD N D) (QT D) (fun n=>by rw[DD,if_neg (by simp[AS])]) (fun n i d hd=>?_) (by omega),EH]
 ·simp only[AS]
  by_cases h:D.length≤4
  ·have e4:¬ (4:Int) < (D.length:Int):=by omega
   cases EV (QT D) 0 D <;> simp[h,e4]
  ·have e4:(4:Int) < (D.length:Int):=by omega
   simp[h,e4]
 ·have hi:=(List.getElem?_eq_some_iff.1 hd).1
  have hm:=List.mem_of_getElem? hd
  have hc:=hD.cons d hm
  have l2:Ch N d D N 0=some (if d.cons.all (OE D)=true then .inr () else .inl false):=by
   rw[C9 (l:=d.cons) (Ch N d D) (fun _ c=>OE D c) (fun n=>by rw[Ch,if_neg (by simp[AS])]) (fun n j c hj=>?_) (by omega),Dk]
   have hj':=(List.getElem?_eq_some_iff.1 hj).1
   have hf:=hD.Kv d hm c (List.mem_of_getElem? hj)
   rw[Ch,if_pos (by simp[AS];omega),A8 hj]
   simp only[Option.bind_some]
   rw[Ig hf (by omega),A9 (by omega) (by omega),show ((j:Int) + 1)=((j+1:Nat):Int) by omega]
   unfold OE
   by_cases h3:c.fields.length≤3
   ·have e3:¬ (3:Int) < (c.fields.length:Int):=by omega
    simp only[AS]
    cases c.fields.all (CB D) <;> simp[h3,e3]
   ·have e3:(3:Int) < (c.fields.length:Int):=by omega
    simp[h3,e3,AS]
  have hlt:(D.take i).length=i:=by simp;omega
  have l3:Cg d (D.take i) N 0=some (if (D.take i).all (fun e=>!(decide (d.cons.length=0) && F5 e d))=true then .inr () else .inl false):=by
   rw[C9 (l:=D.take i) (Cg d (D.take i)) (fun _ e=>!(decide (d.cons.length=0) && F5 e d)) (fun n=>by rw[Cg,if_neg (by simp[AS])]) (fun n j e hj=>?_) (by omega),Dk]
   have hj':=(List.getElem?_eq_some_iff.1 hj).1
   rw[Cg,if_pos (by simp only[AS];simp;omega),A8 hj]
   simp only[Option.bind_some]
   rw[A9 (by omega) (by omega),show ((j:Int) + 1)=((j+1:Nat):Int) by omega]
   unfold F5
   simp only[AS]
   by_cases b0:d.cons.length=0 <;> by_cases a0:e.cons.length=0 <;> by_cases a1:e.from_=d.from_ <;> by_cases a2:e.to=d.to <;> simp[a0,a1,a2,b0]
  rw[DD,if_pos (by simp[AS];omega),A8 hd]
  simp only[Option.bind_some]
  rw[Hy,Hy,l2,Vh (by omega) (by omega),A9 (by omega) (by omega),show ((i:Int) + 1)=((i+1:Nat):Int) by omega]
  simp only[Option.bind_some]
  rw[l3,EH,EH]
  unfold QT
  simp only[AS]
  generalize d.cons.all (OE D)=z1
  generalize (D.take i).all (fun e=>!(decide (d.cons.length=0) && F5 e d))=z2
  by_cases h3:d.cons.length≤3
  ·have e3:¬ (3:Int) < (d.cons.length:Int):=by omega
   by_cases h0:0 < d.cons.length
   ·have e0:(0:Int) < (d.cons.length:Int):=by omega
    cases CB D d.from_ <;> cases CB D d.to <;> cases z1 <;> cases z2 <;> by_cases h1:d.from_=0 <;> by_cases h2:d.to=0 <;> simp[h1,h2,h3,e3,h0]
   ·have e0:¬ (0:Int) < (d.cons.length:Int):=by omega
    cases CB D d.from_ <;> cases CB D d.to <;> cases z1 <;> cases z2 <;> simp[h3,e3,h0]
  ·have e3:(3:Int) < (d.cons.length:Int):=by omega
   cases CB D d.from_ <;> cases CB D d.to <;> simp[h3,e3]
end RC



namespace RC
open Go
def Jp (ps ls:List Int) (i:Nat) (v:Int):Bool:=
 (decide (0≤v) && decide (v < (ps.length:Int))) && (!decide (ps[v.toNat]?=some 0) && !(decide (0 < i) && decide (v≤(ls[i - 1]?).getD 0)))
theorem ZA {ls:List Int} {i:Nat} (h0:0 < i) (hi:i < ls.length) :∃x,ls[i - 1]?=some x∧Sh.get ls (((i:Nat):Int) - 1)=some x:=by
 obtain⟨x,hx,_⟩:=Bn (l:=ls) (i:=i - 1) (by omega)
 exact⟨x,hx,by rw[show ((i:Int) - 1)=((i - 1:Nat):Int) by omega,A8 hx]⟩
theorem Tf {c:BX} (hp:c.params.length≤1048576) (hl:c.Ew.length≤1048576) {N:Nat} (hN:2000000≤N):Cy c N 0=some (if EV (Jp c.params c.Ew) 0 c.Ew=true then .inr () else .inl false):=by
 refine C9 (l:=c.Ew) (Cy c) (Jp c.params c.Ew) (fun n=>by rw[Cy,if_neg (by simp[AS])]) (fun n i v hv=>?_) (by omega)
 have hi:=(List.getElem?_eq_some_iff.1 hv).1
 rw[Cy,if_pos (by simp[AS];omega),A8 hv]
 simp only[Option.bind_some]
 rw[AS,A9 (n:=(i:Int) + 1) (by omega) (by omega),A9 (n:=(i:Int) - 1) (by omega) (by omega),show ((i:Int) + 1)=((i+1:Nat):Int) by omega]
 unfold Jp
 by_cases h0:0≤v
 ·have h0':¬ v < 0:=by omega
  by_cases h1:v < (c.params.length:Int)
  ·have h1':¬ (c.params.length:Int)≤v:=by omega
   obtain⟨d,e1,e2⟩:=P8 h0 h1
   rw[e1,e2]
   by_cases hi0:0 < i
   ·obtain⟨x,g1,g2⟩:=ZA hi0 hi
    rw[g1,g2]
    by_cases hc:d=0 <;> by_cases hx:v≤x <;> simp[h0,h0',h1,h1',hc,hi0,hx]
   ·by_cases hc:d=0 <;> simp[h0,h0',h1,h1',hc,hi0]
  ·have h1':(c.params.length:Int)≤v:=by omega
   simp[h0,h0',h1,h1']
 ·have h0':v < 0:=by omega
  simp[h0,h0']
def Ls (D:List Ab) (ps:List Int) (r:Int):Bool:=decide (ps.length≤3) && (ps.all (CB D) && CB D r)
theorem QO {p:Aa} (hf:p.funcs.length≤1048576) (hp :∀f∈p.funcs,f.params.length≤1048576) {N:Nat} (hN:2000000≤N):Cw N p N 0=some (if (p.funcs.all fun f=>Ls p.decls f.params f.result)=true then .inr () else .inl false):=by
 rw[← Dk _ 0]
 refine C9 (l:=p.funcs) (Cw N p) (fun _ f=>Ls p.decls f.params f.result) (fun n=>by rw[Cw,if_neg (by simp[AS])]) (fun n i f hi=>?_) (by omega)
 have hi':=(List.getElem?_eq_some_iff.1 hi).1
 have hpf:=hp f (List.mem_of_getElem? hi)
 rw[Cw,if_pos (by simp[AS];omega),A8 hi]
 simp only[Option.bind_some]
 rw[Kp hpf (by omega),K0,A9 (by omega) (by omega),show ((i:Int) + 1)=((i+1:Nat):Int) by omega]
 unfold Ls
 simp only[AS]
 by_cases h3:f.params.length≤3
 ·have e3:¬ (3:Int) < (f.params.length:Int):=by omega
  generalize f.params.all (CB p.decls)=z
  cases z <;> cases CB p.decls f.result <;> simp[h3,e3]
 ·have e3:(3:Int) < (f.params.length:Int):=by omega
  simp[h3,e3]
theorem QQ {D:List Ab} {l:List BX} (hf:l.length≤1048576) (hp :∀f∈l,f.params.length≤1048576∧f.Ew.length≤1048576) {N:Nat} (hN:2000000≤N):Cz N D l N 0=some (if (l.all fun f=>Ls D f.params f.result && EV (Jp f.params f.Ew) 0 f.Ew)=true then .inr () else .inl false):=by
 rw[← Dk _ 0]
 refine C9 (l:=l) (Cz N D l) (fun _ f=>Ls D f.params f.result && EV (Jp f.params f.Ew) 0 f.Ew) (fun n=>by rw[Cz,if_neg (by simp[AS])]) (fun n i f hi=>?_) (by omega)
 have hi':=(List.getElem?_eq_some_iff.1 hi).1
 have hpf:=hp f (List.mem_of_getElem? hi)
 rw[Cz,if_pos (by simp[AS];omega),A8 hi]
 simp only[Option.bind_some]
 rw[Ig hpf.1 (by omega),Hy,Tf hpf.1 hpf.2 hN,EH,A9 (by omega) (by omega),show ((i:Int) + 1)=((i+1:Nat):Int) by omega]
 unfold Ls
 simp only[AS]
 generalize EV (Jp f.params f.Ew) 0 f.Ew=y
 by_cases h3:f.params.length≤3
 ·have e3:¬ (3:Int) < (f.params.length:Int):=by omega
  generalize f.params.all (CB D)=z
  cases z <;> cases CB D f.result <;> cases y <;> simp[h3,e3]
 ·have e3:(3:Int) < (f.params.length:Int):=by omega
  simp[h3,e3]
end RC
namespace RC
open Go
def VG (D:List (List Int×Int)):Bool:=match D with | []=>false | (ps,r) :: _=>decide (ps.length=0) && decide (r=0)
def Lz (D:List Ab) (l:List (List Int×Int)):Bool:=Ko D && ((decide (1≤l.length) && decide (l.length≤4)) && (l.all (fun s=>Ls D s.1 s.2) && VG l))
theorem OZ {p:Aa} (hD:Ns p.decls) (hf:p.funcs.length≤1048576) (hp :∀f∈p.funcs,f.params.length≤1048576) {N:Nat} (hN:2000000≤N):Fk N p=some (Lz p.decls (p.funcs.map fun f=>(f.params,f.result))):=by
 unfold Fk Lz
 rw[OA hD hN,QO hf hp hN,EH,DN]
 simp only[Option.bind_some,List.length_map,List.all_map,Function.comp_def]
 cases Ko p.decls with
 | false=>simp
 | true=>
  cases hl:p.funcs with
  | nil=>simp[AS]
  | cons f r=>
   have e0:Sh.get (f :: r) 0=some f:=rfl
   rw[e0]
   generalize (f :: r).all (fun f=>Ls p.decls f.params f.result)=z
   simp only[List.map_cons,VG]
   have q1:decide ((1:Int)≤Sh.len (f :: r))=true:=decide_eq_true (by rw[AS,List.length_cons];omega)
   have q2:decide (1≤(f :: r).length)=true:=by simp
   have q3:decide (Sh.len (f :: r)≤4)=decide ((f :: r).length≤4):=decide_eq_decide.2 (by rw[AS];omega)
   have q4:decide (Sh.len f.params=0)=decide (f.params.length=0):=decide_eq_decide.2 (by rw[AS];omega)
   simp only[q1,q2,q3,q4,Option.bind_some]
   cases decide ((f :: r).length≤4) <;> cases z <;> by_cases a1:f.params.length=0 <;> by_cases a2:f.result=0 <;> simp[a1,a2]
theorem O6 {D:List Ab} {l:List BX} (hD:Ns D) (hf:l.length≤1048576) (hp :∀f∈l,f.params.length≤1048576∧f.Ew.length≤1048576) {N:Nat} (hN:2000000≤N) :
  Gi N D l=some (Lz D (l.map fun f=>(f.params,f.result)) && l.all (fun f=>EV (Jp f.params f.Ew) 0 f.Ew)):=by
 unfold Gi Lz
 rw[N7 hD hN,QQ hf hp hN,EH]
 have hsplit:(l.all fun f=>Ls D f.params f.result && EV (Jp f.params f.Ew) 0 f.Ew)=((l.all fun f=>Ls D f.params f.result) && (l.all fun f=>EV (Jp f.params f.Ew) 0 f.Ew)):=by
  clear hf hp
  induction l with
  | nil=>rfl
  | cons f r ih=>
   simp only[List.all_cons,ih]
   cases Ls D f.params f.result <;> cases EV (Jp f.params f.Ew) 0 f.Ew <;> simp
 rw[hsplit]
 simp only[Option.bind_some,List.length_map,List.all_map,Function.comp_def]
 cases Ko D with
 | false=>simp
 | true=>
  cases hl:l with
  | nil=>simp[AS]
  | cons f r=>
   have e0:Sh.get (f :: r) 0=some f:=rfl
   rw[e0]
   generalize (f :: r).all (fun f=>Ls D f.params f.result)=z
   generalize (f :: r).all (fun f=>EV (Jp f.params f.Ew) 0 f.Ew)=y
   simp only[List.map_cons,VG]
   have q1:decide (Sh.len (f :: r) < 1)=false:=decide_eq_false (by rw[AS,List.length_cons];omega)
   have q2:decide (1≤(f :: r).length)=true:=by simp
   have q3:decide ((4:Int) < Sh.len (f :: r))=!decide ((f :: r).length≤4):=by rw[← decide_not];exact decide_eq_decide.2 (by rw[AS];omega)
   have q4:decide ((0:Int) < Sh.len f.params)=!decide (f.params.length=0):=by rw[← decide_not];exact decide_eq_decide.2 (by rw[AS];omega)
   simp only[q1,q2,q3,q4,Option.bind_some]
   cases decide ((f :: r).length≤4) <;> cases z <;> cases y <;> by_cases a1:f.params.length=0 <;> by_cases a2:f.result=0 <;> simp[a1,a2]
end RC



namespace RC
open Go
def nc (D:List Ab):Nat:=(D.map (·.cons.length)).sum
theorem KR {D:List Ab} {i:Nat} {d:Ab} (h:D[i]?=some d):nc (D.take (i+1))=nc (D.take i) + d.cons.length:=by
 rw[CC h];simp[nc]
theorem PW {D:List Ab} {i:Nat} {d:Ab} (h:D[i]?=some d):nc (D.drop i)=d.cons.length+nc (D.drop (i+1)):=by
 rw[drop_cons h];simp[nc]
theorem Fj (D:List Ab) (i:Nat):nc D=nc (D.take i) + nc (D.drop i):=by
 unfold nc
 rw[← List.sum_append_nat,← List.map_append,List.take_append_drop]
theorem Fw {D:List Ab} (hD:D.length≤1048576) (hn:nc D≤1048576) {i:Nat} (hi:i≤D.length) {N:Nat} (hN:2000000≤N):E7 N D i=some (nc (D.take i):Int):=by
 unfold E7
 have key :∀{N j:Nat},j≤i→i - j < N→DJ D i N (nc (D.take j)) j=some (nc (D.take i):Int):=by
  intro N j hj hN
  refine Bx i (fun N j=>DJ D i N (nc (D.take j)) j=some (nc (D.take i):Int)) ?_ ?_ hj hN
  ·intro n;rw[DJ,if_neg (by simp)]
  ·intro n j hj ih
   obtain⟨d,hd,_⟩:=Bn (l:=D) (i:=j) (by omega)
   have hs:=Fj D (j+1)
   have ht:=KR hd
   rw[DJ,if_pos (by simp;omega),A8 hd]
   simp only[Option.bind_some]
   rw[AS,A9 (n:=(j:Int) + 1) (by omega) (by omega),A9 (by omega) (by omega),show ((nc (D.take j):Int) + (d.cons.length:Int))=((nc (D.take (j+1)):Nat):Int) by omega,show ((j:Int) + 1)=((j+1:Nat):Int) by omega]
   exact ih
 have:=key (Nat.zero_le _) (by omega:i - 0 < N)
 rw[show (((nc (D.take 0):Nat):Int))=0 from rfl,show (((0:Nat):Int))=0 from rfl] at this
 rw[this];rfl
theorem PF {D:List Ab} (hD:D.length≤1048576) (hn:nc D≤1048576) {N:Nat} (hN:2000000≤N):HJ N D=some (nc D:Int):=by
 unfold HJ
 have key :∀{N j:Nat},j≤D.length→D.length - j < N→DH D N (nc (D.take j)) j=some (nc D:Int):=by
  intro N j hj hN
  refine Bx D.length (fun N j=>DH D N (nc (D.take j)) j=some (nc D:Int)) ?_ ?_ hj hN
  ·intro n;rw[DH,if_neg (by simp[AS]),List.take_length]
  ·intro n j hj ih
   obtain⟨d,hd,_⟩:=Bn hj
   have hs:=Fj D (j+1)
   have ht:=KR hd
   rw[DH,if_pos (by simp[AS];omega),A8 hd]
   simp only[Option.bind_some]
   rw[AS,A9 (n:=(j:Int) + 1) (by omega) (by omega),A9 (by omega) (by omega),show ((nc (D.take j):Int) + (d.cons.length:Int))=((nc (D.take (j+1)):Nat):Int) by omega,show ((j:Int) + 1)=((j+1:Nat):Int) by omega]
   exact ih
 have:=key (Nat.zero_le _) (by omega:D.length - 0 < N)
 rw[show (((nc (D.take 0):Nat):Int))=0 from rfl,show (((0:Nat):Int))=0 from rfl] at this
 rw[this];rfl
def Hm:List Ab→Nat→Nat→Option (Nat×BU)
 | [],_,_=>none
 | d :: r,k,c=>match d.cons[c]? with
  | some x=>some (k+1,x)
  | none=>Hm r (k+1) (c - d.cons.length)
theorem Mo {D:List Ab} (hD:D.length≤1048576) (hn:nc D≤1048576) {c:Nat} (hc:c < nc D) {N:Nat} (hN:2000000≤N) :∃t x,Hm D 0 c=some (t,x)∧GS N D c=some ((t:Int),x):=by
 have key :∀(m j N c:Nat),D.length - j=m→j≤D.length→m < N→c < nc (D.drop j)→∃t x,Hm (D.drop j) j c=some (t,x)∧Dw D N c j=some (.inl ((t:Int),x)):=by
  intro m
  induction m with
  | zero=>
   intro j N c h1 h2 _ h3
   rw[List.drop_eq_nil_of_le (by omega)] at h3;simp[nc] at h3
  | succ m ih=>
   intro j N c h1 h2 h3 h4
   obtain⟨N,rfl⟩ :∃n,N=n+1:=⟨N - 1,by omega⟩
   obtain⟨d,hd,_⟩:=Bn (l:=D) (i:=j) (by omega)
   have hs:=Fj D j
   rw[PW hd] at h4 hs
   rw[drop_cons hd]
   unfold Hm
   rw[Dw,if_pos (by simp[AS];omega),A8 hd]
   simp only[Option.bind_some]
   rw[if_pos (by simp),AS,A9 (n:=(j:Int) + 1) (by omega) (by omega),A9 (by omega) (by omega)]
   cases hx:d.cons[c]? with
   | some x=>
    have hlt:=(List.getElem?_eq_some_iff.1 hx).1
    refine⟨j+1,x,rfl,?_⟩
    have e:((c:Int) < (d.cons.length:Int)):=by omega
    simp[e,A8 hx]
   | none=>
    have hle:d.cons.length≤c:=by simpa using hx
    obtain⟨t,x,g1,g2⟩:=ih (j+1) N (c - d.cons.length) (by omega) (by omega) (by omega) (by omega)
    refine⟨t,x,g1,?_⟩
    have e:¬ ((c:Int) < (d.cons.length:Int)):=by omega
    rw[← g2,show ((c:Int) - (d.cons.length:Int))=((c - d.cons.length:Nat):Int) by omega,show ((j:Int) + 1)=((j+1:Nat):Int) by omega]
    simp[e]
 obtain⟨t,x,g1,g2⟩:=key D.length 0 N c (by omega) (by omega) (by omega) (by simpa using hc)
 refine⟨t,x,by simpa using g1,?_⟩
 unfold GS
 rw[show (((0:Nat):Int))=0 from rfl] at g2
 rw[g2];rfl
end RC
namespace RC
open Go
theorem JR {D:List Ab} (hD:D.length≤1048576) (hn:nc D≤1048576) {c:Nat} (hc:c < nc D) {N:Nat} (hN:2000000≤N) :∃t x,Hm D 0 c=some (t,x)∧Ey N D c=some (t:Int):=by
 have key :∀(m j M c:Nat),D.length - j=m→j≤D.length→m < M→c < nc (D.drop j)→∃t x,Hm (D.drop j) j c=some (t,x)∧Cn N D ((nc (D.take j) + c:Nat):Int) M j=some (.inl (t:Int)):=by
  intro m
  induction m with
  | zero=>
   intro j M c h1 h2 _ h3
   rw[List.drop_eq_nil_of_le (by omega)] at h3;simp[nc] at h3
  | succ m ih=>
   intro j M c h1 h2 h3 h4
   obtain⟨M,rfl⟩ :∃n,M=n+1:=⟨M - 1,by omega⟩
   obtain⟨d,hd,_⟩:=Bn (l:=D) (i:=j) (by omega)
   have hs:=Fj D j
   rw[PW hd] at h4 hs
   have ht:=KR hd
   rw[drop_cons hd]
   unfold Hm
   rw[Cn,if_pos (by simp[AS];omega),Fw hD hn (by omega) hN,A8 hd]
   simp only[Option.bind_some]
   rw[AS,A9 (n:=(j:Int) + 1) (by omega) (by omega),A9 (n:=(nc (D.take j):Int) + (d.cons.length:Int)) (by omega) (by omega),A9 (by omega) (by omega),DN]
   simp only[Option.bind_some]
   cases hx:d.cons[c]? with
   | some x=>
    have hlt:=(List.getElem?_eq_some_iff.1 hx).1
    refine⟨j+1,x,rfl,?_⟩
    rw[if_pos (by simp;omega)]
    rfl
   | none=>
    have hle:d.cons.length≤c:=by simpa using hx
    obtain⟨t,x,g1,g2⟩:=ih (j+1) M (c - d.cons.length) (by omega) (by omega) (by omega) (by omega)
    refine⟨t,x,g1,?_⟩
    rw[if_neg (by simp;omega),← g2,show nc (D.take j) + c=nc (D.take (j+1)) + (c - d.cons.length) by omega]
    rfl
 obtain⟨t,x,g1,g2⟩:=key D.length 0 N c (by omega) (by omega) (by omega) (by simpa using hc)
 refine⟨t,x,by simpa using g1,?_⟩
 unfold Ey
 rw[show nc (D.take 0) + c=c by simp[nc],show (((0:Nat):Int))=0 from rfl] at g2
 rw[g2];rfl
theorem Kz {D:List Ab} (hD:D.length≤1048576) (hn:nc D≤1048576) {c:Int} (hc:c < 0∨(nc D:Int)≤c) {N:Nat} (hN:2000000≤N):Ey N D c=some (-1):=by
 unfold Ey
 have key :∀{M j:Nat},j≤D.length→D.length - j < M→Cn N D c M j=some (.inr ()):=by
  intro M j hj hM
  refine Bx D.length (fun M j=>Cn N D c M j=some (.inr ())) ?_ ?_ hj hM
  ·intro n;rw[Cn,if_neg (by simp[AS])]
  ·intro n j hj ih
   obtain⟨d,hd,_⟩:=Bn hj
   have hs:=Fj D (j+1)
   have ht:=KR hd
   rw[Cn,if_pos (by simp[AS];omega),Fw hD hn (by omega) hN,A8 hd]
   simp only[Option.bind_some]
   rw[AS,A9 (n:=(j:Int) + 1) (by omega) (by omega),A9 (n:=(nc (D.take j):Int) + (d.cons.length:Int)) (by omega) (by omega),A9 (by omega) (by omega),DN]
   simp only[Option.bind_some]
   rw[if_neg (by simp;omega)]
   exact ih
 have:=key (Nat.zero_le _) (by omega:D.length - 0 < N)
 rw[show (((0:Nat):Int))=0 from rfl] at this
 rw[this];rfl
end RC
namespace RC
open Go
theorem Xf {D:List Ab} :∀(m j c t:Nat) (x:BU),D.length - j=m→j≤D.length→Hm (D.drop j) j c=some (t,x)→∃d,1≤t∧D[t - 1]?=some d∧nc (D.take (t - 1))≤nc (D.take j) + c∧d.cons[nc (D.take j) + c - nc (D.take (t - 1))]?=some x:=by
 intro m
 induction m with
 | zero=>
  intro j c t x h1 h2 h
  rw[List.drop_eq_nil_of_le (by omega)] at h;simp[Hm] at h
 | succ m ih=>
  intro j c t x h1 h2 h
  obtain⟨d,hd,_⟩:=Bn (l:=D) (i:=j) (by omega)
  have ht:=KR hd
  rw[drop_cons hd] at h
  unfold Hm at h
  cases hx:d.cons[c]? with
  | some y=>
   rw[hx] at h
   simp only[Option.some.injEq,Prod.mk.injEq] at h
   obtain⟨rfl,rfl⟩:=h
   exact⟨d,by omega,by simpa using hd,by simp,by simpa using hx⟩
  | none=>
   rw[hx] at h
   have hle:d.cons.length≤c:=by simpa using hx
   obtain⟨e,g1,g2,g3,g4⟩:=ih (j+1) (c - d.cons.length) t x (by omega) (by omega) h
   rw[show nc (D.take (j+1)) + (c - d.cons.length)=nc (D.take j) + c by omega] at g3 g4
   exact⟨e,g1,g2,g3,g4⟩
theorem H7 {D:List Ab} (hD:D.length≤1048576) (hn:nc D≤1048576) {c:Nat} (hc:c < nc D) {N:Nat} (hN:2000000≤N) :∃t x,Hm D 0 c=some (t,x)∧CU N D c=some x.fields:=by
 obtain⟨t,x,e1,e2⟩:=JR hD hn hc hN
 obtain⟨d,g1,g2,g3,g4⟩:=Xf (D:=D) D.length 0 c t x (by omega) (by omega) (by simpa using e1)
 have hlt:=(List.getElem?_eq_some_iff.1 g2).1
 have hs:=Fj D (t - 1)
 rw[show nc (D.take 0) + c=c by simp[nc]] at g3 g4
 refine⟨t,x,e1,?_⟩
 unfold CU
 rw[e2]
 simp only[Option.bind_some]
 rw[if_neg (by simp;omega),A9 (n:=(t:Int) - 1) (by omega) (by omega),show ((t:Int) - 1)=((t - 1:Nat):Int) by omega,A8 g2,Fw hD hn (by omega) hN]
 simp only[Option.bind_some]
 rw[A9 (by omega) (by omega),show ((c:Int) - (nc (D.take (t - 1)):Int))=((c - nc (D.take (t - 1)):Nat):Int) by omega,A8 g4]
 rfl
theorem P2 {D:List Ab} (hD:D.length≤1048576) (hn:nc D≤1048576) {c:Nat} (hc:c < nc D) {N:Nat} (hN:2000000≤N) :∃t x,Hm D 0 c=some (t,x)∧C6 N D c=some x.fields:=by
 obtain⟨t,x,e1,e2⟩:=Mo hD hn hc hN
 exact⟨t,x,e1,by unfold C6;rw[e2];rfl⟩
end RC
namespace RC
open Go
def B1 (D:List Ab) (t:Int):List Int:=
 if 1≤t∧t≤(D.length:Int) then (List.range ((D[(t - 1).toNat]?).elim 0 (·.cons.length))).map fun (i:Nat)=>(nc (D.take (t - 1).toNat):Int) + (i:Int) else []
theorem Q6 {f:Nat→Int} {i:Nat}:(List.range (i+1)).map f=(List.range i).map f ++ [f i]:=by rw[List.range_succ,List.map_append];rfl
theorem MR {D:List Ab} (hD:D.length≤1048576) (hn:nc D≤1048576) {t:Int} {N:Nat} (hN:2000000≤N):HT N D t=some (B1 D t):=by
 unfold HT B1
 rw[DN,AS]
 simp only[Option.bind_some]
 by_cases h:1≤t∧t≤(D.length:Int)
 ·obtain⟨a,ha⟩ :∃a:Nat,t=(a:Int) + 1:=⟨(t - 1).toNat,by omega⟩
  subst ha
  obtain⟨d,hd,_⟩:=Bn (l:=D) (i:=a) (by omega)
  have hs:=Fj D (a+1)
  have ht:=KR hd
  rw[if_neg (by simp;omega),if_pos h,show (((a:Int) + 1) - 1).toNat=a by omega,hd]
  simp only[Option.elim_some]
  have key :∀{M i:Nat},i≤d.cons.length→d.cons.length - i < M→D8 N D ((a:Int) + 1) M i ((List.range i).map fun (i:Nat)=>(nc (D.take a):Int) + (i:Int))=some ((List.range d.cons.length).map fun (i:Nat)=>(nc (D.take a):Int) + (i:Int)):=by
   intro M i hi hM
   refine Bx d.cons.length (fun M i=>D8 N D ((a:Int) + 1) M i ((List.range i).map fun (i:Nat)=>(nc (D.take a):Int) + (i:Int))=some ((List.range d.cons.length).map fun (i:Nat)=>(nc (D.take a):Int) + (i:Int))) ?_ ?_ hi hM
   ·intro n
    rw[D8,A9 (by omega) (by omega),show ((a:Int) + 1 - 1)=((a:Nat):Int) by omega,A8 hd]
    simp only[Option.bind_some]
    rw[if_neg (by simp[AS])]
   ·intro n i hi ih
    rw[D8,A9 (n:=(a:Int) + 1 - 1) (by omega) (by omega),show ((a:Int) + 1 - 1)=((a:Nat):Int) by omega,A8 hd]
    simp only[Option.bind_some]
    rw[if_pos (by simp[AS];omega),Fw hD hn (by omega) hN]
    simp only[Option.bind_some]
    rw[DM _ _ _ (by simp;omega) (by simp;omega),A9 (n:=(i:Int) + 1) (by omega) (by omega),A9 (by omega) (by omega),show ((i:Int) + 1)=((i+1:Nat):Int) by omega]
    simp only[Option.bind_some]
    rw[← ih,Q6]
  have:=key (Nat.zero_le _) (by omega:d.cons.length - 0 < N)
  rw[show (((0:Nat):Int))=0 from rfl,List.range_zero,List.map_nil] at this
  rw[this];rfl
 ·rw[if_pos (by simp;omega),if_neg h]
theorem Fm {D:List Ab} (hD:D.length≤1048576) (hn:nc D≤1048576) {t:Int} {N:Nat} (hN:2000000≤N):Fx N D t=some (B1 D t):=by
 unfold Fx B1
 rw[AS]
 by_cases h:1≤t∧t≤(D.length:Int)
 ·obtain⟨a,ha⟩ :∃a:Nat,t=(a:Int) + 1:=⟨(t - 1).toNat,by omega⟩
  subst ha
  obtain⟨d,hd,_⟩:=Bn (l:=D) (i:=a) (by omega)
  have hs:=Fj D (a+1)
  have hs0:=Fj D a
  have ht:=KR hd
  have e1:¬ ((a:Int) + 1 < 1):=by omega
  have e2:¬ ((D.length:Int) < (a:Int) + 1):=by omega
  rw[if_pos h,show (((a:Int) + 1) - 1).toNat=a by omega,hd,A9 (by omega) (by omega),show ((a:Int) + 1 - 1)=((a:Nat):Int) by omega,Vh (by omega) (by omega),A8 hd]
  simp only[Option.elim_some,e1,e2,decide_false,Bool.false_eq_true,if_false,Option.bind_some]
  rw[PF (by simp;omega) (by omega) hN]
  simp only[Option.bind_some]
  have key :∀{M i:Nat},i≤d.cons.length→d.cons.length - i < M→D0 d (nc (D.take a):Int) M i ((List.range i).map fun (i:Nat)=>(nc (D.take a):Int) + (i:Int))=some ((List.range d.cons.length).map fun (i:Nat)=>(nc (D.take a):Int) + (i:Int)):=by
   intro M i hi hM
   refine Bx d.cons.length (fun M i=>D0 d (nc (D.take a):Int) M i ((List.range i).map fun (i:Nat)=>(nc (D.take a):Int) + (i:Int))=some ((List.range d.cons.length).map fun (i:Nat)=>(nc (D.take a):Int) + (i:Int))) ?_ ?_ hi hM
   ·intro n;rw[D0,if_neg (by simp[AS])]
   ·intro n i hi ih
    rw[D0,if_pos (by simp[AS];omega)]
    rw[DM _ _ _ (by simp;omega) (by simp;omega),A9 (n:=(i:Int) + 1) (by omega) (by omega),A9 (by omega) (by omega),show ((i:Int) + 1)=((i+1:Nat):Int) by omega]
    simp only[Option.bind_some]
    rw[← ih,Q6]
  have:=key (Nat.zero_le _) (by omega:d.cons.length - 0 < N)
  rw[show (((0:Nat):Int))=0 from rfl,List.range_zero,List.map_nil] at this
  rw[this];rfl
 ·rw[if_neg h]
  by_cases e1:t < 1
  ·simp[e1]
  ·have e2:(D.length:Int) < t:=by omega
   simp[e1,e2]
end RC



namespace RC
open Go
theorem Sc {α:Type} {l:List α} (f:α→Nat) (L:Nat→Int→Int→Option (Int ⊕ Int)) (h0 :∀n left,L (n+1) left (l.length:Int)=some (.inr left))
  (hs :∀n (i:Nat) x left,l[i]?=some x→0≤left→left≤1048576→L (n+1) left (i:Int)=if left - (f x:Int) < 0 then some (.inl (-1)) else L n (left - (f x:Int)) ((i+1:Nat):Int))
  {N:Nat} (hN:l.length < N) {left:Int} (hl0:0≤left) (hl1:left≤1048576):L N left 0=some (if left - ((l.map f).sum:Nat) < 0 then .inl (-1) else .inr (left - ((l.map f).sum:Nat))):=by
 have key :∀{N i:Nat},i≤l.length→l.length - i < N→∀left:Int,0≤left→left≤1048576→L N left (i:Int)=some (if left - (((l.drop i).map f).sum:Nat) < 0 then .inl (-1) else .inr (left - (((l.drop i).map f).sum:Nat))):=by
  intro N i hi hN
  refine Bx l.length (fun N i=>∀left:Int,0≤left→left≤1048576→L N left (i:Int)=some (if left - (((l.drop i).map f).sum:Nat) < 0 then .inl (-1) else .inr (left - (((l.drop i).map f).sum:Nat)))) ?_ ?_ hi hN
  ·intro n left a b
   rw[h0,List.drop_length]
   simp
   omega
  ·intro n i hi ih left a b
   obtain⟨x,hx,_⟩:=Bn hi
   rw[hs n i x left hx a b,drop_cons hx,List.map_cons,List.sum_cons]
   by_cases h:left - (f x:Int) < 0
   ·rw[if_pos h,if_pos (by omega)]
   ·rw[if_neg h,ih (left - (f x:Int)) (by omega) (by omega)]
    rw[show left - ((f x+(List.map f (l.drop (i+1))).sum:Nat):Int)=left - (f x:Int) - ((List.map f (l.drop (i+1))).sum:Nat) by omega]
 have:=key (Nat.zero_le _) (by omega:l.length - 0 < N) left hl0 hl1
 simpa using this
theorem Po {α:Type} {l:List α} (L:Nat→Int→List α→Option (List α)) (h0 :∀n m,L (n+1) (l.length:Int) m=some m)
  (hs :∀n (i:Nat) x m,l[i]?=some x→m.length=l.length→L (n+1) (i:Int) m=L n ((i+1:Nat):Int) (m.set i x)) {N:Nat} (hN:l.length < N) {m:List α} (hm:m.length=l.length):L N 0 m=some l:=by
 have key :∀{N i:Nat},i≤l.length→l.length - i < N→∀m:List α,m.length=l.length→m.take i=l.take i→L N (i:Int) m=some l:=by
  intro N i hi hN
  refine Bx l.length (fun N i=>∀m:List α,m.length=l.length→m.take i=l.take i→L N (i:Int) m=some l) ?_ ?_ hi hN
  ·intro n m a b
   rw[h0]
   rw[List.take_length,← a,List.take_length] at b
   rw[b]
  ·intro n i hi ih m a b
   obtain⟨x,hx,_⟩:=Bn hi
   rw[hs n i x m hx a]
   refine ih (m.set i x) (by simp[a]) ?_
   have hi':(m.set i x)[i]?=some x:=by rw[List.getElem?_set_self (by omega)]
   rw[CC hi',CC hx,← b,List.take_set_of_le (Nat.le_refl _)]
 exact key (Nat.zero_le _) (by omega:l.length - 0 < N) m hm rfl
end RC



namespace RC
open Go
def Nu (left:Int) (s:Nat):Int:=if left - s < 0 then -1 else left - s
theorem Cp {left:Int} {s:Nat} (h:left - s < 0):Nu left s=-1:=if_pos h
theorem EA {left:Int} {s:Nat} (h:¬ left - s < 0):Nu left s=left - s:=if_neg h
def cz (c:BU):Nat:=c.fields.length
def dz (d:Ab):Nat:=d.cons.length+(d.cons.map cz).sum
theorem Yd {c:BU} (hc:PI c) {left:Int} (h0:0≤left) (h1:left≤1048576):Jh c left=some (Nu left (cz c)):=by
 unfold Jh
 rw[Su h0 h1 hc.fields.2]
 unfold Nu cz
 by_cases h:left - (c.fields.length:Int) < 0
 ·rw[if_pos h];rfl
 ·rw[if_neg h];simp[h]
theorem Ws {l:List BU} (hl:EU PI l) {left:Int} (h0:0≤left) (h1:left≤1048576) {N:Nat} (hN:2000000≤N):I0 N l left=some (Nu left (l.length+(l.map cz).sum)):=by
 unfold I0
 have hlen:=hl.2
 rw[AS,A9 (by omega) (by omega)]
 by_cases h:left - (l.length:Int) < 0
 ·rw[if_pos (by simpa using h),Cp (by omega)]
 ·rw[if_neg (by simpa using h),Sc (l:=l) cz (Ei l) (fun n left=>by rw[Ei,if_neg (by simp[AS])]) (fun n i x left hx a b=>?_) (by omega) (by omega) (by omega)]
  ·by_cases g:left - (l.length:Int) - ((l.map cz).sum:Nat) < 0
   ·rw[if_pos g,Cp (by omega)];rfl
   ·rw[if_neg g,EA (by omega)]
    show some _=some _
    congr 1;omega
  ·have hi:=(List.getElem?_eq_some_iff.1 hx).1
   rw[Ei,if_pos (by simp[AS];omega),A8 hx]
   simp only[Option.bind_some]
   rw[Yd (hl.1 x (List.mem_of_getElem? hx)) a b,A9 (by omega) (by omega),show ((i:Int) + 1)=((i+1:Nat):Int) by omega]
   simp only[Option.bind_some]
   by_cases g:left - (cz x:Int) < 0
   ·rw[if_pos g,Cp g];rfl
   ·rw[if_neg g,EA g,if_neg (by simpa using g)]
end RC
namespace RC
open Go
theorem Xj {d:Ab} (hd:Ng d) {left:Int} (h0:0≤left) (h1:left≤1048576) {N:Nat} (hN:2000000≤N):Ir N d left=some (Nu left (dz d)):=by
 unfold Ir
 rw[Ws hd.cons h0 h1 hN]
 simp only[Option.bind_some]
 by_cases a:left - ((d.cons.length+(d.cons.map cz).sum:Nat):Int) < 0
 ·rw[Cp a,Cp (by unfold dz;omega)];rfl
 ·rw[EA a,if_neg (by simpa using a),EA (by unfold dz;omega)];rfl
theorem WB {l:List Ab} (hl:EU Ng l) {left:Int} (h0:0≤left) (h1:left≤1048576) {N:Nat} (hN:2000000≤N):Hf N l left=some (Nu left (l.length+(l.map dz).sum)):=by
 unfold Hf
 have hlen:=hl.2
 rw[AS,A9 (by omega) (by omega)]
 by_cases h:left - (l.length:Int) < 0
 ·rw[if_pos (by simpa using h),Cp (by omega)]
 ·rw[if_neg (by simpa using h),Sc (l:=l) dz (ED N l) (fun n left=>by rw[ED,if_neg (by simp[AS])]) (fun n i x left hx a b=>?_) (by omega) (by omega) (by omega)]
  ·by_cases g:left - (l.length:Int) - ((l.map dz).sum:Nat) < 0
   ·rw[if_pos g,Cp (by omega)];rfl
   ·rw[if_neg g,EA (by omega)]
    show some _=some _
    congr 1;omega
  ·have hi:=(List.getElem?_eq_some_iff.1 hx).1
   rw[ED,if_pos (by simp[AS];omega),A8 hx]
   simp only[Option.bind_some]
   rw[Xj (hl.1 x (List.mem_of_getElem? hx)) a b hN,A9 (by omega) (by omega),show ((i:Int) + 1)=((i+1:Nat):Int) by omega]
   simp only[Option.bind_some]
   by_cases g:left - (dz x:Int) < 0
   ·rw[if_pos g,Cp g];rfl
   ·rw[if_neg g,EA g,if_neg (by simpa using g)]
end RC



namespace RC
open Go
end RC


namespace RC
open Go
end RC



namespace RC
open Go
section
variable {im : bw} {p : Zf} {at_ : Nat} {i : YN} {N : Nat}
end
end RC



namespace RC
open Go
theorem FQ {α:Type} (f:α→Nat) {l:List α} {x:α} (h:x∈l):f x≤(l.map f).sum:=by
 induction l with
 | nil=>cases h
 | cons y r ih=>
  rw[List.map_cons,List.sum_cons]
  rcases List.mem_cons.1 h with rfl | h
  ·omega
  ·have:=ih h;omega
theorem Yo {c:BU} (h:cz c≤1048576) {N:Nat} (hN:2000000≤N):JZ N c=some c:=by
 unfold cz at h
 unfold JZ;rw[Sg h hN];rfl
theorem Xg {l:List BU} (hl:l.length+(l.map cz).sum≤1048576) {N:Nat} (hN:2000000≤N):It N l=some l:=by
 unfold It
 rw[AS,JF _ _ _ (by omega) (by omega)]
 simp only[Option.bind_some]
 rw[Po (l:=l) (Eh N l) (fun n m=>by rw[Eh,if_neg (by simp[AS])]) (fun n i x m hx hm=>?_) (by omega) (by simp)]
 ·rfl
 ·have hi:=(List.getElem?_eq_some_iff.1 hx).1
  have hz:=FQ cz (List.mem_of_getElem? hx)
  obtain⟨y,hy,_⟩:=Bn (l:=m) (i:=i) (by omega)
  rw[Eh,if_pos (by simp[AS];omega),A8 hx]
  simp only[Option.bind_some]
  rw[Yo (by omega) hN,A8 hy]
  simp only[Option.bind_some]
  rw[Hi,A9 (by omega) (by omega),show ((i:Int) + 1)=((i+1:Nat):Int) by omega]
theorem Xi {d:Ab} (h:dz d≤1048576) {N:Nat} (hN:2000000≤N):IM N d=some d:=by
 unfold dz at h
 unfold IM;rw[Xg h hN];rfl
theorem WY {l:List Ab} (hl:l.length+(l.map dz).sum≤1048576) {N:Nat} (hN:2000000≤N):Hr N l=some l:=by
 unfold Hr
 rw[AS,JF _ _ _ (by omega) (by omega)]
 simp only[Option.bind_some]
 rw[Po (l:=l) (EO N l) (fun n m=>by rw[EO,if_neg (by simp[AS])]) (fun n i x m hx hm=>?_) (by omega) (by simp)]
 ·rfl
 ·have hi:=(List.getElem?_eq_some_iff.1 hx).1
  have hz:=FQ dz (List.mem_of_getElem? hx)
  obtain⟨y,hy,_⟩:=Bn (l:=m) (i:=i) (by omega)
  rw[EO,if_pos (by simp[AS];omega),A8 hx]
  simp only[Option.bind_some]
  rw[Xi (by omega) hN,A8 hy]
  simp only[Option.bind_some]
  rw[Hi,A9 (by omega) (by omega),show ((i:Int) + 1)=((i+1:Nat):Int) by omega]
end RC



namespace RC
open Go
theorem Ya {c:BU} (h:cz c≤1048576) {N:Nat} (hN:2000000≤N):Jd N c c=some true:=by
 unfold cz at h
 unfold Jd;rw[TV h hN];rfl
theorem Xy {l:List BU} (hl:l.length+(l.map cz).sum≤1048576) {N:Nat} (hN:2000000≤N):Im N l l=some true:=by
 unfold Im
 have L:=C9 (l:=l) (Ek N l l) (fun _ _=>true) (fun n=>by rw[Ek,if_neg (by simp[AS])]) (fun n i x hx=>?_) (by omega:l.length < N)
 ·rw[Dk (p:=fun _=>true)] at L
  simp[L,Sh.cont]
 ·have hi:=(List.getElem?_eq_some_iff.1 hx).1
  have hz:=FQ cz (List.mem_of_getElem? hx)
  rw[Ek,if_pos (by simp[AS];omega),A8 hx]
  simp only[Option.bind_some]
  rw[Ya (by omega) hN,A9 (by omega) (by omega),show ((i:Int) + 1)=((i+1:Nat):Int) by omega]
  rfl
theorem W5 {d:Ab} (h:dz d≤1048576) {N:Nat} (hN:2000000≤N):IY N d d=some true:=by
 unfold dz at h
 unfold IY;rw[Xy h hN];simp
theorem V2 {l:List Ab} (hl:l.length+(l.map dz).sum≤1048576) {N:Nat} (hN:2000000≤N):Hh N l l=some true:=by
 unfold Hh
 have L:=C9 (l:=l) (EP N l l) (fun _ _=>true) (fun n=>by rw[EP,if_neg (by simp[AS])]) (fun n i x hx=>?_) (by omega:l.length < N)
 ·rw[Dk (p:=fun _=>true)] at L
  simp[L,Sh.cont]
 ·have hi:=(List.getElem?_eq_some_iff.1 hx).1
  have hz:=FQ dz (List.mem_of_getElem? hx)
  rw[EP,if_pos (by simp[AS];omega),A8 hx]
  simp only[Option.bind_some]
  rw[W5 (by omega) hN,A9 (by omega) (by omega),show ((i:Int) + 1)=((i+1:Nat):Int) by omega]
  rfl
end RC



namespace RC
open Go
end RC



namespace RC
open Go
mutual
def en:AG→Nat | .mk _ _ k=>1+CK k
def CK:List AG→Nat | []=>0 | e :: l=>en e+CK l
end
theorem Em (e:AG):en e=1+CK e.kids:=by cases e;simp[en,AG.kids]
theorem QL {k:List AG} {i:Nat} {e:AG} (h:k[i]?=some e):CK (k.drop i)=en e+CK (k.drop (i+1)):=by rw[drop_cons h];simp[CK]
theorem H0 (e:AG):1≤en e:=by rw[Em];omega
theorem GJ {k:List AG} {e:AG} (h:e∈k):en e≤CK k:=by
 induction k with
 | nil=>cases h
 | cons c k ih=>
  simp only[CK]
  rcases List.mem_cons.1 h with rfl | h
  ·omega
  ·have:=ih h;omega
theorem FR (k:List AG):k.length≤CK k:=by
 induction k with
 | nil=>simp
 | cons c k ih=>have:=H0 c;simp only[CK,List.length_cons];omega
theorem CO {e k:AG} (h:k∈e.kids):en k < en e:=by have:=GJ h;rw[Em e];omega
theorem TP {rec:AG→Int→Option Int} {k:List AG} {L:Int} (hL:L≤1048576) (hk:k.length≤1048576) (hrec :∀b∈k,∀left:Int,0≤left→left≤L→rec b left=some (Nu left (CK b.kids))) {N i:Nat} (hi:i≤k.length) (hN:k.length - i < N) :
  ∀left:Int,0≤left→left≤L→Dg k rec N left i=some (if left+(k.length - i:Nat) - CK (k.drop i) < 0 then Sum.inl (-1) else Sum.inr (left+(k.length - i:Nat) - CK (k.drop i))):=by
 refine Bx k.length (fun N i=>∀left:Int,0≤left→left≤L→Dg k rec N left i=some (if left+(k.length - i:Nat) - CK (k.drop i) < 0 then Sum.inl (-1) else Sum.inr (left+(k.length - i:Nat) - CK (k.drop i)))) ?_ ?_ hi hN
 ·intro n left h0 h1
  rw[Dg,if_neg (by simp[AS])]
  simp[CK];omega
 ·intro n i hi ih left h0 h1
  obtain⟨b,hb,hbm⟩:=Bn hi
  have e1:=Em b
  have hle:=FR (k.drop (i+1))
  rw[List.length_drop] at hle
  rw[Dg,if_pos (by simp[AS];omega),A8 hb]
  simp only[Option.bind_some]
  rw[hrec b hbm left h0 h1,QL hb]
  simp only[Option.bind_some]
  by_cases h2:left - (CK b.kids:Int) < 0
  ·rw[Cp h2,if_pos (by simp),if_pos (by omega)]
  ·rw[EA h2,if_neg (by simpa using h2),A9 (by omega) (by omega),show ((i:Int) + 1)=((i+1:Nat):Int) by omega,ih (left - (CK b.kids:Int)) (by omega) (by omega)]
   have e:left - (CK b.kids:Int) + ((k.length - (i+1):Nat):Int) - (CK (k.drop (i+1)):Int)=left+((k.length - i:Nat):Int) - ((en b+CK (k.drop (i+1)):Nat):Int):=by omega
   rw[e]
theorem Wo {N:Nat} (hN:2000000≤N) {rec:AG→Int→Option Int} {k:List AG} (hk:k.length≤9223372036854775807) {left:Int} (h0:0≤left) (h1:left≤1048576)
  (hrec :∀b∈k,∀l:Int,0≤l→l < left→rec b l=some (Nu l (CK b.kids))):Hu N rec k left=some (Nu left (CK k)):=by
 unfold Hu
 have hle:=FR k
 rw[AS,A9 (by omega) (by omega)]
 by_cases h2:left - (k.length:Int) < 0
 ·rw[if_pos (by simpa using h2),Cp (by omega)]
 ·rw[if_neg (by simpa using h2)]
  have:=TP (L:=left - k.length) (by omega) (by omega) (fun b hb l l0 l1=>hrec b hb l l0 (by have:=List.length_pos_of_mem hb;omega)) (Nat.zero_le _) (by omega:k.length - 0 < N) (left - k.length) (by omega) (by omega)
  rw[show ((0:Nat):Int)=0 from rfl,List.drop_zero,Nat.sub_zero] at this
  rw[this,show left - (k.length:Int) + (k.length:Int) - (CK k:Int)=left - (CK k:Int) by omega]
  by_cases h3:left - (CK k:Int) < 0
  ·rw[if_pos h3,Cp h3];rfl
  ·rw[if_neg h3,EA h3];rfl
theorem VH {N:Nat} (hN:2000000≤N) :∀(n:Nat) (e:AG) (left:Int),BG e→0≤left→left≤1048576→left < n→GM N n e left=some (Nu left (CK e.kids)):=by
 intro n
 induction n with
 | zero=>intro b left _ h0 _ h2;omega
 | succ n ih=>
  intro e left he h0 h1 h2
  rw[GM]
  unfold Iq
  rw[Wo hN he.I7 h0 h1 (fun b hb l l0 l1=>ih b l (he.kids b hb) l0 (by omega) (by omega))]
  simp only[Option.bind_some]
  by_cases h3:left - (CK e.kids:Int) < 0
  ·rw[Cp h3];rfl
  ·rw[EA h3,if_neg (by simpa using h3)]
theorem Xd {e:AG} (he:BG e) {left:Int} (h0:0≤left) (h1:left≤1048576) {N:Nat} (hN:2000000≤N):J2 N e left=some (Nu left (CK e.kids)):=by
 unfold J2
 exact VH hN N e left he h0 h1 (by omega)
def Ip (f:Am):Nat:=f.params.length+CK f.body.kids
def Kg (p:Aa):Nat:=(p.decls.length+(p.decls.map dz).sum) + (p.funcs.length+(p.funcs.map Ip).sum)
theorem XW {f:Am} (hf:Lg f) {left:Int} (h0:0≤left) (h1:left≤1048576) {N:Nat} (hN:2000000≤N):Iv N f left=some (Nu left (Ip f)):=by
 unfold Iv Ip
 rw[Su h0 h1 hf.params.2]
 simp only[Option.bind_some]
 by_cases h:left - (f.params.length:Int) < 0
 ·rw[if_pos h,Cp (by omega)];rfl
 ·rw[if_neg h,if_neg (by simpa using h),Xd hf.body (by omega) (by omega) hN]
  simp only[Option.bind_some]
  by_cases h3:left - (f.params.length:Int) - (CK f.body.kids:Int) < 0
  ·rw[Cp h3,Cp (by omega)];rfl
  ·rw[EA h3,EA (by omega),if_neg (by simpa using h3)]
   congr 1;omega
theorem WW {l:List Am} (hl:EU Lg l) {left:Int} (h0:0≤left) (h1:left≤1048576) {N:Nat} (hN:2000000≤N):Hv N l left=some (Nu left (l.length+(l.map Ip).sum)):=by
 have hlen:=hl.2
 unfold Hv
 rw[AS,A9 (by omega) (by omega)]
 by_cases h2:left - (l.length:Int) < 0
 ·rw[if_pos (by simpa using h2),Cp (by omega)]
 ·rw[if_neg (by simpa using h2),Sc (l:=l) Ip (EK N l) (fun n l=>by rw[EK,if_neg (by simp[AS])]) (fun n i x l' hx l0 l1=>?_) (by omega) (by omega) (by omega)]
  ·by_cases h3:left - (l.length:Int) - ((l.map Ip).sum:Nat) < 0
   ·rw[if_pos h3,Cp (by omega)];rfl
   ·rw[if_neg h3,EA (by omega)]
    simp only[Sh.J9]
    congr 1;omega
  ·have hi:=(List.getElem?_eq_some_iff.1 hx).1
   rw[EK,if_pos (by simp[AS];omega),A8 hx]
   simp only[Option.bind_some]
   rw[XW (hl.1 x (List.mem_of_getElem? hx)) l0 l1 hN]
   simp only[Option.bind_some]
   by_cases h3:l' - (Ip x:Int) < 0
   ·rw[Cp h3,if_pos h3];rfl
   ·rw[EA h3,if_neg h3,if_neg (by simpa using h3),A9 (by omega) (by omega),show ((i:Int) + 1)=((i+1:Nat):Int) by omega]
theorem TY {p:Aa} (H:Ku p) {left:Int} (h0:0≤left) (h1:left≤1048576) {N:Nat} (hN:2000000≤N):Gr N p left=some (Nu left (Kg p)):=by
 unfold Gr Kg
 rw[WB H.decls h0 h1 hN]
 simp only[Option.bind_some]
 by_cases h:left - ((p.decls.length+(p.decls.map dz).sum:Nat):Int) < 0
 ·rw[Cp h,Cp (by omega)];rfl
 ·rw[EA h,if_neg (by simpa using h),WW H.funcs (by omega) (by omega) hN]
  simp only[Option.bind_some]
  by_cases h3:left - ((p.decls.length+(p.decls.map dz).sum:Nat):Int) - ((p.funcs.length+(p.funcs.map Ip).sum:Nat):Int) < 0
  ·rw[Cp h3,Cp (by omega)];rfl
  ·rw[EA h3,EA (by omega),if_neg (by simpa using h3)]
   congr 1;omega
theorem VE {N:Nat} (hN:2000000≤N) :∀(n:Nat) (e:AG),CK e.kids≤1048576→en e≤n→FP N n e=some e:=by
 intro n
 induction n with
 | zero=>intro e _ h;have:=H0 e;omega
 | succ n ih=>
  intro e hz hn
  have hle:=FR e.kids
  rw[FP]
  unfold Ix JU
  rw[AS,JF _ _ _ (by omega) (by omega)]
  simp only[Option.bind_some]
  rw[Po (l:=e.kids) (EB e.kids (FP N n)) (fun n m=>by rw[EB,if_neg (by simp[AS])]) (fun k i x m hx hm=>?_) (by omega) (by simp)]
  ·simp only[Option.bind_some]
   rw[← Ga]
  ·have hi:=(List.getElem?_eq_some_iff.1 hx).1
   have hk:=CO (List.mem_of_getElem? hx)
   have hz2:=GJ (List.mem_of_getElem? hx)
   have e1:=Em x
   obtain⟨y,hy,_⟩:=Bn (l:=m) (i:=i) (by omega)
   rw[EB,if_pos (by simp[AS];omega),A8 hx]
   simp only[Option.bind_some]
   rw[ih x (by omega) (by omega),A8 hy]
   simp only[Option.bind_some]
   rw[Hi,A9 (by omega) (by omega),show ((i:Int) + 1)=((i+1:Nat):Int) by omega]
theorem XF {e:AG} (hz:CK e.kids≤1048576) {N:Nat} (hN:2000000≤N):J4 N e=some e:=by
 unfold J4
 exact VE hN N e hz (by rw[Em];omega)
theorem Wz {f:Am} (h:Ip f≤1048576) {N:Nat} (hN:2000000≤N):I1 N f=some f:=by
 unfold Ip at h
 unfold I1;rw[Sg (by omega) hN,XF (by omega) hN];rfl
theorem WM {l:List Am} (hl:l.length+(l.map Ip).sum≤1048576) {N:Nat} (hN:2000000≤N):Hk N l=some l:=by
 unfold Hk
 rw[AS,JF _ _ _ (by omega) (by omega)]
 simp only[Option.bind_some]
 rw[Po (l:=l) (ER N l) (fun n m=>by rw[ER,if_neg (by simp[AS])]) (fun n i x m hx hm=>?_) (by omega) (by simp)]
 ·rfl
 ·have hi:=(List.getElem?_eq_some_iff.1 hx).1
  have hz:=FQ Ip (List.mem_of_getElem? hx)
  obtain⟨y,hy,_⟩:=Bn (l:=m) (i:=i) (by omega)
  rw[ER,if_pos (by simp[AS];omega),A8 hx]
  simp only[Option.bind_some]
  rw[Wz (by omega) hN,A8 hy]
  simp only[Option.bind_some]
  rw[Hi,A9 (by omega) (by omega),show ((i:Int) + 1)=((i+1:Nat):Int) by omega]
theorem To {p:Aa} (h:Kg p≤1048576) {N:Nat} (hN:2000000≤N):Ef N p=some p:=by
 unfold Kg at h
 unfold Ef;rw[WY (by omega) hN,WM (by omega) hN];rfl
theorem Ut {N:Nat} (hN:2000000≤N) :∀(n:Nat) (e:AG),CK e.kids≤1048576→en e≤n→FW N n e e=some true:=by
 intro n
 induction n with
 | zero=>intro e _ h;have:=H0 e;omega
 | succ n ih=>
  intro e hz hn
  have hle:=FR e.kids
  rw[FW]
  unfold Ib JV
  have L:=C9 (l:=e.kids) (EM e.kids e.kids (FW N n)) (fun _ _=>true) (fun n=>by rw[EM,if_neg (by simp[AS])]) (fun k i x hx=>?_) (by omega:e.kids.length < N)
  ·rw[Dk (p:=fun _=>true)] at L
   simp[L,Sh.cont]
  ·have hi:=(List.getElem?_eq_some_iff.1 hx).1
   have hk:=CO (List.mem_of_getElem? hx)
   have hz2:=GJ (List.mem_of_getElem? hx)
   have e1:=Em x
   rw[EM,if_pos (by simp[AS];omega),A8 hx]
   simp only[Option.bind_some]
   rw[ih x (by omega) (by omega),A9 (by omega) (by omega),show ((i:Int) + 1)=((i+1:Nat):Int) by omega]
   rfl
theorem W9 {e:AG} (hz:CK e.kids≤1048576) {N:Nat} (hN:2000000≤N):Jw N e e=some true:=by
 unfold Jw
 exact Ut hN N e hz (by rw[Em];omega)
theorem XX {f:Am} (h:Ip f≤1048576) {N:Nat} (hN:2000000≤N):IV N f f=some true:=by
 unfold Ip at h
 unfold IV;rw[TV (by omega) hN,W9 (by omega) hN];simp
theorem Vi {l:List Am} (hl:l.length+(l.map Ip).sum≤1048576) {N:Nat} (hN:2000000≤N):Hj N l l=some true:=by
 unfold Hj
 have L:=C9 (l:=l) (EE N l l) (fun _ _=>true) (fun n=>by rw[EE,if_neg (by simp[AS])]) (fun n i x hx=>?_) (by omega:l.length < N)
 ·rw[Dk (p:=fun _=>true)] at L
  simp[L,Sh.cont]
 ·have hi:=(List.getElem?_eq_some_iff.1 hx).1
  have hz:=FQ Ip (List.mem_of_getElem? hx)
  rw[EE,if_pos (by simp[AS];omega),A8 hx]
  simp only[Option.bind_some]
  rw[XX (by omega) hN,A9 (by omega) (by omega),show ((i:Int) + 1)=((i+1:Nat):Int) by omega]
  rfl
theorem OH {p:Aa} (h:Kg p≤1048576) {N:Nat} (hN:2000000≤N):Ej N p p=some true:=by
 unfold Kg at h
 unfold Ej;rw[V2 (by omega) hN,Vi (by omega) hN];rfl
theorem Rg {N:Nat} (hN:2000000≤N) :∀(n:Nat) (e:AG) (left:Int),left≤1000→0≤left→left < n→CK e.kids≤1048576→Dn N n e left=some (Nu left (en e)):=by
 intro n
 induction n with
 | zero=>intro e left _ _ h;omega
 | succ n ih=>
  intro e left h0 hl0 h1 hz
  rw[Dn]
  unfold G2
  have hp:=Em e
  have hle:=FR e.kids
  by_cases h2:left < 1
  ·rw[if_pos (by simpa using h2),Cp (by omega)]
  ·rw[if_neg (by simpa using h2),A9 (by omega) (by omega)]
   have key :∀{M i:Nat},i≤e.kids.length→e.kids.length - i < M→∀l:Int,0≤l→l < left→CV e (Dn N n) M l i=some (if l - (CK (e.kids.drop i):Int) < 0 then .inl (-1) else .inr (l - (CK (e.kids.drop i):Int))):=by
    intro M i hi hM
    refine Bx e.kids.length (fun M i=>∀l:Int,0≤l→l < left→CV e (Dn N n) M l i=some (if l - (CK (e.kids.drop i):Int) < 0 then .inl (-1) else .inr (l - (CK (e.kids.drop i):Int)))) ?_ ?_ hi hM
    ·intro m l l0 l1
     rw[CV,if_neg (by simp[AS])]
     simp[CK];omega
    ·intro m i hi ih2 l l0 l1
     obtain⟨x,hx,hxm⟩:=Bn hi
     have hz2:=GJ hxm
     have e1:=Em x
     rw[CV,if_pos (by simp[AS];omega),A8 hx]
     simp only[Option.bind_some]
     rw[ih x l (by omega) l0 (by omega) (by omega),QL hx]
     simp only[Option.bind_some]
     by_cases h3:l - (en x:Int) < 0
     ·rw[Cp h3,if_pos (by simp),if_pos (by omega)]
     ·rw[EA h3,if_neg (by simpa using h3),A9 (by omega) (by omega),show ((i:Int) + 1)=((i+1:Nat):Int) by omega,ih2 (l - (en x:Int)) (by omega) (by omega)]
      rw[show l - (en x:Int) - (CK (e.kids.drop (i+1)):Int)=l - ((en x+CK (e.kids.drop (i+1)):Nat):Int) by omega]
   have:=key (Nat.zero_le _) (by omega:e.kids.length - 0 < N) (left - 1) (by omega) (by omega)
   rw[show ((0:Nat):Int)=0 from rfl,List.drop_zero] at this
   rw[this]
   by_cases h3:left - 1 - (CK e.kids:Int) < 0
   ·rw[if_pos h3,Cp (by omega)];rfl
   ·rw[if_neg h3,EA (by omega)]
    simp only[Sh.J9]
    congr 1;omega
theorem JB {e:AG} (hz:CK e.kids≤1048576) {N:Nat} (hN:2000000≤N):F7 N e=some (if en e≤30 then (en e:Int) else -1):=by
 unfold F7 Jt
 rw[Rg hN N e 30 (by omega) (by omega) (by omega) hz]
 simp only[Option.bind_some]
 by_cases h:en e≤30
 ·rw[EA (by omega),if_pos h,if_neg (by simp;omega),A9 (by omega) (by omega)]
  congr 1;omega
 ·rw[Cp (by omega),if_neg h];rfl
theorem QX {N:Nat} (hN:2000000≤N) :∀(n:Nat) (e:AG) (c:Nat),c≤30→31 - c < n→CK e.kids≤1048576→Dc N n c e=some (if c+en e≤30 then (true,((c+en e:Nat):Int)) else (false,31)):=by
 intro n
 induction n with
 | zero=>intro e c _ h;omega
 | succ n ih=>
  intro e c h0 h1 hz
  rw[Dc]
  unfold GV
  have hp:=Em e
  have hle:=FR e.kids
  rw[A9 (by omega) (by omega)]
  by_cases h2:c=30
  ·subst h2
   rw[if_pos (by simp),if_neg (by omega)];rfl
  ·rw[if_neg (by simp;omega)]
   have key :∀{M i:Nat},i≤e.kids.length→e.kids.length - i < M→∀d:Nat,c < d→d≤30→CG e (Dc N n) M i d=some (if d+CK (e.kids.drop i)≤30 then .inr ((d+CK (e.kids.drop i):Nat):Int) else .inl (false,31)):=by
    intro M i hi hM
    refine Bx e.kids.length (fun M i=>∀d:Nat,c < d→d≤30→CG e (Dc N n) M i d=some (if d+CK (e.kids.drop i)≤30 then .inr ((d+CK (e.kids.drop i):Nat):Int) else .inl (false,31))) ?_ ?_ hi hM
    ·intro m d l0 l1
     rw[CG,if_neg (by simp[AS])]
     simp[CK,l1]
    ·intro m i hi ih2 d l0 l1
     obtain⟨x,hx,hxm⟩:=Bn hi
     have hz2:=GJ hxm
     have e1:=Em x
     rw[CG,if_pos (by simp[AS];omega),A8 hx]
     simp only[Option.bind_some]
     rw[ih x d l1 (by omega) (by omega),QL hx]
     simp only[Option.bind_some]
     by_cases h3:d+en x≤30
     ·rw[if_pos h3]
      simp only[Bool.not_true,Bool.false_eq_true,if_false]
      rw[A9 (by omega) (by omega),show ((i:Int) + 1)=((i+1:Nat):Int) by omega,ih2 (d+en x) (by omega) h3,Nat.add_assoc]
     ·have h4:¬ (d+(en x+CK (List.drop (i+1) e.kids))≤30):=by omega
      rw[if_neg h3,if_neg h4];rfl
   have:=key (Nat.zero_le _) (by omega:e.kids.length - 0 < N) (c+1) (by omega) (by omega)
   rw[show ((0:Nat):Int)=0 from rfl,List.drop_zero,show ((c+1:Nat):Int)=(c:Int) + 1 by omega] at this
   rw[this]
   by_cases h3:c+1+CK e.kids≤30
   ·rw[if_pos h3,if_pos (by omega)]
    simp only[Sh.J9]
    rw[show c+1+CK e.kids=c+en e by omega]
   ·rw[if_neg h3,if_neg (by omega)];rfl
theorem LV {e:AG} (hz:CK e.kids≤1048576) {N:Nat} (hN:2000000≤N):Gw N e=some (if en e≤30 then (en e:Int) else -1):=by
 unfold Gw JD
 have:=QX hN N e 0 (by omega) (by omega) hz
 rw[show ((0:Nat):Int)=0 from rfl,Nat.zero_add] at this
 rw[this]
 simp only[Option.bind_some]
 by_cases h:en e≤30
 ·rw[if_pos h,if_pos h];rfl
 ·rw[if_neg h,if_neg h];rfl
end RC



namespace RC
open Go
theorem NT {α:Type} {g:Nat→α→Bool} :∀(l:List α) (k:Nat),EV g k l=true↔∀(i:Nat) x,l[i]?=some x→g (k+i) x=true
 | [],_=>by simp[EV]
 | x :: r,k=>by
  rw[EV,Bool.and_eq_true,NT r (k+1)]
  constructor
  ·rintro⟨h1,h2⟩ i y hy
   cases i with
   | zero=>simp only[List.getElem?_cons_zero,Option.some.injEq] at hy;subst hy;exact h1
   | succ i=>have:=h2 i y hy;rw[show k+(i+1)=k+1+i by omega];exact this
  ·intro h
   exact⟨h 0 x rfl,fun i y hy=>by have:=h (i+1) y hy;rw[show k+(i+1)=k+1+i by omega] at this;exact this⟩
theorem PG {a b:List Int} (h:a.length=b.length):EV (fun i x=>decide (b[i]?=some x)) 0 a=decide (a=b):=by
 rw[Bool.eq_iff_iff,NT,decide_eq_true_iff]
 constructor
 ·intro g
  refine List.ext_getElem? fun i=>?_
  by_cases hi:i < a.length
  ·obtain⟨x,hx,_⟩:=Bn hi
   have:=g i x hx
   rw[decide_eq_true_iff,Nat.zero_add] at this
   rw[hx,this]
  ·rw[List.getElem?_eq_none (by omega),List.getElem?_eq_none (by omega)]
 ·rintro rfl i x hx
  rw[decide_eq_true_iff,Nat.zero_add,hx]
theorem LR {a b:List Int} (ha:a.length≤1048576) {N:Nat} (hN:2000000≤N):CH N a b=some (decide (a=b)):=by
 unfold CH
 by_cases h:a.length=b.length
 ·rw[if_neg (by simp[AS,h]),C9 (l:=a) (B7 a b) (fun i x=>decide (b[i]?=some x)) (fun n=>by rw[B7,if_neg (by simp[AS])]) (fun n i x hx=>?_) (by omega),EH,PG h]
  ·cases decide (a=b) <;> rfl
  ·have hi:=(List.getElem?_eq_some_iff.1 hx).1
   obtain⟨y,hy,_⟩:=Bn (l:=b) (i:=i) (by omega)
   rw[B7,if_pos (by simp[AS];omega),A8 hx]
   simp only[Option.bind_some]
   rw[A8 hy,hy,A9 (by omega) (by omega),show ((i:Int) + 1)=((i+1:Nat):Int) by omega]
   simp only[Option.bind_some]
   by_cases e:x=y
   ·simp[e]
   ·have e':¬ y=x:=fun q=>e q.symm
    simp[e,e']
 ·have hne:¬ a=b:=fun e=>h (by rw[e])
  have h':¬ ((a.length:Int)=(b.length:Int)):=by omega
  simp[AS,h',hne]
structure Dy (D:List Ab) (F:List Am):Prop where
 Lj:D.length≤4
 PH :∀d∈D,d.cons.length≤3
 Kv :∀d∈D,∀c∈d.cons,c.fields.length≤3∧∀t∈c.fields,CB D t=true
 cU :∀d∈D,CB D d.from_=true∧CB D d.to=true
 OF:F.length≤4
 QC :∀f∈F,f.params.length≤3∧(∀t∈f.params,CB D t=true)∧CB D f.result=true
theorem Z1 {D:List Ab} (h :∀d∈D,d.cons.length≤3):nc D≤3 * D.length:=by
 induction D with
 | nil=>simp[nc]
 | cons d r ih=>
  have h1:=h d (by simp)
  have h2:=ih fun e he=>h e (by simp[he])
  simp only[nc,List.map_cons,List.sum_cons,List.length_cons] at h2 ⊢
  omega
theorem Dy.nc {D:List Ab} {F:List Am} (S:Dy D F):nc D≤12:=by have:=Z1 S.PH;have:=S.Lj;omega
theorem IZ {D:List Ab} {t:Int} (h:CB D t=true):0≤t∧t≤(D.length:Int):=by
 unfold CB at h
 simpa using h
theorem Dy.of {p:Aa} (h:Lz p.decls (p.funcs.map fun f=>(f.params,f.result))=true):Dy p.decls p.funcs:=by
 unfold Lz at h
 simp only[Bool.and_eq_true,List.length_map,List.all_map,decide_eq_true_eq] at h
 obtain⟨h1,⟨_,h2⟩,h3,_⟩:=h
 unfold Ko at h1
 simp only[Bool.and_eq_true,decide_eq_true_eq] at h1
 obtain⟨h4,h5⟩:=h1
 rw[NT] at h5
 have hd :∀d∈p.decls,∃i,Jk p.decls i d=true:=fun d hd=>by
  obtain⟨i,hi⟩:=List.mem_iff_getElem?.1 hd
  exact⟨_,h5 i d hi⟩
 refine⟨h4,fun d hm=>?_,fun d hm c hc=>?_,fun d hm=>?_,h2,fun f hf=>?_⟩
 ·obtain⟨i,hi⟩:=hd d hm
  unfold Jk at hi
  split at hi
  ·simp only[Bool.and_eq_true,decide_eq_true_eq] at hi;exact hi.1.1
  ·omega
 ·obtain⟨i,hi⟩:=hd d hm
  unfold Jk at hi
  split at hi
  ·simp only[Bool.and_eq_true,decide_eq_true_eq,List.all_eq_true] at hi
   have:=hi.2 c hc
   unfold OE at this
   simp only[Bool.and_eq_true,decide_eq_true_eq,List.all_eq_true] at this
   exact this
  ·have:=List.length_pos_of_mem hc;omega
 ·obtain⟨i,hi⟩:=hd d hm
  unfold Jk at hi
  split at hi
  ·simp only[Bool.and_eq_true,decide_eq_true_eq] at hi
   rw[hi.1.2.1,hi.1.2.2]
   have:CB p.decls 0=true:=by unfold CB;simp
   exact⟨this,this⟩
  ·simp only[Bool.and_eq_true] at hi;exact hi.2
 ·have:=List.all_eq_true.1 h3 f hf
  simp only[Function.comp,Ls,Bool.and_eq_true,decide_eq_true_eq,List.all_eq_true] at this
  exact this
def IS (p:Aa) (sg:A6) (R1:Aa→List Int→AG→Option Int) (R2:List Int→A6→AG→Option Int) (T:List Int→AG→Int) (m:Nat):Prop:=
 ∀(v:List Int) (e:AG),BG e→en e < m→v.length+3 * en e≤1000→(∀x∈v,CB p.decls x=true)→R1 p v e=some (T v e)∧R2 v sg e=some (T v e)∧(T v e=-1∨CB p.decls (T v e)=true)
section
variable {p : Aa} {sg : A6} {R1 : Aa → List Int → AG → Option Int} {R2 : List Int → A6 → AG → Option Int} {T : List Int → AG → Int} {e : AG} {v : List Int} {N : Nat}
structure Gc (p:Aa) (e:AG) (v:List Int):Prop where
 len:v.length+3 * en e≤1000
 GQ :∀x∈v,CB p.decls x=true
 small:en e≤340
 Ea:BG e
theorem Gc.H9 (V:Gc p e v) {k:AG} (hk:k∈e.kids):v.length+3 * en k≤1000:=by have:=V.len;have:=CO hk;omega
theorem Gc.more (V:Gc p e v) {k:AG} (hk:k∈e.kids) {m:List Int} (hm:m.length≤3):(v ++ m).length+3 * en k≤1000:=by have:=V.len;have:=CO hk;rw[List.length_append];omega
theorem Gc.UL (V:Gc p e v) {m:List Int} (hm :∀x∈m,CB p.decls x=true) :∀x∈v ++ m,CB p.decls x=true:=fun x hx=>by
 rcases List.mem_append.1 hx with h | h
 ·exact V.GQ x h
 ·exact hm x h
theorem Gc.I7 (V:Gc p e v):e.kids.length≤340:=by have:=FR e.kids;have:=V.small;have:=Em e;omega
theorem NC (H:IS p sg R1 R2 T (en e)) (V:Gc p e v) (hN:2000000≤N) (m:Nat):Gs N R1 p v e.kids m=some (decide (e.kids.map (T v)=List.replicate m 0)):=by
 unfold Gs
 have hk:=V.I7
 by_cases h:e.kids.length=m
 ·subst h
  rw[if_neg (by simp[AS]),C9 (l:=e.kids) (EG p v e.kids e.kids.length R1) (fun _ x=>decide (T v x=0)) (fun n=>by rw[EG,if_neg (by simp)]) (fun n i x hx=>?_) (by omega),EH,Dk]
  ·have e1:e.kids.all (fun x=>decide (T v x=0))=decide (e.kids.map (T v)=List.replicate e.kids.length 0):=by
    rw[Bool.eq_iff_iff,decide_eq_true_iff,List.all_eq_true,List.eq_replicate_iff]
    simp
   rw[e1]
   cases decide (e.kids.map (T v)=List.replicate e.kids.length 0) <;> rfl
  ·have hi:=(List.getElem?_eq_some_iff.1 hx).1
   have hm:=List.mem_of_getElem? hx
   rw[EG,if_pos (by simp;omega),A8 hx]
   simp only[Option.bind_some]
   rw[(H v x (V.Ea.kids x hm) (CO hm) (V.H9 hm) V.GQ).1,A9 (by omega) (by omega),show ((i:Int) + 1)=((i+1:Nat):Int) by omega]
   simp only[Option.bind_some]
   by_cases e1:T v x=0 <;> simp[e1]
 ·have h1:¬ ((e.kids.length:Int)=(m:Int)):=by omega
  have h2:¬ e.kids.map (T v)=List.replicate m 0:=fun q=>h (by have:=congrArg List.length q;simpa using this)
  simp[AS,h1,h2]
theorem Ni (H:IS p sg R1 R2 T (en e)) (V:Gc p e v) (hN:2000000≤N) (l:List Int):HL N R1 p v e.kids l=some (decide (e.kids.map (T v)=l)):=by
 unfold HL
 have hk:=V.I7
 by_cases h:e.kids.length=l.length
 ·rw[if_neg (by simp[AS,h]),C9 (l:=l) (E3 p v e.kids l R1) (fun i x=>decide ((e.kids.map (T v))[i]?=some x)) (fun n=>by rw[E3,if_neg (by simp[AS])]) (fun n i x hx=>?_) (by omega),EH,PG (by simp[h])]
  ·by_cases q:l=e.kids.map (T v)
   ·simp[q]
   ·have q':¬ e.kids.map (T v)=l:=fun z=>q z.symm
    simp[q,q']
  ·have hi:=(List.getElem?_eq_some_iff.1 hx).1
   obtain⟨y,hy,hm⟩:=Bn (l:=e.kids) (i:=i) (by omega)
   rw[E3,if_pos (by simp[AS];omega),A8 hy]
   simp only[Option.bind_some]
   rw[(H v y (V.Ea.kids y hm) (CO hm) (V.H9 hm) V.GQ).1,A8 hx,A9 (by omega) (by omega),show ((i:Int) + 1)=((i+1:Nat):Int) by omega]
   simp only[Option.bind_some]
   rw[List.getElem?_map,hy,Option.map_some]
   by_cases e1:T v y=x <;> simp[e1]
 ·have h1:¬ ((e.kids.length:Int)=(l.length:Int)):=by omega
  have h2:¬ e.kids.map (T v)=l:=fun q=>h (by have:=congrArg List.length q;simpa using this)
  simp[AS,h1,h2]
theorem U3 (H:IS p sg R1 R2 T (en e)) (V:Gc p e v) (hN:2000000≤N) :
  Ba v sg e R2 N 0 (List.replicate e.kids.length 0)=some (if (e.kids.map (T v)).any (fun t=>decide (t < 0))=true then .inl (-1) else .inr (e.kids.map (T v))):=by
 have hk:=V.I7
 have key :∀{N i:Nat},i≤e.kids.length→e.kids.length - i < N→∀m:List Int,m.length=e.kids.length→m.take i=(e.kids.map (T v)).take i→
   Ba v sg e R2 N i m=some (if ((e.kids.map (T v)).drop i).any (fun t=>decide (t < 0))=true then .inl (-1) else .inr (e.kids.map (T v))):=by
  intro N i hi hN
  refine Bx e.kids.length (fun N i=>∀m:List Int,m.length=e.kids.length→m.take i=(e.kids.map (T v)).take i→
   Ba v sg e R2 N i m=some (if ((e.kids.map (T v)).drop i).any (fun t=>decide (t < 0))=true then .inl (-1) else .inr (e.kids.map (T v)))) ?_ ?_ hi hN
  ·intro n m a b
   rw[Ba,if_neg (by simp[AS])]
   rw[List.take_of_length_le (by omega),List.take_of_length_le (by simp)] at b
   rw[b,List.drop_of_length_le (by simp)];simp
  ·intro n i hi ih m a b
   obtain⟨x,hx,hxm⟩:=Bn hi
   obtain⟨y,hy,_⟩:=Bn (l:=m) (i:=i) (by omega)
   have hx2:(e.kids.map (T v))[i]?=some (T v x):=by rw[List.getElem?_map,hx];rfl
   have hi':(m.set i (T v x))[i]?=some (T v x):=by rw[List.getElem?_set_self (by omega)]
   rw[Ba,if_pos (by simp[AS];omega),A8 hx]
   simp only[Option.bind_some]
   rw[(H v x (V.Ea.kids x hxm) (CO hxm) (V.H9 hxm) V.GQ).2.1,A8 hy]
   simp only[Option.bind_some]
   rw[Hi,A8 hi',drop_cons hx2]
   simp only[Option.bind_some,List.any_cons]
   by_cases h:T v x < 0
   ·simp[h]
   ·rw[if_neg (by simpa using h),A9 (by omega) (by omega),show ((i:Int) + 1)=((i+1:Nat):Int) by omega,ih (m.set i (T v x)) (by simp[a]) (by rw[CC hi',CC hx2,← b,List.take_set_of_le (Nat.le_refl _)])]
    simp[h]
 have:=key (Nat.zero_le _) (by omega:e.kids.length - 0 < N) (List.replicate e.kids.length 0) (by simp) rfl
 simpa using this
theorem SS {a b:List Int} (ha:a.length≤1000) (hb:b.length≤1000):F3 a b=some (a ++ b):=by
 unfold F3 DQ
 rw[DM [] a 8 (by simp;omega) (by simp;omega)]
 simp only[Option.bind_some,List.nil_append]
 rw[DM a b 8 (by omega) (by omega)];rfl
theorem XI {a b:List Int} (ha:a.length≤1000) (hb:b.length≤1000) (hN:2000000≤N):Eb N [a,b]=some (a ++ b):=by
 obtain⟨n,rfl⟩ :∃n,N=n+3:=⟨N - 3,by omega⟩
 unfold Eb
 have e1:Bo [a,b] (n+3) 0 0=some ((a.length+b.length:Nat):Int):=by
  rw[Bo,if_pos (by simp[AS]),show Sh.get [a,b] 0=some a from rfl]
  simp only[Option.bind_some]
  rw[AS,A9 (n:=(0:Int) + 1) (by omega) (by omega),A9 (by omega) (by omega),if_neg (by rw[decide_eq_true_eq];omega)]
  rw[Bo,if_pos (by simp[AS]),show Sh.get [a,b] (0+1)=some b from rfl]
  simp only[Option.bind_some]
  rw[AS,A9 (n:=(0:Int) + 1+1) (by omega) (by omega),A9 (by omega) (by omega),if_neg (by rw[decide_eq_true_eq];omega)]
  rw[Bo,if_neg (by simp[AS])]
  congr 1;omega
 have e2:Bq [a,b] (n+3) 0 []=some (a ++ b):=by
  rw[Bq,if_pos (by simp[AS]),show Sh.get [a,b] 0=some a from rfl]
  simp only[Option.bind_some]
  rw[DM [] a 8 (by simp;omega) (by simp;omega),A9 (n:=(0:Int) + 1) (by omega) (by omega)]
  simp only[Option.bind_some,List.nil_append]
  rw[Bq,if_pos (by simp[AS]),show Sh.get [a,b] (0+1)=some b from rfl]
  simp only[Option.bind_some]
  rw[DM a b 8 (by omega) (by omega),A9 (n:=(0:Int) + 1+1) (by omega) (by omega)]
  simp only[Option.bind_some]
  rw[Bq,if_neg (by simp[AS])]
 have e3:E4 ((a.length+b.length:Nat):Int)=some []:=by
  unfold E4
  rw[if_neg (by simp;omega),A9 (n:=(0:Int) - 0) (by omega) (by omega),A9 (by omega) (by omega)]
  by_cases h:0 < a.length+b.length
  ·rw[if_pos (by simp;omega),show (((a.length+b.length:Nat):Int) - (0 - 0))=((a.length+b.length:Nat):Int) by omega,JF _ _ _ (by omega) (by omega)]
   simp only[Option.bind_some]
   have:=dk (l:=List.replicate (a.length+b.length) (0:Int)) (j:=0) (by omega)
   rw[show ((0:Nat):Int)=0 from rfl] at this
   rw[this];rfl
  ·rw[if_neg (by simp;omega)];rfl
 rw[e1]
 simp only[Option.bind_some]
 rw[e3]
 simp only[Option.bind_some]
 rw[e2];rfl
def Ja:List Int→Int
 | []=>-1
 | t :: r=>if r.all (fun x=>decide (x=t))=true then t else -1
theorem IF (H:IS p sg R1 R2 T (en e)) (V:Gc p e v) (hN:2000000≤N) {ks:List AG} {ms:List (List Int)} (hks :∀k∈ks,k∈e.kids) (hkl:ks.length≤340) (hl:ms.length=ks.length) (hm :∀m∈ms,m.length≤3∧∀x∈m,CB p.decls x=true) :
  C8 N R2 sg v ks ms=some (Ja (List.zipWith (fun m k=>T (v ++ m) k) ms ks)):=by
 unfold C8
 have hvl:v.length≤1000:=by have:=V.len;omega
 have step :∀(n i:Nat) (r:Int) k m,ks[i]?=some k→ms[i]?=some m→BI N sg v ks ms R2 (n+1) r i=if T (v ++ m) k < 0∨(0 < i∧T (v ++ m) k≠r) then some (.inl (-1)) else BI N sg v ks ms R2 n (T (v ++ m) k) ((i+1:Nat):Int):=by
  intro n i r k m hk hmm
  have hi:=(List.getElem?_eq_some_iff.1 hk).1
  have hmo:=hm m (List.mem_of_getElem? hmm)
  have hke:=hks k (List.mem_of_getElem? hk)
  rw[BI,if_pos (by simp[AS];omega),A8 hk]
  simp only[Option.bind_some]
  rw[A8 hmm]
  simp only[Option.bind_some]
  rw[XI hvl (by omega) hN]
  simp only[Option.bind_some]
  rw[(H (v ++ m) k (V.Ea.kids k hke) (CO hke) (V.more hke hmo.1) (V.UL hmo.2)).2.1]
  simp only[Option.bind_some]
  rw[A9 (by omega) (by omega),show ((i:Int) + 1)=((i+1:Nat):Int) by omega]
  by_cases h1:T (v ++ m) k < 0
  ·simp[h1]
  ·by_cases h2:0 < i
   ·by_cases h3:T (v ++ m) k=r
    ·have h1':¬ r < 0:=h3 ▸ h1
     simp[h1',h2,h3]
    ·simp[h1,h2,h3]
   ·simp[h1,h2]
 have rest :∀(d i n:Nat) (r:Int),ks.length - i=d→0 < i→i≤ks.length→d < n→BI N sg v ks ms R2 n r i=some (if ((List.zipWith (fun m k=>T (v ++ m) k) ms ks).drop i).all (fun x=>decide (x=r))=true then (if ((List.zipWith (fun m k=>T (v ++ m) k) ms ks).drop i).any (fun x=>decide (x < 0))=true then .inl (-1) else .inr r) else .inl (-1)):=by
  intro d
  induction d with
  | zero=>
   intro i n r h1 h2 h3 h4
   obtain⟨n,rfl⟩ :∃q,n=q+1:=⟨n - 1,by omega⟩
   rw[BI,if_neg (by simp[AS];omega),List.drop_of_length_le (by simp;omega)];rfl
  | succ d ih=>
   intro i n r h1 h2 h3 h4
   obtain⟨n,rfl⟩ :∃q,n=q+1:=⟨n - 1,by omega⟩
   obtain⟨k,hk,_⟩:=Bn (l:=ks) (i:=i) (by omega)
   obtain⟨m,hmm,_⟩:=Bn (l:=ms) (i:=i) (by omega)
   have hz:(List.zipWith (fun m k=>T (v ++ m) k) ms ks)[i]?=some (T (v ++ m) k):=by rw[List.getElem?_zipWith,hk,hmm]
   rw[step n i r k m hk hmm,drop_cons hz,List.all_cons,List.any_cons]
   by_cases h5:T (v ++ m) k=r
   ·by_cases h6:T (v ++ m) k < 0
    ·rw[if_pos (.inl h6)]
     have h6':r < 0:=h5 ▸ h6
     simp[h5,h6']
    ·rw[if_neg (by rintro (h | h);exact h6 h;exact h.2 h5),ih (i+1) n _ (by omega) (by omega) (by omega) (by omega)]
     have h6':¬ r < 0:=h5 ▸ h6
     simp[h5,h6']
   ·rw[if_pos (.inr ⟨h2,h5⟩)]
    simp[h5]
 cases hks0:ks with
 | nil=>
  obtain⟨n,rfl⟩ :∃q,N=q+1:=⟨N - 1,by omega⟩
  rw[BI,if_neg (by simp[AS])]
  simp[Ja]
 | cons k r=>
  cases hms0:ms with
  | nil=>rw[hks0,hms0] at hl;simp at hl
  | cons m s=>
   rw[← hks0,← hms0]
   obtain⟨n,hn⟩ :∃q,N=q+1:=⟨N - 1,by omega⟩
   have h0:=step n 0 (-1) k m (by rw[hks0];rfl) (by rw[hms0];rfl)
   rw[show ((0:Nat):Int)=0 from rfl] at h0
   have hke:=hks k (by rw[hks0];simp)
   have hmo:=hm m (by rw[hms0];simp)
   have hT:=(H (v ++ m) k (V.Ea.kids k hke) (CO hke) (V.more hke hmo.1) (V.UL hmo.2)).2.2
   rw[show BI N sg v ks ms R2 N (-1) 0=BI N sg v ks ms R2 (n+1) (-1) 0 by rw[← hn],h0]
   have hzc:List.zipWith (fun m k=>T (v ++ m) k) ms ks=T (v ++ m) k :: List.zipWith (fun m k=>T (v ++ m) k) s r:=by rw[hks0,hms0];rfl
   rw[hzc]
   unfold Ja
   by_cases h1:T (v ++ m) k < 0
   ·rw[if_pos (.inl h1)]
    have:T (v ++ m) k=-1:=by
     rcases hT with h | h
     ·exact h
     ·have:=(IZ h).1;omega
    rw[this]
    simp
   ·rw[if_neg (by rintro (h | h);exact h1 h;omega),rest _ 1 n _ rfl (by omega) (by rw[hks0];simp) (by omega),hzc,List.drop_succ_cons,List.drop_zero]
    by_cases h2:(List.zipWith (fun m k=>T (v ++ m) k) s r).all (fun x=>decide (x=T (v ++ m) k))=true
    ·have h3:¬ (List.zipWith (fun m k=>T (v ++ m) k) s r).any (fun x=>decide (x < 0))=true:=fun h=>by
      obtain⟨x,hx,hx2⟩:=List.any_eq_true.1 h
      have:=List.all_eq_true.1 h2 x hx
      simp only[decide_eq_true_eq] at this hx2
      omega
     rw[if_pos h2,if_neg h3]
     dsimp only
     rw[if_pos h2];rfl
    ·rw[if_neg h2]
     dsimp only
     rw[if_neg h2];rfl
end
end RC



namespace RC
open Go
theorem YM {n:Int} (h1:n < -9223372036854775808) (h2:-18446744073709551616≤n):Sh.w n=n+18446744073709551616:=by
 unfold Sh.w
 rw[IntKind.wrap_i64];omega
theorem RU {D:List Ab} (hD:D.length≤1048576) (hn:nc D≤1048576) {c:Int} (hI:FY c) (hc:c < 0∨(nc D:Int)≤c) {N:Nat} (hN:2000000≤N):GS N D c=some (-1,⟨[]⟩):=by
 have key :∀(m j N:Nat) (c:Int),D.length - j=m→j≤D.length→m < N→FY c→(c < 0∨(nc (D.drop j):Int)≤c)→Dw D N c j=some (.inr ()):=by
  intro m
  induction m with
  | zero=>
   intro j N c h1 h2 h3 _ _
   obtain⟨N,rfl⟩ :∃n,N=n+1:=⟨N - 1,by omega⟩
   rw[Dw,if_neg (by simp[AS];omega)]
  | succ m ih=>
   intro j N c h1 h2 h3 hI h4
   obtain⟨N,rfl⟩ :∃n,N=n+1:=⟨N - 1,by omega⟩
   obtain⟨d,hd,_⟩:=Bn (l:=D) (i:=j) (by omega)
   have hs:=Fj D j
   rw[PW hd] at h4 hs
   rw[Dw,if_pos (by simp[AS];omega),A8 hd]
   simp only[Option.bind_some]
   have hlo:=hI.1
   have hhi:=hI.2
   have e1:¬ (0≤c∧c < (d.cons.length:Int)):=by omega
   have e2:(if decide (0≤c)=true then some (decide (c < Sh.len d.cons)) else some false)=some false:=by
    by_cases h0:0≤c
    ·have:¬ c < (d.cons.length:Int):=by omega
     simp[h0,AS,this]
    ·simp[h0]
   rw[A9 (n:=(j:Int) + 1) (by omega) (by omega),show ((j:Int) + 1)=((j+1:Nat):Int) by omega,AS]
   rw[AS] at e2
   by_cases h5:c - (d.cons.length:Int) < -9223372036854775808
   ·have:=ih (j+1) N (Sh.w (c - (d.cons.length:Int))) (by omega) (by omega) (by omega) (by rw[YM h5 (by omega)];unfold FY;omega) (by rw[YM h5 (by omega)];omega)
    rw[e2]
    simp only[Option.bind_some,Bool.false_eq_true,if_false]
    exact this
   ·have:=ih (j+1) N (Sh.w (c - (d.cons.length:Int))) (by omega) (by omega) (by omega) (by rw[A9 (by omega) (by omega)];unfold FY;omega) (by rw[A9 (by omega) (by omega)];omega)
    rw[e2]
    simp only[Option.bind_some,Bool.false_eq_true,if_false]
    exact this
 have:=key D.length 0 N c (by omega) (by omega) (by omega) hI (by simpa using hc)
 unfold GS
 rw[show (((0:Nat):Int))=0 from rfl] at this
 rw[this];rfl
theorem KB :∀{D:List Ab} {k c t:Nat} {x:BU},Hm D k c=some (t,x)→k < t∧t≤k+D.length∧∃d∈D,x∈d.cons
 | [],_,_,_,_,h=>by simp[Hm] at h
 | d :: r,k,c,t,x,h=>by
  unfold Hm at h
  cases hx:d.cons[c]? with
  | some y=>
   rw[hx] at h
   simp only[Option.some.injEq,Prod.mk.injEq] at h
   obtain⟨rfl,rfl⟩:=h
   exact⟨by omega,by simp,d,by simp,List.mem_of_getElem? hx⟩
  | none=>
   rw[hx] at h
   obtain⟨h1,h2,e,h3,h4⟩:=KB h
   exact⟨by omega,by simp;omega,e,by simp[h3],h4⟩
def Qk (a b:Int) (d:Ab):Bool:=decide (d.cons.length=0) && (decide (d.from_=a) && decide (d.to=b))
def Ha (a b:Int):List Ab→Nat→Int
 | [],_=>-1
 | d :: r,k=>if Qk a b d=true then (k:Int) + 1 else Ha a b r (k+1)
theorem WE {a b:Int} :∀(l:List Ab) (k:Nat),Ha a b l k=-1∨((k:Int) < Ha a b l k∧Ha a b l k≤k+l.length)
 | [],_=>.inl rfl
 | d :: r,k=>by
  unfold Ha
  by_cases h:Qk a b d=true
  ·rw[if_pos h];right;simp only[List.length_cons];omega
  ·rw[if_neg h]
   rcases WE r (k+1) with h1 | h1
   ·exact .inl h1
   ·right;simp only[List.length_cons];omega
theorem UH {a b:Int} {d:Ab}:(if decide ((Sh.len d.cons)=0)=true then if decide (d.from_=a)=true then some (decide (d.to=b)) else some false else some false)=some (Qk a b d):=by
 unfold Qk
 by_cases h1:d.cons.length=0 <;> by_cases h2:d.from_=a <;> simp[AS,h1,h2]
theorem QD {D:List Ab} (hD:D.length≤1048576) {a b:Int} {N:Nat} (hN:2000000≤N):Hn N D a b=some (Ha a b D 0):=by
 unfold Hn
 have key :∀{M i:Nat},i≤D.length→D.length - i < M→Sh.cont (Df D a b M i) id (fun ()=>some (-1))=some (Ha a b (D.drop i) i):=by
  intro M i hi hM
  refine Bx D.length (fun M i=>Sh.cont (Df D a b M i) id (fun ()=>some (-1))=some (Ha a b (D.drop i) i)) ?_ ?_ hi hM
  ·intro n;rw[Df,if_neg (by simp[AS])];simp[Ha,Sh.cont]
  ·intro n i hi ih
   obtain⟨d,hd,_⟩:=Bn hi
   rw[Df,if_pos (by simp[AS];omega),A8 hd,drop_cons hd]
   simp only[Option.bind_some]
   rw[UH,A9 (by omega) (by omega),show ((i:Int) + 1)=((i+1:Nat):Int) by omega]
   simp only[Option.bind_some,Ha]
   by_cases h:Qk a b d=true
   ·rw[if_pos h,if_pos h];simp[Sh.cont]
   ·rw[if_neg h,if_neg h,ih]
 have:=key (Nat.zero_le _) (by omega:D.length - 0 < N)
 simpa using this
theorem QN {D:List Ab} (hD:D.length≤1048576) {a b:Int} {N:Nat} (hN:2000000≤N):Hq N D a b=some (Ha a b D 0):=by
 unfold Hq
 have key :∀{M i:Nat},i≤D.length→D.length - i < M→Sh.cont (De D a b M i) id (fun ()=>some (-1))=some (Ha a b (D.drop i) i):=by
  intro M i hi hM
  refine Bx D.length (fun M i=>Sh.cont (De D a b M i) id (fun ()=>some (-1))=some (Ha a b (D.drop i) i)) ?_ ?_ hi hM
  ·intro n;rw[De,if_neg (by simp[AS])];simp[Ha,Sh.cont]
  ·intro n i hi ih
   obtain⟨d,hd,_⟩:=Bn hi
   rw[De,if_pos (by simp[AS];omega),A8 hd,drop_cons hd]
   simp only[Option.bind_some]
   rw[UH,A9 (by omega) (by omega),show ((i:Int) + 1)=((i+1:Nat):Int) by omega]
   simp only[Option.bind_some,Ha]
   by_cases h:Qk a b d=true
   ·rw[if_pos h,if_pos h];simp[Sh.cont]
   ·rw[if_neg h,if_neg h,ih]
 have:=key (Nat.zero_le _) (by omega:D.length - 0 < N)
 simpa using this
def OC (D:List Ab) (t:Int):Option Ab:=if 1≤t∧t≤(D.length:Int) then (D[(t - 1).toNat]?).bind fun d=>if d.cons.length=0 then some d else none else none
theorem Qw {D:List Ab} {t:Int} {d:Ab} (h:OC D t=some d):d∈D∧1≤t∧t≤(D.length:Int)∧D[(t - 1).toNat]?=some d:=by
 unfold OC at h
 split at h
 ·rename_i h1
  obtain⟨e,he,h2⟩:=Option.bind_eq_some_iff.1 h
  split at h2
  ·cases h2;exact⟨List.mem_of_getElem? he,h1.1,h1.2,he⟩
  ·cases h2
 ·cases h
theorem Qv {D:List Ab} (hD:D.length≤1048576) {t:Int}:Hg D t=some ((OC D t).elim (⟨0,0,[]⟩,false) fun d=>(d,true)):=by
 unfold Hg OC
 by_cases h:1≤t∧t≤(D.length:Int)
 ·obtain⟨a,ha⟩ :∃a:Nat,t=(a:Int) + 1:=⟨(t - 1).toNat,by omega⟩
  subst ha
  obtain⟨d,hd,_⟩:=Bn (l:=D) (i:=a) (by omega)
  have e1:¬ ((a:Int) + 1 < 1):=by omega
  have e2:¬ ((D.length:Int) < (a:Int) + 1):=by omega
  rw[if_pos h,A9 (by omega) (by omega),show ((a:Int) + 1 - 1)=((a:Nat):Int) by omega,A8 hd,Int.toNat_natCast,hd]
  by_cases h2:d.cons.length=0
  ·have h2':d.cons=[]:=List.eq_nil_of_length_eq_zero h2
   simp[e1,e2,AS,h2']
  ·have h3:0 < d.cons.length:=by omega
   have h2':¬ d.cons=[]:=fun q=>h2 (by rw[q];rfl)
   simp[e1,e2,AS,h2',h3]
 ·rw[if_neg h]
  by_cases h1:t < 1
  ·simp[h1]
  ·have h2:(D.length:Int) < t:=by omega
   simp[h1,AS,h2]
theorem QI {D:List Ab} (hD:D.length≤1048576) {t:Int}:Hw D t=some (OC D t).isSome:=by
 unfold Hw OC
 rw[DN]
 by_cases h:1≤t∧t≤(D.length:Int)
 ·obtain⟨a,ha⟩ :∃a:Nat,t=(a:Int) + 1:=⟨(t - 1).toNat,by omega⟩
  subst ha
  obtain⟨d,hd,_⟩:=Bn (l:=D) (i:=a) (by omega)
  have e1:((1:Int)≤(a:Int) + 1):=by omega
  have e2:((a:Int) + 1≤(D.length:Int)):=by omega
  rw[if_pos h,A9 (by omega) (by omega),show ((a:Int) + 1 - 1)=((a:Nat):Int) by omega,A8 hd,Int.toNat_natCast,hd]
  by_cases h2:d.cons=[] <;> simp[e1,e2,AS,h2]
 ·rw[if_neg h]
  have:(decide (1≤t) && decide (t≤Sh.len D))=false:=by
   rw[AS]
   by_cases h1:1≤t
   ·have h2:¬ t≤(D.length:Int):=fun q=>h ⟨h1,q⟩
    simp[h1,h2]
   ·simp[h1]
  simp[this]
section
variable {p : Aa} {sg : A6} {R1 : Aa → List Int → AG → Option Int} {R2 : List Int → A6 → AG → Option Int} {T : List Int → AG → Int} {e : AG} {v : List Int} {N : Nat}
theorem D1 (H:IS p sg R1 R2 T (en e)) (V:Gc p e v) (hN:2000000≤N) (h1:¬ e.op=12) (h2:¬ e.op=13) (h3:¬ e.op=7) (h4:¬ e.op=8) :
  Ap N R2 v sg e=if (e.kids.map (T v)).any (fun t=>decide (t < 0))=true then some (-1) else Option.bind (A2 N sg e.op e.num (e.kids.map (T v))) fun q=>if q.2=true then some q.1 else some (-1):=by
 unfold Ap
 have hk:=V.I7
 simp only[h1,h2,h3,h4,decide_false,Bool.false_eq_true,if_false]
 rw[AS,JF _ _ _ (by omega) (by omega)]
 simp only[Option.bind_some]
 rw[U3 H V hN]
 by_cases h:(e.kids.map (T v)).any (fun t=>decide (t < 0))=true
 ·rw[if_pos h,if_pos h];rfl
 ·rw[if_neg h,if_neg h]
  simp only[Sh.J9]
  cases A2 N sg e.op e.num (e.kids.map (T v)) with
  | none=>rfl
  | some q=>simp only[Option.bind_some];cases q.2 <;> rfl
theorem JJ (H:IS p sg R1 R2 T (en e)) (V:Gc p e v) (hN:2000000≤N) (h1:¬ e.op=12) (h2:¬ e.op=13) (h3:¬ e.op=7) (h4:¬ e.op=8) {want:List Int} {c:Bool} {t:Int} (hw :∀x∈want,0≤x)
  (hs:A2 N sg e.op e.num (e.kids.map (T v))=some (t,c && decide (e.kids.map (T v)=want))) :
  Ap N R2 v sg e=some (if c=true∧e.kids.map (T v)=want then t else -1):=by
 rw[D1 H V hN h1 h2 h3 h4,hs]
 by_cases h:e.kids.map (T v)=want
 ·have:¬ (e.kids.map (T v)).any (fun t=>decide (t < 0))=true:=fun q=>by
   obtain⟨x,hx,hx2⟩:=List.any_eq_true.1 q
   have:=hw x (h ▸ hx)
   simp only[decide_eq_true_eq] at hx2
   omega
  rw[if_neg this]
  cases c <;> simp[h]
 ·have hn:¬ (c=true∧e.kids.map (T v)=want):=fun q=>h q.2
  rw[if_neg hn]
  simp[h]
end
end RC



namespace RC
open Go
def Dj (p:Aa):A6:=⟨p.decls,p.funcs.map fun f=>⟨f.params,[],f.result⟩⟩
section
variable {p : Aa} {R1 : Aa → List Int → AG → Option Int} {R2 : List Int → A6 → AG → Option Int} {T : List Int → AG → Int} {e : AG} {v : List Int} {N : Nat}
def I6 (p:Aa) (R1:Aa→List Int→AG→Option Int) (R2:List Int→A6→AG→Option Int) (N:Nat) (v:List Int) (e:AG):Prop:=
 ∃t,BN N R1 p v e=some t∧Ap N R2 v (Dj p) e=some t∧(t=-1∨CB p.decls t=true)
theorem az {D:List Ab}:CB D 0=true:=by unfold CB;simp
theorem len_nil {α:Type} {l:List α}:decide ((Sh.len l)=0)=decide (l=[]):=by
 cases l with
 | nil=>rfl
 | cons x r=>exact decide_eq_decide.2 (by rw[AS,List.length_cons];exact⟨fun h=>by omega,fun h=>nomatch h⟩)
theorem Yc (H:IS p (Dj p) R1 R2 T (en e)) (V:Gc p e v) (hN:2000000≤N) (h:e.op=0):I6 p R1 R2 N v e:=by
 have h1:=JJ H V hN (by omega) (by omega) (by omega) (by omega) (want:=[]) (c:=decide (-999≤e.num) && decide (e.num≤999)) (t:=0) (by simp) (by
  unfold A2
  simp only[h,decide_true,if_true,len_nil]
  by_cases a:-999≤e.num <;> by_cases b:e.num≤999 <;> simp[a,b,Sh.cont])
 refine⟨_,?_,h1,?_⟩
 ·unfold BN
  simp only[h,decide_true,if_true,len_nil,DN]
  by_cases a:-999≤e.num <;> by_cases b:e.num≤999 <;> by_cases c:e.kids=[] <;> simp[a,b,c,Sh.cont]
 ·split
  ·exact .inr az
  ·exact .inl rfl
theorem Vy (H:IS p (Dj p) R1 R2 T (en e)) (V:Gc p e v) (hN:2000000≤N) (h:e.op=1∨e.op=2∨e.op=3∨e.op=4):I6 p R1 R2 N v e:=by
 have hk:=V.I7
 have h1:=JJ H V hN (by omega) (by omega) (by omega) (by omega) (want:=[0,0]) (c:=decide (e.num=0)) (t:=0) (by simp) (by
  unfold A2
  have e3:CH N (e.kids.map (T v)) [0,0]=some (decide (e.kids.map (T v)=[0,0])):=LR (by simp;omega) hN
  rcases h with h | h | h | h <;> simp only[h,Int.reduceEq,decide_true,decide_false,Bool.false_eq_true,if_true,if_false,Option.bind_some,Sh.J9] <;> rw[e3] <;> by_cases a:e.num=0 <;> simp[a])
 refine⟨_,?_,h1,?_⟩
 ·unfold BN
  have e2:=NC H V hN 2
  rw[show ((2:Nat):Int)=2 from rfl,show List.replicate 2 (0:Int)=[0,0] from rfl] at e2
  rcases h with h | h | h | h <;> simp only[h,Int.reduceEq,decide_true,decide_false,Bool.false_eq_true,if_true,if_false,Option.bind_some] <;> rw[e2] <;> by_cases a:e.num=0 <;> by_cases b:e.kids.map (T v)=[0,0] <;> simp[a,b,Sh.cont]
 ·split
  ·exact .inr az
  ·exact .inl rfl
theorem WG (H:IS p (Dj p) R1 R2 T (en e)) (V:Gc p e v) (hN:2000000≤N) (h:e.op=5):I6 p R1 R2 N v e:=by
 have hk:=V.I7
 have h1:=JJ H V hN (by omega) (by omega) (by omega) (by omega) (want:=[0]) (c:=decide (e.num=0)) (t:=0) (by simp) (by
  unfold A2
  simp only[h,Int.reduceEq,decide_true,decide_false,Bool.false_eq_true,if_true,if_false,Option.bind_some,Sh.J9]
  rw[LR (by simp;omega) hN]
  by_cases a:e.num=0 <;> simp[a])
 refine⟨_,?_,h1,?_⟩
 ·unfold BN
  have e2:=NC H V hN 1
  rw[show ((1:Nat):Int)=1 from rfl,show List.replicate 1 (0:Int)=[0] from rfl] at e2
  simp only[h,Int.reduceEq,decide_true,decide_false,Bool.false_eq_true,if_true,if_false,Option.bind_some]
  rw[e2]
  by_cases a:e.num=0 <;> by_cases b:e.kids.map (T v)=[0] <;> simp[a,b,Sh.cont]
 ·split
  ·exact .inr az
  ·exact .inl rfl
theorem Yn (H:IS p (Dj p) R1 R2 T (en e)) (V:Gc p e v) (S:Dy p.decls p.funcs) (hN:2000000≤N) (h:e.op=6):I6 p R1 R2 N v e:=by
 have hk:=V.I7
 have hD:=S.Lj
 have hn:=S.nc
 by_cases hr:0≤e.num∧e.num < (nc p.decls:Int)
 ·obtain⟨c,hc⟩:=Int.eq_ofNat_of_zero_le hr.1
  have hc2:c < nc p.decls:=by omega
  obtain⟨t,x,e1,e2⟩:=JR (D:=p.decls) (by omega) (by omega) hc2 hN
  obtain⟨t',x',e1',e3⟩:=H7 (D:=p.decls) (by omega) (by omega) hc2 hN
  obtain⟨t'',x'',e1'',e4⟩:=Mo (D:=p.decls) (by omega) (by omega) hc2 hN
  rw[e1] at e1' e1''
  cases e1';cases e1''
  obtain⟨g1,g2,d,g3,g4⟩:=KB e1
  have hx:=S.Kv d g3 x g4
  have h1:=JJ H V hN (by omega) (by omega) (by omega) (by omega) (want:=x.fields) (c:=true) (t:=(t:Int)) (fun y hy=>(IZ (hx.2 y hy)).1) (by
   unfold A2
   simp only[h,Int.reduceEq,decide_true,decide_false,Bool.false_eq_true,if_true,if_false,Option.bind_some]
   rw[hc,show (Dj p).decls=p.decls from rfl,e4]
   simp only[Option.bind_some]
   rw[LR (by simp;omega) hN,if_pos (by simp)]
   simp[Sh.cont])
  refine⟨_,?_,h1,?_⟩
  ·unfold BN
   simp only[h,Int.reduceEq,decide_true,decide_false,Bool.false_eq_true,if_true,if_false,Option.bind_some]
   rw[hc,e2,e3]
   simp only[Option.bind_some]
   rw[Ni H V hN,if_pos (by simp;omega)]
   by_cases b:e.kids.map (T v)=x.fields <;> simp[b,Sh.cont]
  ·split
   ·right;unfold CB;simp;omega
   ·exact .inl rfl
 ·refine⟨-1,?_,?_,.inl rfl⟩
  ·unfold BN
   simp only[h,Int.reduceEq,decide_true,decide_false,Bool.false_eq_true,if_true,if_false,Option.bind_some]
   rw[Kz (by omega) (by omega) (by omega) hN]
   simp[Sh.cont]
  ·rw[D1 H V hN (by omega) (by omega) (by omega) (by omega)]
   unfold A2
   simp only[h,Int.reduceEq,decide_true,decide_false,Bool.false_eq_true,if_true,if_false,Option.bind_some]
   rw[show (Dj p).decls=p.decls from rfl,RU (by omega) (by omega) V.Ea.num (by omega) hN]
   simp[Sh.cont]
theorem Wa (H:IS p (Dj p) R1 R2 T (en e)) (V:Gc p e v) (hN:2000000≤N) (h:e.op < 0∨13 < e.op):I6 p R1 R2 N v e:=by
 refine⟨-1,?_,?_,.inl rfl⟩
 ·unfold BN
  simp only[show ¬ e.op=0 by omega,show ¬ e.op=12 by omega,show ¬ e.op=1 by omega,show ¬ e.op=2 by omega,show ¬ e.op=3 by omega,show ¬ e.op=4 by omega,show ¬ e.op=5 by omega,show ¬ e.op=6 by omega,show ¬ e.op=13 by omega,show ¬ e.op=7 by omega,show ¬ e.op=8 by omega,show ¬ e.op=9 by omega,show ¬ e.op=10 by omega,show ¬ e.op=11 by omega,decide_false,Bool.false_eq_true,if_false,Option.bind_some]
  simp[Sh.cont]
 ·rw[D1 H V hN (by omega) (by omega) (by omega) (by omega)]
  unfold A2
  simp only[show ¬ e.op=0 by omega,show ¬ e.op=12 by omega,show ¬ e.op=1 by omega,show ¬ e.op=2 by omega,show ¬ e.op=3 by omega,show ¬ e.op=4 by omega,show ¬ e.op=5 by omega,show ¬ e.op=6 by omega,show ¬ e.op=13 by omega,show ¬ e.op=7 by omega,show ¬ e.op=8 by omega,show ¬ e.op=9 by omega,show ¬ e.op=10 by omega,show ¬ e.op=11 by omega,decide_false,Bool.false_eq_true,if_false,Option.bind_some]
  simp[Sh.cont]
theorem Ym (V:Gc p e v) (h:e.op=12):I6 p R1 R2 N v e:=by
 have hv:v.length≤1000:=by have:=V.len;omega
 unfold I6 BN Ap
 simp only[h,Int.reduceEq,decide_true,decide_false,Bool.false_eq_true,if_true,if_false,Option.bind_some,len_nil,DN]
 rw[AS,A9 (by omega) (by omega)]
 cases hks:e.kids with
 | cons a r=>exact⟨-1,by simp[Sh.cont],by simp[AS],.inl rfl⟩
 | nil=>
  by_cases h1:0≤e.num
  ·by_cases h2:e.num < (v.length:Int)
   ·obtain⟨x,g1,g2⟩:=P8 h1 h2
    have h3:e.num≤(v.length:Int) - 1:=by omega
    have h4:¬ e.num < 0:=by omega
    have h5:¬ (v.length:Int)≤e.num:=by omega
    refine⟨x,?_,?_,.inr (V.GQ x (List.mem_of_getElem? g2))⟩
    ·simp[h1,h3,g1,Sh.cont]
    ·simp[h4,h5,g1,AS]
   ·have h3:¬ e.num≤(v.length:Int) - 1:=by omega
    have h4:¬ e.num < 0:=by omega
    have h5:(v.length:Int)≤e.num:=by omega
    exact⟨-1,by simp[h1,h3,Sh.cont],by simp[h4,h5,AS],.inl rfl⟩
  ·have h4:e.num < 0:=by omega
   exact⟨-1,by simp[h1,Sh.cont],by simp[h4,AS],.inl rfl⟩
end
end RC



namespace RC
open Go
section
variable {p : Aa} {R1 : Aa → List Int → AG → Option Int} {R2 : List Int → A6 → AG → Option Int} {T : List Int → AG → Int} {e : AG} {v : List Int} {N : Nat}
theorem Yk (H:IS p (Dj p) R1 R2 T (en e)) (V:Gc p e v) (h:e.op=13):I6 p R1 R2 N v e:=by
 have hv:v.length≤1000:=by have:=V.len;omega
 unfold I6 BN Ap
 simp only[h,Int.reduceEq,decide_true,decide_false,Bool.false_eq_true,if_true,if_false,Option.bind_some]
 by_cases hl:e.kids.length=2
 ·obtain⟨a,b,hk⟩ :∃a b,e.kids=[a,b]:=by
   match hk:e.kids,hl with
   | [a,b],_=>exact⟨a,b,rfl⟩
  have hma:a∈e.kids:=by rw[hk];simp
  have hmb:b∈e.kids:=by rw[hk];simp
  obtain⟨a1,a2,a3⟩:=H v a (V.Ea.kids a hma) (CO hma) (V.H9 hma) V.GQ
  have g0:Sh.get e.kids 0=some a:=by rw[hk];rfl
  have g1:Sh.get e.kids 1=some b:=by rw[hk];rfl
  rw[g0,g1]
  simp only[Option.bind_some,AS,hl]
  rw[a1,a2]
  simp only[Option.bind_some]
  by_cases hn:e.num=0
  ·by_cases ht:0≤T v a
   ·have ht':¬ T v a < 0:=by omega
    have hty:CB p.decls (T v a)=true:=by
     rcases a3 with q | q
     ·omega
     ·exact q
    obtain⟨b1,b2,b3⟩:=H (v ++ [T v a]) b (V.Ea.kids b hmb) (CO hmb) (V.more hmb (by simp)) (V.UL (by simp[hty]))
    refine⟨T (v ++ [T v a]) b,?_,?_,b3⟩
    ·rw[SS hv (by simp)]
     simp[hn,ht,b1,Sh.cont]
    ·rw[DM v [T v a] 8 (by simp;omega) (by simp;omega)]
     simp[hn,ht',b2]
   ·have ht':T v a < 0:=by omega
    exact⟨-1,by simp[hn,ht,Sh.cont],by simp[hn,ht'],.inl rfl⟩
  ·exact⟨-1,by simp[hn,Sh.cont],by simp[hn],.inl rfl⟩
 ·have hl':¬ ((e.kids.length:Int)=2):=by omega
  refine⟨-1,?_,?_,.inl rfl⟩
  ·by_cases hn:e.num=0 <;> simp[hn,AS,hl',Sh.cont]
  ·simp[AS,hl']
theorem QE (x y:Int):Ja [x,y]=if y=x then x else -1:=by
 unfold Ja
 by_cases h:y=x <;> simp[h]
theorem ax (H:IS p (Dj p) R1 R2 T (en e)) (V:Gc p e v) (hN:2000000≤N) (h:e.op=7):I6 p R1 R2 N v e:=by
 have hv:v.length≤1000:=by have:=V.len;omega
 unfold I6 BN Ap
 simp only[h,Int.reduceEq,decide_true,decide_false,Bool.false_eq_true,if_true,if_false,Option.bind_some]
 by_cases hl:e.kids.length=3
 ·obtain⟨a,b,c,hk⟩ :∃a b c,e.kids=[a,b,c]:=by
   match hk:e.kids,hl with
   | [a,b,c],_=>exact⟨a,b,c,rfl⟩
  have hma:a∈e.kids:=by rw[hk];simp
  have hmb:b∈e.kids:=by rw[hk];simp
  have hmc:c∈e.kids:=by rw[hk];simp
  obtain⟨a1,a2,a3⟩:=H v a (V.Ea.kids a hma) (CO hma) (V.H9 hma) V.GQ
  obtain⟨b1,b2,b3⟩:=H v b (V.Ea.kids b hmb) (CO hmb) (V.H9 hmb) V.GQ
  obtain⟨c1,c2,c3⟩:=H v c (V.Ea.kids c hmc) (CO hmc) (V.H9 hmc) V.GQ
  have g0:Sh.get e.kids 0=some a:=by rw[hk];rfl
  have g1:Sh.get e.kids 1=some b:=by rw[hk];rfl
  have g2:Sh.get e.kids 2=some c:=by rw[hk];rfl
  have g3:Sh.sl e.kids 1 3=some [b,c]:=by rw[hk];rfl
  have o:=IF (ks:=[b,c]) (ms:=[[],[]]) H V hN (by intro k hk;simp only[List.mem_cons,List.not_mem_nil,or_false] at hk;rcases hk with rfl | rfl <;> assumption) (by simp) rfl (by simp)
  have mk2:Sh.mk ([]:List Int) 2 24=some [[],[]]:=JF [] 2 24 (by omega) (by omega)
  rw[g0,g1,g2]
  simp only[Option.bind_some,AS,hl]
  rw[a1,a2,b1,c1,show ((3:Nat):Int)=3 from rfl,g3,mk2]
  simp only[Option.bind_some]
  rw[o]
  simp only[Option.bind_some,List.zipWith,List.append_nil,QE]
  by_cases hn:e.num=0
  ·by_cases ht:T v a=0
   ·by_cases hq:T v c=T v b
    ·exact⟨T v b,by simp[hn,ht,hq,Sh.cont],by simp[hn,ht,hq],b3⟩
    ·exact⟨-1,by simp[hn,ht,hq,Sh.cont],by simp[hn,ht,hq],.inl rfl⟩
   ·exact⟨-1,by simp[hn,ht,Sh.cont],by simp[hn,ht],.inl rfl⟩
  ·exact⟨-1,by simp[hn,Sh.cont],by simp[hn],.inl rfl⟩
 ·have hl':¬ ((e.kids.length:Int)=3):=by omega
  refine⟨-1,?_,?_,.inl rfl⟩
  ·by_cases hn:e.num=0 <;> simp[hn,AS,hl',Sh.cont]
  ·simp[AS,hl']
theorem YT {n:Int}:(∃f,0≤n∧n < (p.funcs.length:Int)∧p.funcs[n.toNat]?=some f∧f∈p.funcs∧Sh.get p.funcs n=some f∧Sh.get (Dj p).funcs n=some ⟨f.params,[],f.result⟩)∨(n < 0∨(p.funcs.length:Int)≤n):=by
 by_cases h:0≤n∧n < (p.funcs.length:Int)
 ·obtain⟨f,h1,h2⟩:=P8 h.1 h.2
  refine .inl ⟨f,h.1,h.2,h2,List.mem_of_getElem? h2,h1,?_⟩
  rw[UD h.1]
  show ((p.funcs.map fun f=>(⟨f.params,[],f.result⟩:BX)))[n.toNat]?=_
  rw[List.getElem?_map,h2];rfl
 ·exact .inr (by omega)
theorem Kk:(Dj p).funcs.length=p.funcs.length:=by show (p.funcs.map _).length=_;simp
theorem XU (H:IS p (Dj p) R1 R2 T (en e)) (V:Gc p e v) (S:Dy p.decls p.funcs) (hN:2000000≤N) (h:e.op=9):I6 p R1 R2 N v e:=by
 have hk:=V.I7
 have hF:=S.OF
 rcases YT (p:=p) (n:=e.num) with ⟨f,f0,f1,f2,f3,f4,f5⟩ | hr
 ·obtain⟨q1,q2,q3⟩:=S.QC f f3
  have f0':¬ e.num < 0:=by omega
  have f1':¬ (p.funcs.length:Int)≤e.num:=by omega
  have f1'':e.num≤(p.funcs.length:Int) - 1:=by omega
  have h1:=JJ H V hN (by omega) (by omega) (by omega) (by omega) (want:=f.params) (c:=true) (t:=f.result) (fun y hy=>(IZ (q2 y hy)).1) (by
   unfold A2
   simp only[h,Int.reduceEq,decide_true,decide_false,Bool.false_eq_true,if_true,if_false,Option.bind_some,AS,Kk,f0',f1']
   rw[f5]
   simp only[Option.bind_some]
   rw[LR (by simp;omega) hN]
   simp[Sh.cont])
  refine⟨_,?_,h1,?_⟩
  ·unfold BN E5
   simp only[h,Int.reduceEq,decide_true,decide_false,Bool.false_eq_true,if_true,if_false,Option.bind_some]
   rw[DN,AS p.funcs,A9 (n:=(p.funcs.length:Int) - 1) (by omega) (by omega),f4]
   simp only[h,Int.reduceEq,decide_true,decide_false,Bool.false_eq_true,if_true,if_false,Option.bind_some,f0,f1'',Bool.and_self,Bool.not_true]
   rw[Ni H V hN]
   by_cases b:e.kids.map (T v)=f.params <;> simp[b,Sh.cont]
  ·split
   ·exact .inr q3
   ·exact .inl rfl
 ·refine⟨-1,?_,?_,.inl rfl⟩
  ·unfold BN E5
   simp only[h,Int.reduceEq,decide_true,decide_false,Bool.false_eq_true,if_true,if_false,Option.bind_some]
   rw[DN,AS p.funcs,A9 (n:=(p.funcs.length:Int) - 1) (by omega) (by omega)]
   have:(decide (0≤e.num) && decide (e.num≤(p.funcs.length:Int) - 1))=false:=by
    rw[Bool.and_eq_false_iff,decide_eq_false_iff_not,decide_eq_false_iff_not];omega
   rw[this]
   simp only[h,Int.reduceEq,decide_true,decide_false,Bool.false_eq_true,if_true,if_false,Option.bind_some]
   simp[Sh.cont]
  ·rw[D1 H V hN (by omega) (by omega) (by omega) (by omega)]
   unfold A2
   simp only[h,Int.reduceEq,decide_true,decide_false,Bool.false_eq_true,if_true,if_false,Option.bind_some,AS,Kk]
   rcases hr with hr | hr
   ·simp[hr,Sh.cont]
   ·have:¬ e.num < 0:=by omega
    simp[hr,this,Sh.cont]
theorem WI {α:Type} {l:List α} {m:Nat} (h:m≤l.length):Sh.sl l 0 (m:Int)=some (l.take m):=by
 unfold Sh.sl
 rw[if_pos ⟨by omega,by omega,by omega⟩];simp
theorem Vo (H:IS p (Dj p) R1 R2 T (en e)) (V:Gc p e v) (S:Dy p.decls p.funcs) (hN:2000000≤N) (h:e.op=10):I6 p R1 R2 N v e:=by
 have hk:=V.I7
 have hF:=S.OF
 have hD:=S.Lj
 rcases YT (p:=p) (n:=e.num) with ⟨f,f0,f1,f2,f3,f4,f5⟩ | hr
 ·obtain⟨q1,q2,q3⟩:=S.QC f f3
  have f0':¬ e.num < 0:=by omega
  have f1':¬ (p.funcs.length:Int)≤e.num:=by omega
  have f1'':e.num≤(p.funcs.length:Int) - 1:=by omega
  by_cases hp:f.params.length=0
  ·have hp':f.params=[]:=List.eq_nil_of_length_eq_zero hp
   refine⟨-1,?_,?_,.inl rfl⟩
   ·unfold BN E5
    simp only[h,Int.reduceEq,decide_true,decide_false,Bool.false_eq_true,if_true,if_false,Option.bind_some]
    rw[DN,AS p.funcs,A9 (n:=(p.funcs.length:Int) - 1) (by omega) (by omega),f4]
    simp only[h,Int.reduceEq,decide_true,decide_false,Bool.false_eq_true,if_true,if_false,Option.bind_some,f0,f1'',Bool.and_self,Bool.not_true,len_nil,hp']
    simp[Sh.cont]
   ·rw[D1 H V hN (by omega) (by omega) (by omega) (by omega)]
    unfold A2
    simp only[h,Int.reduceEq,decide_true,decide_false,Bool.false_eq_true,if_true,if_false,Option.bind_some,AS,Kk,f0',f1']
    rw[f5]
    simp only[Option.bind_some,hp]
    rw[A9 (by omega) (by omega)]
    simp[Sh.cont]
  ·obtain⟨m,hm⟩ :∃m,f.params.length=m+1:=⟨f.params.length - 1,by omega⟩
   obtain⟨x,hx,hxm⟩:=Bn (l:=f.params) (i:=m) (by omega)
   have hp':¬ f.params=[]:=fun q=>hp (by rw[q];rfl)
   have hw:Sh.w ((f.params.length:Int) - 1)=(m:Int):=by rw[A9 (by omega) (by omega)];omega
   have hm0:¬ ((m:Int) < 0):=by omega
   have hty:Ha x f.result p.decls 0=-1∨CB p.decls (Ha x f.result p.decls 0)=true:=by
    rcases WE (a:=x) (b:=f.result) p.decls 0 with q | q
    ·exact .inl q
    ·right;unfold CB;simp;omega
   have h1:=JJ H V hN (by omega) (by omega) (by omega) (by omega) (want:=f.params.take m) (c:=decide (0≤Ha x f.result p.decls 0)) (t:=Ha x f.result p.decls 0) (fun y hy=>(IZ (q2 y (List.mem_of_mem_take hy))).1) (by
    unfold A2
    simp only[h,Int.reduceEq,decide_true,decide_false,Bool.false_eq_true,if_true,if_false,Option.bind_some,AS,Kk,f0',f1']
    rw[f5]
    simp only[Option.bind_some,hw,hm0,decide_false,Bool.false_eq_true,if_false]
    rw[A8 hx]
    simp only[Option.bind_some]
    rw[show (Dj p).decls=p.decls from rfl,QN (by omega) hN,WI (by omega)]
    simp only[Option.bind_some]
    rw[LR (by simp;omega) hN]
    by_cases z:0≤Ha x f.result p.decls 0 <;> simp[z,Sh.cont])
   refine⟨_,?_,h1,?_⟩
   ·unfold BN E5
    simp only[h,Int.reduceEq,decide_true,decide_false,Bool.false_eq_true,if_true,if_false,Option.bind_some]
    rw[DN,AS p.funcs,A9 (n:=(p.funcs.length:Int) - 1) (by omega) (by omega),f4]
    simp only[h,Int.reduceEq,decide_true,decide_false,Bool.false_eq_true,if_true,if_false,Option.bind_some,f0,f1'',Bool.and_self,Bool.not_true,len_nil,hp']
    rw[AS,hw,WI (by omega),A8 hx]
    simp only[Option.bind_some]
    rw[Ni H V hN,QD (by omega) hN]
    by_cases b:e.kids.map (T v)=f.params.take m
    ·by_cases z:0≤Ha x f.result p.decls 0
     ·simp[b,z,Sh.cont]
     ·have:Ha x f.result p.decls 0=-1:=by
       rcases hty with q | q
       ·exact q
       ·exact absurd (IZ q).1 z
      simp[b,this,Sh.cont]
    ·simp[b,Sh.cont]
   ·split
    ·exact hty
    ·exact .inl rfl
 ·refine⟨-1,?_,?_,.inl rfl⟩
  ·unfold BN E5
   simp only[h,Int.reduceEq,decide_true,decide_false,Bool.false_eq_true,if_true,if_false,Option.bind_some]
   rw[DN,AS p.funcs,A9 (n:=(p.funcs.length:Int) - 1) (by omega) (by omega)]
   have:(decide (0≤e.num) && decide (e.num≤(p.funcs.length:Int) - 1))=false:=by
    rw[Bool.and_eq_false_iff,decide_eq_false_iff_not,decide_eq_false_iff_not];omega
   rw[this]
   simp only[h,Int.reduceEq,decide_true,decide_false,Bool.false_eq_true,if_true,if_false,Option.bind_some]
   simp[Sh.cont]
  ·rw[D1 H V hN (by omega) (by omega) (by omega) (by omega)]
   unfold A2
   simp only[h,Int.reduceEq,decide_true,decide_false,Bool.false_eq_true,if_true,if_false,Option.bind_some,AS,Kk]
   rcases hr with hr | hr
   ·simp[hr,Sh.cont]
   ·have:¬ e.num < 0:=by omega
    simp[hr,this,Sh.cont]
theorem Vn (H:IS p (Dj p) R1 R2 T (en e)) (V:Gc p e v) (S:Dy p.decls p.funcs) (hN:2000000≤N) (h:e.op=11):I6 p R1 R2 N v e:=by
 have hk:=V.I7
 have hD:=S.Lj
 by_cases hl:e.kids.length=2
 ·obtain⟨a,b,hk⟩ :∃a b,e.kids=[a,b]:=by
   match hk:e.kids,hl with
   | [a,b],_=>exact⟨a,b,rfl⟩
  have hma:a∈e.kids:=by rw[hk];simp
  have hmb:b∈e.kids:=by rw[hk];simp
  obtain⟨a1,a2,a3⟩:=H v a (V.Ea.kids a hma) (CO hma) (V.H9 hma) V.GQ
  obtain⟨b1,b2,b3⟩:=H v b (V.Ea.kids b hmb) (CO hmb) (V.H9 hmb) V.GQ
  have g0:Sh.get e.kids 0=some a:=by rw[hk];rfl
  have g1:Sh.get e.kids 1=some b:=by rw[hk];rfl
  have i1:Sh.get (e.kids.map (T v)) 0=some (T v a):=by rw[hk];rfl
  have i2:Sh.get (e.kids.map (T v)) 1=some (T v b):=by rw[hk];rfl
  have imp:Ap N R2 v (Dj p) e=some ((OC p.decls (T v a)).elim (-1) fun d=>if T v b=d.from_∧e.num=0 then d.to else -1):=by
   rw[D1 H V hN (by omega) (by omega) (by omega) (by omega)]
   unfold A2
   simp only[h,Int.reduceEq,decide_true,decide_false,Bool.false_eq_true,if_true,if_false,Option.bind_some,AS,List.length_map,hl]
   rw[i1,i2]
   simp only[Option.bind_some]
   rw[show (Dj p).decls=p.decls from rfl,Qv (by omega)]
   simp only[Option.bind_some]
   cases hA:OC p.decls (T v a) with
   | none=>simp[Sh.cont]
   | some d=>
    obtain⟨m1,m2,m3,m4⟩:=Qw hA
    have m5:=S.cU d m1
    have n1:¬ T v a < 0:=by omega
    by_cases c1:T v b=d.from_
    ·have n2:¬ T v b < 0:=by rw[c1];have:=(IZ m5.1).1;omega
     have n3:¬ d.from_ < 0:=c1 ▸ n2
     by_cases c2:e.num=0 <;> simp[hk,n1,c1,n3,c2,Sh.cont]
    ·simp[c1,Sh.cont]
  refine⟨_,?_,imp,?_⟩
  ·unfold BN
   simp only[h,Int.reduceEq,decide_true,decide_false,Bool.false_eq_true,if_true,if_false,Option.bind_some,AS,hl]
   rw[g0,g1]
   simp only[Option.bind_some]
   rw[a1]
   simp only[Option.bind_some]
   rw[QI (by omega),b1]
   simp only[Option.bind_some]
   cases hA:OC p.decls (T v a) with
   | none=>by_cases c2:e.num=0 <;> simp[c2,Sh.cont]
   | some d=>
    obtain⟨m1,m2,m3,m4⟩:=Qw hA
    have g5:Sh.get p.decls (Sh.w (T v a - 1))=some d:=by rw[A9 (by omega) (by omega),UD (by omega),m4]
    rw[g5]
    by_cases c2:e.num=0 <;> by_cases c1:T v b=d.from_ <;> simp[c1,c2,Sh.cont]
  ·cases hA:OC p.decls (T v a) with
   | none=>exact .inl rfl
   | some d=>
    obtain⟨m1,_⟩:=Qw hA
    simp only[Option.elim_some]
    split
    ·exact .inr (S.cU d m1).2
    ·exact .inl rfl
 ·have hl':¬ ((e.kids.length:Int)=2):=by omega
  refine⟨-1,?_,?_,.inl rfl⟩
  ·unfold BN
   simp only[h,Int.reduceEq,decide_true,decide_false,Bool.false_eq_true,if_true,if_false,Option.bind_some,AS,hl']
   by_cases c2:e.num=0 <;> simp[c2,Sh.cont]
  ·rw[D1 H V hN (by omega) (by omega) (by omega) (by omega)]
   unfold A2
   simp only[h,Int.reduceEq,decide_true,decide_false,Bool.false_eq_true,if_true,if_false,Option.bind_some,AS,List.length_map,hl']
   simp[Sh.cont]
end
end RC



namespace RC
open Go
def EJ (D:List Ab) (c:Int):List Int:=(Hm D 0 c.toNat).elim [] fun x=>x.2.fields
theorem Xb {D:List Ab} {t c:Int} (h:c∈B1 D t) :∃k:Nat,c=(k:Int)∧k < nc D:=by
 unfold B1 at h
 split at h
 ·rename_i h1
  obtain⟨a,ha⟩ :∃a:Nat,t=(a:Int) + 1:=⟨(t - 1).toNat,by omega⟩
  subst ha
  obtain⟨d,hd,_⟩:=Bn (l:=D) (i:=a) (by omega)
  rw[show (((a:Int) + 1) - 1).toNat=a by omega,hd] at h
  simp only[Option.elim_some,List.mem_map,List.mem_range] at h
  obtain⟨i,hi,rfl⟩:=h
  have hs:=Fj D a
  rw[PW hd] at hs
  exact⟨nc (D.take a) + i,by omega,by omega⟩
 ·cases h
theorem H8 {D:List Ab} (h :∀d∈D,d.cons.length≤3) (t:Int):(B1 D t).length≤3:=by
 unfold B1
 split
 ·rename_i h1
  obtain⟨a,ha⟩ :∃a:Nat,t=(a:Int) + 1:=⟨(t - 1).toNat,by omega⟩
  subst ha
  obtain⟨d,hd,hm⟩:=Bn (l:=D) (i:=a) (by omega)
  rw[show (((a:Int) + 1) - 1).toNat=a by omega,hd]
  simp only[Option.elim_some,List.length_map,List.length_range]
  exact h d hm
 ·simp
theorem Kr {D:List Ab} {F:List Am} (S:Dy D F) {t c:Int} (h:c∈B1 D t) {N:Nat} (hN:2000000≤N):CU N D c=some (EJ D c)∧C6 N D c=some (EJ D c)∧(EJ D c).length≤3∧∀x∈EJ D c,CB D x=true:=by
 obtain⟨k,rfl,hk⟩:=Xb h
 have hD:=S.Lj
 have hn:=S.nc
 obtain⟨t,x,e1,e2⟩:=H7 (D:=D) (by omega) (by omega) hk hN
 obtain⟨t',x',e1',e3⟩:=P2 (D:=D) (by omega) (by omega) hk hN
 rw[e1] at e1'
 cases e1'
 obtain⟨_,_,d,g3,g4⟩:=KB e1
 have hf:EJ D (k:Int)=x.fields:=by unfold EJ;rw[Int.toNat_natCast,e1];rfl
 rw[hf]
 exact⟨e2,e3,S.Kv d g3 x g4⟩
section
variable {p : Aa} {R1 : Aa → List Int → AG → Option Int} {R2 : List Int → A6 → AG → Option Int} {T : List Int → AG → Int} {e : AG} {v : List Int} {N : Nat}
theorem L9 (S:Dy p.decls p.funcs) (hN:2000000≤N) {C:List Int} (hC:C.length≤3) (hc :∀c∈C,C6 N p.decls c=some (EJ p.decls c)):Bb N (Dj p) C N 0 (List.replicate C.length [])=some (C.map (EJ p.decls)):=by
 have key :∀{M i:Nat},i≤C.length→C.length - i < M→∀m:List (List Int),m.length=C.length→m.take i=(C.map (EJ p.decls)).take i→Bb N (Dj p) C M i m=some (C.map (EJ p.decls)):=by
  intro M i hi hM
  refine Bx C.length (fun M i=>∀m:List (List Int),m.length=C.length→m.take i=(C.map (EJ p.decls)).take i→Bb N (Dj p) C M i m=some (C.map (EJ p.decls))) ?_ ?_ hi hM
  ·intro n m a b
   rw[Bb,if_neg (by simp[AS])]
   rw[List.take_of_length_le (by omega),List.take_of_length_le (by simp)] at b
   rw[b]
  ·intro n i hi ih m a b
   obtain⟨x,hx,hxm⟩:=Bn hi
   obtain⟨y,hy,_⟩:=Bn (l:=m) (i:=i) (by omega)
   have hx2:(C.map (EJ p.decls))[i]?=some (EJ p.decls x):=by rw[List.getElem?_map,hx];rfl
   have hi':(m.set i (EJ p.decls x))[i]?=some (EJ p.decls x):=by rw[List.getElem?_set_self (by omega)]
   rw[Bb,if_pos (by simp[AS];omega),A8 hx]
   simp only[Option.bind_some]
   rw[show (Dj p).decls=p.decls from rfl,hc x hxm,A8 hy]
   simp only[Option.bind_some]
   rw[Hi,A9 (by omega) (by omega),show ((i:Int) + 1)=((i+1:Nat):Int) by omega]
   exact ih _ (by simp[a]) (by rw[CC hi',CC hx2,← b,List.take_set_of_le (Nat.le_refl _)])
 have:=key (Nat.zero_le _) (by omega:C.length - 0 < N) (List.replicate C.length []) (by simp) rfl
 simpa using this
theorem WC (H:IS p (Dj p) R1 R2 T (en e)) (V:Gc p e v) (S:Dy p.decls p.funcs) (hN:2000000≤N) (h:e.op=8):I6 p R1 R2 N v e:=by
 have hk:=V.I7
 have hD:=S.Lj
 have hn:=S.nc
 have hv:v.length≤1000:=by have:=V.len;omega
 have hCl:=H8 S.PH e.num
 unfold I6 BN Ap H4
 simp only[h,Int.reduceEq,decide_true,decide_false,Bool.false_eq_true,if_true,if_false,Option.bind_some]
 rw[show (Dj p).decls=p.decls from rfl,MR (by omega) (by omega) hN,Fm (by omega) (by omega) hN]
 simp only[Option.bind_some]
 generalize hCe:B1 p.decls e.num=C at hCl
 have hCm :∀c∈C,CU N p.decls c=some (EJ p.decls c)∧C6 N p.decls c=some (EJ p.decls c)∧(EJ p.decls c).length≤3∧∀x∈EJ p.decls c,CB p.decls x=true:=fun c hc=>Kr S (hCe ▸ hc) hN
 rw[AS C,AS e.kids,A9 (n:=1+(C.length:Int)) (by omega) (by omega)]
 by_cases h0:C.length=0
 ·exact⟨-1,by simp[h0,Sh.cont],by simp[h0],.inl rfl⟩
 ·have h0':¬ ((C.length:Int)=0):=by omega
  have hne:¬ C=[]:=fun q=>h0 (by rw[q];rfl)
  by_cases h1:e.kids.length=1+C.length
  ·have h1':((e.kids.length:Int)=1+(C.length:Int)):=by omega
   obtain⟨a,r,hks⟩ :∃a r,e.kids=a :: r:=by
    cases hq:e.kids with
    | nil=>rw[hq] at h1;simp at h1;omega
    | cons a r=>exact⟨a,r,rfl⟩
   have hrl:r.length=C.length:=by rw[hks] at h1;simp at h1;omega
   have hma:a∈e.kids:=by rw[hks];simp
   have hmr :∀k∈r,k∈e.kids:=fun k hk=>by rw[hks];simp[hk]
   obtain⟨a1,a2,a3⟩:=H v a (V.Ea.kids a hma) (CO hma) (V.H9 hma) V.GQ
   have g0:Sh.get e.kids 0=some a:=by rw[hks];rfl
   have gi :∀(i:Nat) k,r[i]?=some k→Sh.get e.kids ((1+i:Nat):Int)=some k:=fun i k hk=>by
    rw[LY,hks,Nat.add_comm];simpa using hk
   have g3:Sh.sl e.kids 1 (e.kids.length:Int)=some r:=by
    unfold Sh.sl
    rw[if_pos ⟨by omega,by omega,by omega⟩,hks];simp
   have mkC:Sh.mk ([]:List Int) (C.length:Int) 24=some (List.replicate C.length []):=JF [] C.length 24 (by omega) (by omega)
   have o:=IF (ks:=r) (ms:=C.map (EJ p.decls)) H V hN hmr (by omega) (by simp[hrl]) (by
    intro m hm
    obtain⟨c,hc,rfl⟩:=List.mem_map.1 hm
    exact (hCm c hc).2.2)
   have F:=L9 (p:=p) S hN hCl fun c hc=>(hCm c hc).2.1
   generalize hts:List.zipWith (fun m k=>T (v ++ m) k) (C.map (EJ p.decls)) r=ts at o
   have tsl:ts.length=C.length:=by rw[← hts];simp[hrl]
   have tsi :∀(i:Nat),i < C.length→∃c k,C[i]?=some c∧r[i]?=some k∧ts[i]?=some (T (v ++ EJ p.decls c) k)∧CU N p.decls c=some (EJ p.decls c)∧F3 v (EJ p.decls c)=some (v ++ EJ p.decls c)∧R1 p (v ++ EJ p.decls c) k=some (T (v ++ EJ p.decls c) k)∧(T (v ++ EJ p.decls c) k=-1∨CB p.decls (T (v ++ EJ p.decls c) k)=true):=fun i hi=>by
    obtain⟨c,hc,hcm⟩:=Bn (l:=C) (i:=i) hi
    obtain⟨k,hk2,hkm⟩:=Bn (l:=r) (i:=i) (by omega)
    obtain⟨q1,q2,q3,q4⟩:=hCm c hcm
    obtain⟨z1,z2,z3⟩:=H (v ++ EJ p.decls c) k (V.Ea.kids k (hmr k hkm)) (CO (hmr k hkm)) (V.more (hmr k hkm) q3) (V.UL q4)
    refine⟨c,k,hc,hk2,?_,q1,SS hv (by omega),z1,z3⟩
    rw[← hts,List.getElem?_zipWith,List.getElem?_map,hc,hk2];rfl
   have L :∀(t:Int) {M i:Nat},i≤C.length→C.length - i < M→C1 N p v e t C R1 M i=some (if (ts.drop i).all (fun x=>decide (x=t))=true then .inr () else .inl (-1)):=by
    intro t M i hi hM
    refine Bx C.length (fun M i=>C1 N p v e t C R1 M i=some (if (ts.drop i).all (fun x=>decide (x=t))=true then .inr () else .inl (-1))) ?_ ?_ hi hM
    ·intro n
     rw[C1,if_neg (by simp[AS]),List.drop_of_length_le (by omega)];rfl
    ·intro n i hi ih
     obtain⟨c,k,q1,q2,q3,q4,q5,q6,q7⟩:=tsi i hi
     rw[C1,if_pos (by simp[AS];omega),A8 q1]
     simp only[Option.bind_some]
     rw[q4]
     simp only[Option.bind_some]
     rw[q5,A9 (n:=(1:Int) + (i:Int)) (by omega) (by omega),show ((1:Int) + (i:Int))=((1+i:Nat):Int) by omega,gi i k q2]
     simp only[Option.bind_some]
     rw[q6,A9 (by omega) (by omega),show ((i:Int) + 1)=((i+1:Nat):Int) by omega,drop_cons q3,List.all_cons]
     simp only[Option.bind_some]
     by_cases z:T (v ++ EJ p.decls c) k=t
     ·simp only[z,decide_true,Bool.not_true,Bool.false_eq_true,if_false,Bool.true_and]
      exact ih
     ·simp[z]
   rw[g0,g3,mkC]
   simp only[Option.bind_some]
   rw[a1,a2]
   simp only[Option.bind_some]
   rw[F]
   simp only[Option.bind_some]
   rw[o]
   obtain⟨c,k,q1,q2,q3,q4,q5,q6,q7⟩:=tsi 0 (by omega)
   have g1:=gi 0 k q2
   have c0:Sh.get C 0=some c:=by rw[show (0:Int)=((0:Nat):Int) from rfl,A8 q1]
   rw[show ((1+0:Nat):Int)=1 from rfl] at g1
   rw[c0]
   simp only[Option.bind_some]
   rw[q4]
   simp only[Option.bind_some]
   rw[q5,g1]
   simp only[Option.bind_some]
   rw[q6]
   simp only[Option.bind_some]
   have L1:=L (T (v ++ EJ p.decls c) k) (M:=N) (i:=1) (by omega) (by omega)
   rw[show ((1:Nat):Int)=1 from rfl] at L1
   rw[L1]
   have hts2:ts=T (v ++ EJ p.decls c) k :: ts.drop 1:=by
    have:=drop_cons q3
    simpa using this
   by_cases z:T v a=e.num
   ·by_cases y:(ts.drop 1).all (fun x=>decide (x=T (v ++ EJ p.decls c) k))=true
    ·have ho:Ja ts=T (v ++ EJ p.decls c) k:=by rw[hts2];unfold Ja;dsimp only;rw[if_pos y]
     refine⟨T (v ++ EJ p.decls c) k,?_,?_,q7⟩
     ·rw[if_pos y]
      simp[h0',hne,h1',z,Sh.cont]
     ·rw[ho]
      simp[h0',hne,h1',z]
    ·have ho:Ja ts=-1:=by rw[hts2];unfold Ja;dsimp only;rw[if_neg y]
     refine⟨-1,?_,?_,.inl rfl⟩
     ·rw[if_neg y]
      simp[h0',hne,h1',z,Sh.cont]
     ·rw[ho]
      simp[h0',hne,h1',z]
   ·exact⟨-1,by simp[h0',hne,h1',z,Sh.cont],by simp[h0',hne,h1',z],.inl rfl⟩
  ·have h1':¬ ((e.kids.length:Int)=1+(C.length:Int)):=by omega
   exact⟨-1,by simp[h0',hne,h1',Sh.cont],by simp[h0',hne,h1'],.inl rfl⟩
theorem X0 (H:IS p (Dj p) R1 R2 T (en e)) (V:Gc p e v) (S:Dy p.decls p.funcs) (hN:2000000≤N):I6 p R1 R2 N v e:=by
 by_cases h0:e.op=0
 ·exact Yc H V hN h0
 by_cases h1:e.op=1∨e.op=2∨e.op=3∨e.op=4
 ·exact Vy H V hN h1
 by_cases h5:e.op=5
 ·exact WG H V hN h5
 by_cases h6:e.op=6
 ·exact Yn H V S hN h6
 by_cases h7:e.op=7
 ·exact ax H V hN h7
 by_cases h8:e.op=8
 ·exact WC H V S hN h8
 by_cases h9:e.op=9
 ·exact XU H V S hN h9
 by_cases h10:e.op=10
 ·exact Vo H V S hN h10
 by_cases h11:e.op=11
 ·exact Vn H V S hN h11
 by_cases h12:e.op=12
 ·exact Ym V h12
 by_cases h13:e.op=13
 ·exact Yk H V h13
 exact Wa H V hN (by omega)
end
theorem Qx {p:Aa} (S:Dy p.decls p.funcs) {N:Nat} (hN:2000000≤N) :∀(n:Nat),∃T:List Int→AG→Int,∀(v:List Int) (e:AG),BG e→en e < n→v.length+3 * en e≤1000→(∀x∈v,CB p.decls x=true)→
  ∀n1 n2,n≤n1→n≤n2→B4 N n1 p v e=some (T v e)∧BO N n2 v (Dj p) e=some (T v e)∧(T v e=-1∨CB p.decls (T v e)=true):=by
 intro n
 induction n with
 | zero=>exact⟨fun _ _=>0,fun v e _ h=>by omega⟩
 | succ n ih=>
  obtain⟨T,hT⟩:=ih
  refine⟨fun v e=>(B4 N (n+1) p v e).getD 0,fun v e hi hn hl ht n1 n2 h1 h2=>?_⟩
  have step :∀n1 n2,n≤n1→n≤n2→I6 p (B4 N n1) (BO N n2) N v e:=fun n1 n2 h1 h2=>
   X0 (T:=T) (fun v e a b c d=>hT v e a (by omega) c d n1 n2 h1 h2) ⟨hl,ht,by have:=hl;omega,hi⟩ S hN
  obtain⟨m1,rfl⟩ :∃m,n1=m+1:=⟨n1 - 1,by omega⟩
  obtain⟨m2,rfl⟩ :∃m,n2=m+1:=⟨n2 - 1,by omega⟩
  obtain⟨t,q1,q2,q3⟩:=step n n (Nat.le_refl _) (Nat.le_refl _)
  obtain⟨t',r1,r2,_⟩:=step n m2 (Nat.le_refl _) (by omega)
  obtain⟨t'',s1,s2,_⟩:=step m1 n (by omega) (Nat.le_refl _)
  have e1:t'=t:=by rw[q1] at r1;cases r1;rfl
  have e2:t''=t:=by rw[q2] at s2;cases s2;rfl
  subst e1;subst e2
  have e3:(B4 N (n+1) p v e).getD 0=t'':=by rw[B4,q1];rfl
  dsimp only
  rw[e3]
  exact⟨by rw[B4];exact s1,by rw[BO];exact r2,q3⟩
end RC



namespace RC
open Go
structure F8 (p:Aa):Prop where
 Ea:Ku p
 size:Kg p≤1048576
theorem F8.decls {p:Aa} (S:F8 p):Ns p.decls:=by
 have h:=S.size
 unfold Kg at h
 have hd :∀d∈p.decls,dz d≤1048576:=fun d hd=>by have:=FQ dz hd;omega
 refine⟨by omega,fun d hm=>?_,fun d hm c hc=>?_⟩
 ·have:=hd d hm;unfold dz at this;omega
 ·have:=hd d hm;unfold dz at this
  have:=FQ cz hc
  show cz c≤_
  omega
theorem F8.OF {p:Aa} (S:F8 p):p.funcs.length≤1048576:=by have h:=S.size;unfold Kg at h;omega
theorem F8.fz {p:Aa} (S:F8 p) {f:Am} (hf:f∈p.funcs):f.params.length≤1048576∧CK f.body.kids≤1048576:=by
 have h:=S.size
 unfold Kg at h
 have h2:=FQ Ip hf
 have h3:Ip f=f.params.length+CK f.body.kids:=rfl
 omega
theorem F8.fin {p:Aa} (S:F8 p) {f:Am} (hf:f∈p.funcs):Lg f:=S.Ea.funcs.1 f hf
def SL (p:Aa):Bool:=Lz p.decls (p.funcs.map fun f=>(f.params,f.result))
theorem Sr {p:Aa} (S:F8 p) {N:Nat} (hN:2000000≤N):Fk N p=some (SL p):=OZ S.decls S.OF (fun f hf=>(S.fz hf).1) hN
theorem XY {p:Aa} (hl:p.funcs.length≤1048576) {N:Nat} (hN:2000000≤N):Cd p N 0 []=some (Dj p).funcs:=by
 have key :∀{N i:Nat},i≤p.funcs.length→p.funcs.length - i < N→Cd p N i ((Dj p).funcs.take i)=some (Dj p).funcs:=by
  intro N i hi hN
  refine Bx p.funcs.length (fun N i=>Cd p N i ((Dj p).funcs.take i)=some (Dj p).funcs) ?_ ?_ hi hN
  ·intro n;rw[Cd,if_neg (by simp[AS]),List.take_of_length_le (by rw[Kk];omega)]
  ·intro n i hi ih
   obtain⟨f,hf,_⟩:=Bn hi
   have hf2:(Dj p).funcs[i]?=some ⟨f.params,[],f.result⟩:=by
    show (p.funcs.map _)[i]?=_
    rw[List.getElem?_map,hf];rfl
   rw[Cd,if_pos (by simp[AS];omega),A8 hf]
   simp only[Option.bind_some]
   rw[DM _ _ _ (by simp;omega) (by simp;omega),A9 (by omega) (by omega),show ((i:Int) + 1)=((i+1:Nat):Int) by omega]
   simp only[Option.bind_some]
   rw[← ih,CC hf2]
 have:=key (Nat.zero_le _) (by omega:p.funcs.length - 0 < N)
 simpa using this
theorem W0 {p:Aa} (hl:p.funcs.length≤1048576) {N:Nat} (hN:2000000≤N):Is N p=some (Dj p):=by
 have key :∀{N i:Nat},i≤p.funcs.length→p.funcs.length - i < N→D5 p N i ((Dj p).funcs.take i)=some (Dj p).funcs:=by
  intro N i hi hN
  refine Bx p.funcs.length (fun N i=>D5 p N i ((Dj p).funcs.take i)=some (Dj p).funcs) ?_ ?_ hi hN
  ·intro n;rw[D5,if_neg (by simp[AS]),List.take_of_length_le (by rw[Kk];omega)]
  ·intro n i hi ih
   obtain⟨f,hf,_⟩:=Bn hi
   have hf2:(Dj p).funcs[i]?=some ⟨f.params,[],f.result⟩:=by
    show (p.funcs.map _)[i]?=_
    rw[List.getElem?_map,hf];rfl
   rw[D5,if_pos (by simp[AS];omega),A8 hf]
   simp only[Option.bind_some]
   rw[DM _ _ _ (by simp;omega) (by simp;omega),A9 (by omega) (by omega),show ((i:Int) + 1)=((i+1:Nat):Int) by omega]
   simp only[Option.bind_some]
   rw[← ih,CC hf2]
 have:=key (Nat.zero_le _) (by omega:p.funcs.length - 0 < N)
 rw[List.take_zero,show ((0:Nat):Int)=0 from rfl] at this
 unfold Is
 rw[this];rfl
theorem TR {p:Aa} (S:F8 p) {N:Nat} (hN:2000000≤N):Fl N p=some (SL p):=by
 have hl:=S.OF
 unfold Fl SL
 by_cases h4:p.funcs.length≤4
 ·rw[if_neg (by rw[decide_eq_true_eq,AS];omega),XY hl hN]
  simp only[Option.bind_some]
  rw[O6 S.decls (by rw[Kk];exact hl) (fun f hf=>by obtain⟨q,hq,rfl⟩:=List.mem_map.1 (show f∈p.funcs.map _ from hf);exact⟨(S.fz hq).1,by simp⟩) hN]
  have e1:((Dj p).funcs.map fun f=>(f.params,f.result))=p.funcs.map fun f=>(f.params,f.result):=by
   show (p.funcs.map _).map _=_
   rw[List.map_map];rfl
  have e2:((Dj p).funcs.all fun f=>EV (Jp f.params f.Ew) 0 f.Ew)=true:=by
   rw[List.all_eq_true]
   intro f hf
   obtain⟨q,hq,rfl⟩:=List.mem_map.1 (show f∈p.funcs.map _ from hf)
   rfl
  rw[e1,e2];simp
 ·rw[if_pos (by rw[decide_eq_true_eq,AS];omega)]
  have:Lz p.decls (p.funcs.map fun f=>(f.params,f.result))=false:=by
   unfold Lz
   simp[h4]
  rw[this]
def I9 (p:Aa) (T:List Int→AG→Int) (f:Am):Bool:=decide (en f.body≤30) && decide (T f.params f.body=f.result)
theorem KW {p:Aa} (S:F8 p) {N:Nat} (hN:2000000≤N) :∃b,Cc N p=some b∧Es N p=some b∧(b=true→Dy p.decls p.funcs∧∀f∈p.funcs,en f.body≤30):=by
 unfold Cc Es
 rw[Sr S hN,TR S hN]
 simp only[Option.bind_some]
 cases hs:SL p with
 | false=>exact⟨false,rfl,rfl,fun h=>nomatch h⟩
 | true=>
  have SO:=Dy.of hs
  have hl:=S.OF
  obtain⟨T,hT⟩:=Qx SO hN 31
  have hty :∀f∈p.funcs,en f.body≤30→Jy N p f.params f.body=some (T f.params f.body)∧GP N f.params (Dj p) f.body=some (T f.params f.body)∧(T f.params f.body=-1∨CB p.decls (T f.params f.body)=true):=fun f hf he=>by
   obtain⟨q1,q2,q3⟩:=SO.QC f hf
   exact hT f.params f.body (S.fin hf).body (by omega) (by omega) q2 N N (by omega) (by omega)
  have hcl :∀f∈p.funcs,Bh f.params=some f.params:=fun f hf=>by
   obtain⟨q1,q2,q3⟩:=SO.QC f hf
   unfold Bh
   rw[DM [] f.params 8 (by simp;omega) (by simp;omega)];rfl
  have L1:=C9 (l:=p.funcs) (Br N p) (fun _ f=>I9 p T f) (fun n=>by rw[Br,if_neg (by simp[AS])]) (fun n i f hi=>by
   have hil:=(List.getElem?_eq_some_iff.1 hi).1
   have hf:=List.mem_of_getElem? hi
   rw[Br,if_pos (by simp[AS];omega),A8 hi]
   simp only[Option.bind_some]
   rw[JB (S.fz hf).2 hN,A9 (by omega) (by omega),show ((i:Int) + 1)=((i+1:Nat):Int) by omega]
   simp only[Option.bind_some]
   unfold I9
   by_cases he:en f.body≤30
   ·rw[if_pos he,if_neg (by simp),(hty f hf he).1]
    by_cases hr:T f.params f.body=f.result <;> simp[he,hr]
   ·rw[if_neg he]
    simp[he]) (by omega:p.funcs.length < N)
  have L2:=C9 (l:=p.funcs) (Ce N p) (fun _ f=>I9 p T f) (fun n=>by rw[Ce,if_neg (by simp[AS])]) (fun n i f hi=>by
   have hil:=(List.getElem?_eq_some_iff.1 hi).1
   have hf:=List.mem_of_getElem? hi
   obtain⟨q1,q2,q3⟩:=SO.QC f hf
   have q4:f.params.all (CB p.decls)=true:=List.all_eq_true.2 q2
   rw[Ce,if_pos (by simp[AS];omega),A8 hi]
   simp only[Option.bind_some]
   unfold Jx
   rw[TR S hN,hs,LV (S.fz hf).2 hN,Ig (by omega) (by omega),q4,W0 hl hN,hcl f hf,A9 (by omega) (by omega),show ((i:Int) + 1)=((i+1:Nat):Int) by omega]
   simp only[Option.bind_some]
   unfold I9
   by_cases he:en f.body≤30
   ·rw[if_pos he,(hty f hf he).2.1]
    have he0:¬ ((en f.body:Int) < 0):=by omega
    by_cases hr:T f.params f.body=f.result <;> simp[he,hr,he0]
   ·rw[if_neg he]
    have hr:¬ ((-1:Int)=f.result):=fun q=>by have:=(IZ q3).1;omega
    simp[he,hr]) (by omega:p.funcs.length < N)
  rw[Dk] at L1 L2
  refine⟨p.funcs.all (I9 p T),?_,?_,fun h=>⟨SO,fun f hf=>?_⟩⟩
  ·simp only[Bool.not_true,Bool.false_eq_true,if_false]
   rw[L1,EH]
   cases p.funcs.all (I9 p T) <;> rfl
  ·simp only[Bool.not_true,Bool.false_eq_true,if_false]
   rw[L2,EH]
   cases p.funcs.all (I9 p T) <;> rfl
  ·have:=List.all_eq_true.1 h f hf
   unfold I9 at this
   simp only[Bool.and_eq_true,decide_eq_true_eq] at this
   exact this.1
end RC



namespace RC
open Go
end RC



namespace RC
open Go
inductive Ry:Step→Prop where
 | mk {s:Step}:FY s.op→FY s.num→FY s.YL→EU FY s.args→s.kids.length≤9223372036854775807→(∀b∈s.kids,b.steps.length≤9223372036854775807)→(∀b∈s.kids,FY b.result)→(∀b∈s.kids,∀t∈b.steps,Ry t)→Ry s
structure Vm (b:Block):Prop where
 steps:EU Ry b.steps
 result:FY b.result
end RC



namespace RC
open Go
end RC



namespace RC
open Go
def eY (o:Int):Bool:=decide (14≤o) && decide (o≤17)
mutual
def us (v:Int):Step→Nat | .mk o _ _ a k=>if eY o then 0 else a.countP (fun x=>decide (x=v)) + uk v k
def uk (v:Int):List (Je Step)→Nat | []=>0 | b :: k=>ub v b+uk v k
def ub (v:Int):Je Step→Nat | ⟨ss,r⟩=>(if r=v then 1 else 0) + ul v ss
def ul (v:Int):List Step→Nat | []=>0 | s :: l=>us v s+ul v l
end
def ua (v:Int) (a:List Int):Nat:=a.countP fun x=>decide (x=v)
theorem fy (v:Int) (a:List Int):ua v a≤a.length:=List.countP_le_length
end RC



namespace RC
open Go
section
variable {D : List Ab} {G : List BX} {ks : List Int} {op num : Int} {N : Nat}
end
end RC



namespace RC
open Go
section
variable {n : Gf} {R1 : Gf → List Int → Block → Option Int} {R2 : A6 → List Int → Block → Option Int} {T : List Int → Block → Int} {s : Step} {v : List Int} {N : Nat}
end
end RC



namespace RC
open Go
section
variable {n : Gf} {R1 : Gf → List Int → Block → Option Int} {R2 : A6 → List Int → Block → Option Int} {T : List Int → Block → Int} {s : Step} {v : List Int} {N : Nat}
end
end RC



namespace RC
open Go
section
variable {n : Gf} {R1 : Gf → List Int → Block → Option Int} {R2 : A6 → List Int → Block → Option Int} {T : List Int → Block → Int} {s : Step} {v : List Int} {N : Nat} {b : Bool}
end
end RC



namespace RC
open Go
section
variable {n : Gf} {R1 : Gf → List Int → Block → Option Int} {R2 : A6 → List Int → Block → Option Int} {T : List Int → Block → Int} {s : Step} {v : List Int} {N : Nat} {b : Bool}
end
end RC



namespace RC
open Go
section
variable {n : Gf} {R1 : Gf → List Int → Block → Option Int} {R2 : A6 → List Int → Block → Option Int} {T : List Int → Block → Int} {s : Step} {v : List Int} {N : Nat} {b : Bool}
end
end RC



namespace RC
open Go
section
variable {n : Gf} {R1 : Gf → List Int → Block → Option Int} {R2 : A6 → List Int → Block → Option Int} {T : List Int → Block → Int} {b : Block} {v : List Int} {N : Nat}
end
end RC



namespace RC
open Go
end RC



namespace RC
open Go
end RC



namespace RC
open Go
def Le:Nat→Nat→List Int
 | _,0=>[]
 | k,n+1=>(k:Int) :: Le (k+1) n
theorem UU :∀(n k:Nat),(Le k n).length=n
 | 0,_=>rfl
 | n+1,k=>by simp[Le,UU n]
theorem Fp {α:Type} (A B:List α) (x:α):Sh.get (A ++ x :: B) (A.length:Int)=some x:=A8 (by simp)
theorem Il {α:Type} (A B:List α) (x y:α):Sh.put (A ++ x :: B) (A.length:Int) y=A ++ y :: B:=by rw[Hi];simp
theorem MZ :∀(B A:List Int) (k n:Nat),B.length < n→A.length+B.length≤2000000→k+B.length≤100000000→
  Dt n (k:Int) (A.length:Int) (A ++ B)=some (((k+B.length:Nat):Int),A ++ Le k B.length)
 | [],A,k,n,hn,_,_=>by
  obtain⟨n,rfl⟩ :∃m,n=m+1:=⟨n - 1,by simp at hn;omega⟩
  rw[Dt,if_neg (by simp[AS])];simp[Le]
 | b :: B,A,k,n,hn,h1,h2=>by
  simp only[List.length_cons] at hn h1 h2 ⊢
  obtain⟨n,rfl⟩ :∃m,n=m+1:=⟨n - 1,by omega⟩
  have ih:=MZ B (A ++ [(k:Int)]) (k+1) n (by omega) (by simp;omega) (by omega)
  rw[Dt,if_pos (by simp[AS];omega),Fp,Il,A9 (by omega) (by omega),A9 (by omega) (by omega)]
  simp only[Option.bind_some]
  rw[List.length_append,List.append_assoc,List.append_assoc] at ih
  simp only[List.length_cons,List.length_nil,List.cons_append,List.nil_append] at ih
  have e1:((A.length:Int) + 1)=((A.length+(0+1):Nat):Int):=by omega
  have e2:((k:Int) + 1)=((k+1:Nat):Int):=by omega
  rw[e1,e2,ih]
  simp only[Le,show k+1+B.length=k+(B.length+1) by omega]
theorem PD {l:List Int} (hl:l.length≤1048576) {k:Nat} (hk:k≤50000000) {N:Nat} (hN:2000000≤N):GA N l (k:Int)=some (((k+l.length:Nat):Int),Le k l.length):=by
 unfold GA
 have:=MZ l [] k N (by omega) (by simp;omega) (by omega)
 rw[List.length_nil,List.nil_append,List.nil_append] at this
 rw[show (0:Int)=((0:Nat):Int) from rfl,this];rfl
theorem Ma :∀(m:Nat) (A:List Int) (k n:Nat),m < n→A.length+m≤2000000→k+m≤100000000→
  Ds (A ++ Le k m) n (k:Int) (A.length:Int)=some (Sum.inr (((k+m:Nat):Int)))
 | 0,A,k,n,hn,_,_=>by
  obtain⟨n,rfl⟩ :∃m,n=m+1:=⟨n - 1,by omega⟩
  rw[Ds,if_neg (by simp[AS,Le])];simp
 | m+1,A,k,n,hn,h1,h2=>by
  obtain⟨n,rfl⟩ :∃m,n=m+1:=⟨n - 1,by omega⟩
  have ih:=Ma m (A ++ [(k:Int)]) (k+1) n (by omega) (by simp;omega) (by omega)
  rw[Ds,if_pos (by simp[AS,UU];omega)]
  simp only[Le]
  rw[Fp,A9 (by omega) (by omega),A9 (by omega) (by omega)]
  simp only[Option.bind_some,decide_true,Bool.not_true,Bool.false_eq_true,if_false]
  rw[List.length_append,List.append_assoc] at ih
  simp only[List.length_cons,List.length_nil,List.cons_append,List.nil_append] at ih
  have e1:((A.length:Int) + 1)=((A.length+(0+1):Nat):Int):=by omega
  have e2:((k:Int) + 1)=((k+1:Nat):Int):=by omega
  rw[e1,e2,ih]
  simp only[show k+1+m=k+(m+1) by omega]
theorem Pq {m:Nat} (hl:m≤1048576) {k:Nat} (hk:k≤50000000) {N:Nat} (hN:2000000≤N):GK N (Le k m) (k:Int)=some (((k+m:Nat):Int)):=by
 unfold GK
 have:=Ma m [] k N (by omega) (by simp;omega) (by omega)
 rw[List.length_nil,List.nil_append] at this
 rw[show (0:Int)=((0:Nat):Int) from rfl,this];rfl
theorem MO {α:Type} {f g:α→Nat} {a b:Nat} :∀{l:List α},(∀x∈l,f x≤a+b * g x)→(l.map f).sum≤a * l.length+b * (l.map g).sum
 | [],_=>by simp
 | x :: r,h=>by
  have h1:=h x (by simp)
  have h2:=MO (l:=r) fun y hy=>h y (by simp[hy])
  simp only[List.map_cons,List.sum_cons,List.length_cons,Nat.mul_add]
  omega
theorem En {n:Nat} (h:n≤100000000):Sh.w ((n:Int) + 1)=((n+1:Nat):Int):=by
 rw[A9 (by omega) (by omega)];rfl
def Yr (d:Ab):Nat:=2+(d.cons.map cz).sum
mutual
def ms:Step→Nat | .mk _ _ _ a k=>3+a.length+fc k
def fc:List (Je Step)→Nat | []=>0 | b :: k=>mb b+fc k
def mb:Je Step→Nat | ⟨ss,_⟩=>fZ ss+1
def fZ:List Step→Nat | []=>0 | s :: l=>ms s+fZ l
end
end RC



namespace RC
open Go
theorem UB {α β:Type} {l:List α} (L:Nat→Int→List β→Option (List β)) (g:α→β) (h0 :∀n acc,L (n+1) ((l.length:Nat):Int) acc=some acc)
  (hs :∀n i x acc,l[i]?=some x→acc.length=i→L (n+1) ((i:Nat):Int) acc=L n ((i+1:Nat):Int) (acc ++ [g x])) {N:Nat} (hN:l.length < N):L N 0 []=some (l.map g):=by
 have key :∀{N i:Nat},i≤l.length→l.length - i < N→L N (i:Int) ((l.take i).map g)=some (l.map g):=by
  intro N i hi hN
  refine Bx l.length (fun N i=>L N (i:Int) ((l.take i).map g)=some (l.map g)) ?_ ?_ hi hN
  ·intro n;rw[h0,List.take_length]
  ·intro n i hi ih
   obtain⟨x,hx,_⟩:=Bn hi
   rw[hs n i x _ hx (by simp;omega),← ih,CC hx,List.map_append];rfl
 have:=key (Nat.zero_le _) (by omega:l.length - 0 < N)
 simpa using this
theorem T9 {α:Type} {l:List α} (L:Nat→Int→List α→Option (List α)) (g:α→α) (h0 :∀n acc,L (n+1) ((l.length:Nat):Int) acc=some acc)
  (hs :∀n (A:List α) (x:α) (C:List α),A.length+C.length < l.length→l[A.length]?=some x→L (n+1) ((A.length:Nat):Int) (A ++ x :: C)=L n ((A.length+1:Nat):Int) (A ++ g x :: C)) {N:Nat} (hN:l.length < N):L N 0 l=some (l.map g):=by
 have key :∀(C A:List α) (n:Nat),C.length < n→A.length≤l.length→C=l.drop A.length→L n ((A.length:Nat):Int) (A ++ C)=some (A ++ C.map g):=by
  intro C
  induction C with
  | nil=>
   intro A n hn h1 h2
   obtain⟨n,rfl⟩ :∃m,n=m+1:=⟨n - 1,by simp at hn;omega⟩
   have h3:=congrArg List.length h2
   simp at h3
   rw[show A.length=l.length by omega,h0];simp
  | cons x C ih=>
   intro A n hn h1 h2
   have h3:=congrArg List.length h2
   simp only[List.length_cons,List.length_drop] at hn h3
   obtain⟨n,rfl⟩ :∃m,n=m+1:=⟨n - 1,by omega⟩
   have hx:l[A.length]?=some x:=by
    have:=congrArg (fun z=>z[0]?) h2
    simpa using this.symm
   rw[hs n A x C (by omega) hx]
   have:=ih (A ++ [g x]) n (by omega) (by simp;omega) (by
    rw[drop_cons hx] at h2
    simpa using (List.cons.inj h2).2)
   simpa using this
 have:=key l [] N hN (by simp) (by simp)
 simpa using this
theorem VB {i:Nat} (h:i≤1048576):Sh.w ((i:Int) + 1)=((i+1:Nat):Int):=by rw[A9 (by omega) (by omega)];rfl
theorem gA {l:List Int} (hl:l.length≤1048576):DQ l=some l:=by
 unfold DQ
 rw[DM [] l 8 (by simp;omega) (by simp;omega)];rfl
theorem ft {l:List Int} (hl:l.length≤1048576):Bh l=some l:=by
 unfold Bh
 rw[DM [] l 8 (by simp;omega) (by simp;omega)];rfl
theorem Tu {D:List Ab} {i:Nat} {d:Ab} (hd:D[i]?=some d) (hz:dz d≤1048576) {N:Nat} (hN:2000000≤N):Cx i D N 0 []=some d.cons:=by
 unfold dz at hz
 rw[UB (l:=d.cons) (Cx i D) id (fun n acc=>by rw[Cx,A8 hd];simp only[Option.bind_some];rw[if_neg (by simp[AS])]) (fun n j c acc hc ha=>?_) (by omega)]
 ·simp
 ·have hj:=(List.getElem?_eq_some_iff.1 hc).1
  have hcz:=FQ cz (List.mem_of_getElem? hc)
  rw[Cx,A8 hd]
  simp only[Option.bind_some]
  rw[if_pos (by simp[AS];omega),A8 hc]
  simp only[Option.bind_some]
  rw[gA (show cz c≤1048576 by omega)]
  simp only[Option.bind_some]
  rw[DM acc _ 24 (by simp;omega) (by simp;omega)]
  simp only[Option.bind_some]
  rw[VB (by omega)];rfl
theorem Tk {D:List Ab} (hl:D.length≤1048576) (hz :∀d∈D,dz d≤1048576) {N:Nat} (hN:2000000≤N):Gg N D=some D:=by
 unfold Gg
 rw[UB (l:=D) (DP N D) id (fun n acc=>by rw[DP,if_neg (by simp[AS])]) (fun n j c acc hc ha=>?_) (by omega)]
 ·simp
 ·have hj:=(List.getElem?_eq_some_iff.1 hc).1
  rw[DP,if_pos (by simp[AS];omega),Tu hc (hz c (List.mem_of_getElem? hc)) hN,A8 hc]
  simp only[Option.bind_some]
  rw[DM acc _ 40 (by simp;omega) (by simp;omega)]
  simp only[Option.bind_some]
  rw[VB (by omega)];rfl
theorem SN {D:List Ab} (hl:D.length≤1048576) (hz :∀d∈D,dz d≤1048576) {N:Nat} (hN:2000000≤N):GN N D=some D:=by
 unfold GN CN
 rw[DM [] D 40 (by simp;omega) (by simp;omega)]
 simp only[Option.bind_some,List.nil_append]
 rw[T9 (l:=D) (DB N (Sh.len D)) id (fun n acc=>by rw[DB,if_neg (by simp[AS])]) (fun n A d C hA hd=>?_) (by omega)]
 ·simp
 ·have h1:=hz d (List.mem_of_getElem? hd)
  unfold dz at h1
  rw[DB,if_pos (by simp[AS];omega),Fp]
  simp only[Option.bind_some]
  unfold B6
  rw[DM [] d.cons 24 (by simp;omega) (by simp;omega)]
  simp only[Option.bind_some,List.nil_append]
  rw[T9 (l:=d.cons) (DA d.cons) id (fun n acc=>by rw[DA,if_neg (by simp[AS])]) (fun n B c E hB hc=>?_) (by omega)]
  ·simp only[Option.bind_some,Il,List.map_id]
   rw[VB (by omega)];rfl
  ·have hcz:=FQ cz (List.mem_of_getElem? hc)
   have hl:=(List.getElem?_eq_some_iff.1 hc).1
   rw[DA,if_pos (by simp[AS];omega),A8 hc]
   simp only[Option.bind_some]
   rw[ft (show cz c≤1048576 by omega),Fp]
   simp only[Option.bind_some]
   rw[Il,VB (by omega)];rfl
end RC



namespace RC
open Go
theorem V0 {α:Type} (L:Nat→Int→Int→List α→Option (Int×List α)) (H:List α→Nat→Int→Int→Option (Int ⊕ Int)) (wt:α→Nat) (ok:α→Prop)
  (h0 :∀n k l,L (n+1) k ((l.length:Nat):Int) l=some (k,l)) (g0 :∀l n k,H l (n+1) k ((l.length:Nat):Int)=some (.inr k))
  (hs :∀n (k:Nat) (A:List α) (x:α) (C:List α),A.length+C.length≤1048576→ok x→k+wt x≤20000000→∃(k':Nat) (y:α),k'≤k+wt x∧L (n+1) k ((A.length:Nat):Int) (A ++ x :: C)=L n k' ((A.length+1:Nat):Int) (A ++ y :: C)∧∀m E,H (A ++ y :: E) (m+1) k ((A.length:Nat):Int)=H (A ++ y :: E) m k' ((A.length+1:Nat):Int)) :
  ∀(C A:List α) (k n:Nat),C.length < n→A.length+C.length≤1048576→(∀x∈C,ok x)→k+(C.map wt).sum≤20000000→∃(k':Nat) (C':List α),k'≤k+(C.map wt).sum∧L n k ((A.length:Nat):Int) (A ++ C)=some ((k':Int),A ++ C')∧∀m,C.length < m→H (A ++ C') m k ((A.length:Nat):Int)=some (.inr (k':Int))
 | [],A,k,n,hn,_,_,_=>by
  obtain⟨n,rfl⟩ :∃m,n=m+1:=⟨n - 1,by simp at hn;omega⟩
  refine⟨k,[],by simp,?_,fun m hm=>?_⟩
  ·rw[List.append_nil,h0]
  ·obtain⟨m,rfl⟩ :∃q,m=q+1:=⟨m - 1,by simp at hm;omega⟩
   rw[List.append_nil,g0]
 | x :: C,A,k,n,hn,hl,hok,hk=>by
  simp only[List.length_cons,List.map_cons,List.sum_cons] at hn hl hk ⊢
  obtain⟨n,rfl⟩ :∃m,n=m+1:=⟨n - 1,by omega⟩
  obtain⟨k1,y,h1,h2,h5⟩:=hs n k A x C (by omega) (hok x (by simp)) (by omega)
  obtain⟨k2,C',h3,h4,h6⟩:=V0 L H wt ok h0 g0 hs C (A ++ [y]) k1 n (by omega) (by simp;omega) (fun z hz=>hok z (by simp[hz])) (by omega)
  refine⟨k2,y :: C',by omega,?_,fun m hm=>?_⟩
  ·rw[h2]
   simpa using h4
  ·obtain⟨m,rfl⟩ :∃q,m=q+1:=⟨m - 1,by omega⟩
   rw[h5]
   have:=h6 m (by omega)
   simpa using this
theorem VR {α:Type} {L:Nat→Int→Int→List α→Option (Int×List α)} {H:List α→Nat→Int→Int→Option (Int ⊕ Int)} {wt:α→Nat} {ok:α→Prop}
  (h0 :∀n k l,L (n+1) k ((l.length:Nat):Int) l=some (k,l)) (g0 :∀l n k,H l (n+1) k ((l.length:Nat):Int)=some (.inr k))
  (hs :∀n (k:Nat) (A:List α) (x:α) (C:List α),A.length+C.length≤1048576→ok x→k+wt x≤20000000→∃(k':Nat) (y:α),k'≤k+wt x∧L (n+1) k ((A.length:Nat):Int) (A ++ x :: C)=L n k' ((A.length+1:Nat):Int) (A ++ y :: C)∧∀m E,H (A ++ y :: E) (m+1) k ((A.length:Nat):Int)=H (A ++ y :: E) m k' ((A.length+1:Nat):Int))
  {l:List α} {k N:Nat} (hN:2000000≤N) (hl:l.length≤1048576) (hok :∀x∈l,ok x) (hk:k+(l.map wt).sum≤20000000) :∃(k':Nat) (l':List α),k'≤k+(l.map wt).sum∧L N k 0 l=some ((k':Int),l')∧H l' N k 0=some (.inr (k':Int)):=by
 obtain⟨k',l',h1,h2,h3⟩:=V0 L H wt ok h0 g0 hs l [] k N (by omega) (by simp;omega) hok hk
 exact⟨k',l',h1,h2,h3 N (by omega)⟩
theorem bM {l:List BU} {k N:Nat} (hN:2000000≤N) (hl:l.length≤1048576) (hok :∀c∈l,cz c≤1048576) (hk:k+(l.map cz).sum≤20000000) :∃(k':Nat) (l':List BU),k'≤k+(l.map cz).sum∧HB N l k=some ((k':Int),l')∧HF N l' k=some (k':Int):=by
 obtain⟨k',l',h1,h2,h3⟩:=VR (L:=Dl N) (H:=Dr N) (wt:=cz) (ok:=fun c=>cz c≤1048576) (fun n k l=>by rw[Dl,if_neg (by simp[AS])]) (fun l n k=>by rw[Dr,if_neg (by simp[AS])]) (fun n k A x C hA hx hk=>by
  refine⟨k+cz x,⟨Le k (cz x)⟩,Nat.le_refl _,?_,fun m E=>?_⟩
  ·rw[Dl,if_pos (by simp[AS];omega),Fp]
   simp only[Option.bind_some]
   rw[PD hx (by omega) hN]
   simp only[Option.bind_some,Il]
   rw[En (by omega)];rfl
  ·rw[Dr,if_pos (by simp[AS];omega),Fp]
   simp only[Option.bind_some]
   rw[Pq hx (by omega) hN]
   simp only[Option.bind_some]
   rw[if_neg (by simp <;> omega),En (by omega)]) hN hl hok hk
 refine⟨k',l',h1,?_,?_⟩
 ·unfold HB
  rw[h2];rfl
 ·unfold HF
  rw[h3];rfl
theorem ZX {l:List Ab} {k N:Nat} (hN:2000000≤N) (hl:l.length≤1048576) (hok :∀d∈l,dz d≤1048576) (hk:k+(l.map Yr).sum≤20000000) :∃(k':Nat) (l':List Ab),k'≤k+(l.map Yr).sum∧Gh N l k=some ((k':Int),l')∧Gq N l' k=some (k':Int):=by
 obtain⟨k',l',h1,h2,h3⟩:=VR (L:=DY N) (H:=Da N) (wt:=Yr) (ok:=fun d=>dz d≤1048576) (fun n k l=>by rw[DY,if_neg (by simp[AS])]) (fun l n k=>by rw[Da,if_neg (by simp[AS])]) (fun n k A x C hA hx hk=>by
  unfold dz at hx
  unfold Yr at hk ⊢
  obtain⟨k1,l1,g1,g2,g3⟩:=bM (l:=x.cons) (k:=k+1+1) hN (by omega) (fun c hc=>by have:=FQ cz hc;omega) (by omega)
  refine⟨k1,⟨(k:Int),((k+1:Nat):Int),l1⟩,by omega,?_,fun m E=>?_⟩
  ·rw[DY,if_pos (by simp[AS];omega),En (n:=k) (by omega),En (n:=k+1) (by omega),En (n:=A.length) (by omega)]
   simp only[Fp,Il,Option.bind_some]
   rw[g2]
   simp only[Option.bind_some]
  ·rw[Da,if_pos (by simp[AS];omega),Fp]
   simp only[Option.bind_some]
   rw[En (n:=k) (by omega),En (n:=k+1) (by omega),En (n:=A.length) (by omega),g3]
   simp only[decide_true,Bool.not_true,Bool.false_eq_true,if_false,Option.bind_some]
   rw[if_neg (by simp <;> omega)]) hN hl hok hk
 refine⟨k',l',h1,?_,?_⟩
 ·unfold Gh
  rw[h2];rfl
 ·unfold Gq
  rw[h3];rfl
end RC


namespace RC
end RC



namespace RC
open Go
mutual
def vs:Step→List Int | .mk o _ _ a k=>if eY o then [] else a ++ fW k
def fW:List (Je Step)→List Int | []=>[] | b :: k=>fw b ++ fW k
def fw:Je Step→List Int | ⟨ss,r⟩=>eG ss ++ [r]
def eG:List Step→List Int | []=>[] | s :: l=>vs s ++ eG l
end
end RC


namespace RC
open Go
def fN (h:List Cell) (j:Nat) (w:Int):Bool:=dH h w && decide ((w - 1000).toNat=j)
def gB (h:List Cell) (ws:List Int) (j:Nat):Nat:=ws.countP (fN h j)
theorem er (h:List Cell) (j:Nat):gB h [] j=0:=rfl
def fa (l:List Nat):List Int:=List.map (fun n:Nat=>(n:Int)) l
end RC



namespace RC
open Go
def mk (m:Nat→Bool) (n i:Nat):List Nat:=(List.range' i (n - i)).filter m
def dJ (m:Nat→Bool) (l:List Int):Nat→Bool:=fun k=>m k || decide ((k:Int)∈l)
mutual
def cX:AG→List Int | .mk o n k=>(if o=9∨o=10 then [n] else []) ++ Zo k
def Zo:List AG→List Int | []=>[] | e :: l=>cX e ++ Zo l
end
end RC



namespace RC
open Go
end RC



namespace RC
open Go
def gD (p:Aa) (k:Nat):List Int:=match p.funcs[k]? with | some f=>cX f.body | none=>[]
def gF:Nat→Bool:=fun _=>false
def cl (p:Aa) (F k:Nat):List Int:=fa (mk (dJ gF (gD p k)) F 0)
end RC



namespace RC
open Go
end RC



namespace RC
open Go
end RC



namespace RC
open Go
section
variable {p : Aa} {R1 : Aa → List Int → AG → Option Int} {R2 : List Int → A6 → AG → Option Int} {T : List Int → AG → Int} {e : AG} {v : List Int} {N : Nat}
theorem Qu {l:List Int} (h:Ja l≠-1) :∀x∈l,x≠-1:=by
 cases l with
 | nil=>exact absurd rfl h
 | cons a r=>
  simp only[Ja] at h
  by_cases hr:r.all (fun x=>decide (x=a))=true
  ·rw[if_pos hr] at h
   intro x hx
   rcases List.mem_cons.1 hx with rfl | hx
   ·exact h
   ·have:=List.all_eq_true.1 hr x hx
    simp only[decide_eq_true_eq] at this
    rw[this];exact h
  ·rw[if_neg hr] at h;exact absurd rfl h
theorem ar (H:IS p (Dj p) R1 R2 T (en e)) (V:Gc p e v) (S:Dy p.decls p.funcs) (hN:2000000≤N) {t:Int} (hB:Ap N R2 v (Dj p) e=some t) (ht:t≠-1) :
  ∀k∈e.kids,∃m:List Int,m.length≤3∧(∀x∈m,CB p.decls x=true)∧T (v ++ m) k≠-1:=by
 have hv:v.length≤1000:=by have:=V.len;omega
 have nil :∀k,T v k≠-1→∃m:List Int,m.length≤3∧(∀x∈m,CB p.decls x=true)∧T (v ++ m) k≠-1:=fun k h=>⟨[],by simp,fun x hx=>(by cases hx),by simpa using h⟩
 by_cases h12:e.op=12
 ·unfold Ap at hB
  simp only[h12,decide_true,if_true] at hB
  intro k hk
  have:0 < Sh.len e.kids:=by rw[AS];have:=List.length_pos_of_mem hk;omega
  simp only[this,decide_true,if_true,Option.bind_some,Option.some.injEq] at hB
  exact absurd hB.symm ht
 by_cases h13:e.op=13
 ·unfold Ap at hB
  simp only[h13,Int.reduceEq,decide_true,decide_false,Bool.false_eq_true,if_true,if_false] at hB
  by_cases hl:e.kids.length=2
  ·obtain⟨a,b,hk⟩ :∃a b,e.kids=[a,b]:=by
    match hk:e.kids,hl with
    | [a,b],_=>exact⟨a,b,rfl⟩
   have hma:a∈e.kids:=by rw[hk];simp
   have hmb:b∈e.kids:=by rw[hk];simp
   obtain⟨a1,a2,a3⟩:=H v a (V.Ea.kids a hma) (CO hma) (V.H9 hma) V.GQ
   have g0:Sh.get e.kids 0=some a:=by rw[hk];rfl
   have g1:Sh.get e.kids 1=some b:=by rw[hk];rfl
   rw[g0,g1] at hB
   simp only[Option.bind_some,AS,hl] at hB
   rw[a2] at hB
   simp only[Option.bind_some] at hB
   by_cases hn:e.num=0
   ·by_cases h0:T v a < 0
    ·simp[hn,h0] at hB;exact absurd hB.symm ht
    ·have hty:CB p.decls (T v a)=true:=a3.resolve_left (by omega)
     obtain⟨b1,b2,b3⟩:=H (v ++ [T v a]) b (V.Ea.kids b hmb) (CO hmb) (V.more hmb (by simp)) (V.UL (by simp[hty]))
     rw[DM v [T v a] 8 (by simp;omega) (by simp;omega)] at hB
     simp only[Option.bind_some,b2] at hB
     simp[hn,h0] at hB
     intro k hkm
     rw[hk] at hkm
     simp only[List.mem_cons,List.not_mem_nil,or_false] at hkm
     rcases hkm with rfl | rfl
     ·exact nil _ (by omega)
     ·exact⟨[T v a],by simp,by simp[hty],by rw[hB];exact ht⟩
   ·simp[hn] at hB;exact absurd hB.symm ht
  ·have:¬ ((e.kids.length:Int)=2):=by omega
   simp[AS,this] at hB;exact absurd hB.symm ht
 by_cases h7:e.op=7
 ·unfold Ap at hB
  simp only[h7,Int.reduceEq,decide_true,decide_false,Bool.false_eq_true,if_true,if_false] at hB
  by_cases hl:e.kids.length=3
  ·obtain⟨a,b,c,hk⟩ :∃a b c,e.kids=[a,b,c]:=by
    match hk:e.kids,hl with
    | [a,b,c],_=>exact⟨a,b,c,rfl⟩
   have hma:a∈e.kids:=by rw[hk];simp
   have hmb:b∈e.kids:=by rw[hk];simp
   have hmc:c∈e.kids:=by rw[hk];simp
   obtain⟨a1,a2,a3⟩:=H v a (V.Ea.kids a hma) (CO hma) (V.H9 hma) V.GQ
   have g0:Sh.get e.kids 0=some a:=by rw[hk];rfl
   have g3:Sh.sl e.kids 1 3=some [b,c]:=by rw[hk];rfl
   have o:=IF (ks:=[b,c]) (ms:=[[],[]]) H V hN (by intro k hk;simp only[List.mem_cons,List.not_mem_nil,or_false] at hk;rcases hk with rfl | rfl <;> assumption) (by simp) rfl (by simp)
   have mk2:Sh.mk ([]:List Int) 2 24=some [[],[]]:=JF [] 2 24 (by omega) (by omega)
   rw[g0] at hB
   simp only[Option.bind_some,AS,hl] at hB
   rw[a2,show ((3:Nat):Int)=3 from rfl,g3,mk2] at hB
   simp only[Option.bind_some] at hB
   rw[o] at hB
   by_cases hn:e.num=0
   ·by_cases h0:T v a=0
    ·simp[hn,h0] at hB
     have hal:=Qu (l:=[T v b,T v c]) (by rw[hB];exact ht)
     intro k hkm
     rw[hk] at hkm
     simp only[List.mem_cons,List.not_mem_nil,or_false] at hkm
     rcases hkm with rfl | rfl | rfl
     ·exact nil _ (by omega)
     ·exact nil _ (hal _ (by simp))
     ·exact nil _ (hal _ (by simp))
    ·simp[hn,h0] at hB;exact absurd hB.symm ht
   ·simp[hn] at hB;exact absurd hB.symm ht
  ·have:¬ ((e.kids.length:Int)=3):=by omega
   simp[AS,this] at hB;exact absurd hB.symm ht
 by_cases h8:e.op=8
 ·have hkl:=V.I7
  have hD:=S.Lj
  have hn:=S.nc
  have hCl:=H8 S.PH e.num
  unfold Ap at hB
  simp only[h8,Int.reduceEq,decide_true,decide_false,Bool.false_eq_true,if_true,if_false] at hB
  rw[show (Dj p).decls=p.decls from rfl,Fm (by omega) (by omega) hN] at hB
  simp only[Option.bind_some] at hB
  generalize hCe:B1 p.decls e.num=C at hCl hB
  have hCm :∀c∈C,CU N p.decls c=some (EJ p.decls c)∧C6 N p.decls c=some (EJ p.decls c)∧(EJ p.decls c).length≤3∧∀x∈EJ p.decls c,CB p.decls x=true:=fun c hc=>Kr S (hCe ▸ hc) hN
  rw[AS C,AS e.kids,A9 (n:=1+(C.length:Int)) (by omega) (by omega)] at hB
  by_cases h0:C.length=0
  ·simp[h0] at hB;exact absurd hB.symm ht
  ·have h0':¬ ((C.length:Int)=0):=by omega
   have hne:¬ C=[]:=fun q=>h0 (by rw[q];rfl)
   by_cases h1:e.kids.length=1+C.length
   ·have h1':((e.kids.length:Int)=1+(C.length:Int)):=by omega
    obtain⟨a,r,hks⟩ :∃a r,e.kids=a :: r:=by
     cases hq:e.kids with
     | nil=>rw[hq] at h1;simp at h1;omega
     | cons a r=>exact⟨a,r,rfl⟩
    have hrl:r.length=C.length:=by rw[hks] at h1;simp at h1;omega
    have hma:a∈e.kids:=by rw[hks];simp
    have hmr :∀k∈r,k∈e.kids:=fun k hk=>by rw[hks];simp[hk]
    obtain⟨a1,a2,a3⟩:=H v a (V.Ea.kids a hma) (CO hma) (V.H9 hma) V.GQ
    have g0:Sh.get e.kids 0=some a:=by rw[hks];rfl
    have g3:Sh.sl e.kids 1 (e.kids.length:Int)=some r:=by
     unfold Sh.sl
     rw[if_pos ⟨by omega,by omega,by omega⟩,hks];simp
    have mkC:Sh.mk ([]:List Int) (C.length:Int) 24=some (List.replicate C.length []):=JF [] C.length 24 (by omega) (by omega)
    have o:=IF (ks:=r) (ms:=C.map (EJ p.decls)) H V hN hmr (by omega) (by simp[hrl]) (by
     intro m hm
     obtain⟨c,hc,rfl⟩:=List.mem_map.1 hm
     exact (hCm c hc).2.2)
    have FL:=L9 (p:=p) S hN hCl fun c hc=>(hCm c hc).2.1
    rw[g0,g3,mkC] at hB
    simp only[Option.bind_some] at hB
    rw[a2,FL] at hB
    simp only[Option.bind_some] at hB
    rw[o] at hB
    by_cases hta:T v a=e.num
    ·simp[hne,h1',hta] at hB
     have hal:=Qu (by rw[hB];exact ht)
     intro k hkm
     rw[hks] at hkm
     rcases List.mem_cons.1 hkm with rfl | hkm
     ·refine nil _ fun hq=>?_
      have hneg:e.num=-1:=by rw[← hta];exact hq
      rw[hneg] at hCe
      exact h0 (by rw[← hCe];simp[B1])
     ·obtain⟨i,hi⟩:=List.mem_iff_getElem?.1 hkm
      have hil:=(List.getElem?_eq_some_iff.1 hi).1
      obtain⟨c,hc,hcm⟩:=Bn (l:=C) (i:=i) (by omega)
      refine⟨EJ p.decls c,(hCm c hcm).2.2.1,(hCm c hcm).2.2.2,hal _ (List.mem_iff_getElem?.2 ⟨i,?_⟩)⟩
      rw[List.getElem?_zipWith,List.getElem?_map,hc,hi];rfl
    ·simp[hne,h1',hta] at hB;exact absurd hB.symm ht
   ·have h1':¬ ((e.kids.length:Int)=1+(C.length:Int)):=by omega
    simp[hne,h1'] at hB;exact absurd hB.symm ht
 rw[D1 H V hN h12 h13 h7 h8] at hB
 by_cases h:(e.kids.map (T v)).any (fun t=>decide (t < 0))=true
 ·rw[if_pos h] at hB;simp at hB;exact absurd hB.symm ht
 ·intro k hk
  refine nil k fun hq=>h ?_
  exact List.any_eq_true.2 ⟨T v k,List.mem_map_of_mem hk,by rw[hq];rfl⟩
end
end RC



namespace RC
open Go
def TT (p:Aa) (N:Nat) (T:List Int→AG→Int):Prop:=∀(v:List Int) (e:AG),BG e→en e < 31→v.length+3 * en e≤1000→(∀x∈v,CB p.decls x=true)→
  ∀n1 n2,31≤n1→31≤n2→B4 N n1 p v e=some (T v e)∧BO N n2 v (Dj p) e=some (T v e)∧(T v e=-1∨CB p.decls (T v e)=true)
end RC



namespace RC
open Go
section
variable {p : Aa} {R1 : Aa → List Int → AG → Option Int} {R2 : List Int → A6 → AG → Option Int} {T : List Int → AG → Int} {e : AG} {v : List Int} {N : Nat}
theorem TM (H:IS p (Dj p) R1 R2 T (en e)) (V:Gc p e v) (h:e.op=13) {a b:AG} (hk:e.kids=[a,b]) (hn:e.num=0) (ha:T v a≠-1) :
  Ap N R2 v (Dj p) e=some (T (v ++ [T v a]) b)∧CB p.decls (T v a)=true:=by
 have hv:v.length≤1000:=by have:=V.len;omega
 have hma:a∈e.kids:=by rw[hk];simp
 have hmb:b∈e.kids:=by rw[hk];simp
 obtain⟨a1,a2,a3⟩:=H v a (V.Ea.kids a hma) (CO hma) (V.H9 hma) V.GQ
 have hty:CB p.decls (T v a)=true:=a3.resolve_left ha
 have h0:¬ T v a < 0:=by have:=(IZ hty).1;omega
 have g0:Sh.get e.kids 0=some a:=by rw[hk];rfl
 have g1:Sh.get e.kids 1=some b:=by rw[hk];rfl
 obtain⟨b1,b2,b3⟩:=H (v ++ [T v a]) b (V.Ea.kids b hmb) (CO hmb) (V.more hmb (by simp)) (V.UL (by simp[hty]))
 refine⟨?_,hty⟩
 unfold Ap
 simp only[h,Int.reduceEq,decide_true,decide_false,Bool.false_eq_true,if_true,if_false]
 rw[g0,g1]
 have hl:((e.kids.length:Int)=2):=by rw[hk];rfl
 simp only[Option.bind_some,AS,hl,hn,decide_true,Bool.not_true,Bool.false_eq_true,if_false]
 rw[a2]
 simp only[Option.bind_some,h0,decide_false,Bool.false_eq_true,if_false]
 rw[DM v [T v a] 8 (by simp;omega) (by simp;omega)]
 simp only[Option.bind_some,b2]
theorem S6 (H:IS p (Dj p) R1 R2 T (en e)) (V:Gc p e v) (h:e.op=13) {t:Int} (hB:Ap N R2 v (Dj p) e=some t) (ht:t≠-1) :
  ∃a b,e.kids=[a,b]∧e.num=0∧T v a≠-1∧CB p.decls (T v a)=true∧t=T (v ++ [T v a]) b:=by
 have hB0:=hB
 unfold Ap at hB
 simp only[h,Int.reduceEq,decide_true,decide_false,Bool.false_eq_true,if_true,if_false] at hB
 by_cases hl:e.kids.length=2
 ·obtain⟨a,b,hk⟩ :∃a b,e.kids=[a,b]:=by
   match hk:e.kids,hl with
   | [a,b],_=>exact⟨a,b,rfl⟩
  have hma:a∈e.kids:=by rw[hk];simp
  obtain⟨a1,a2,a3⟩:=H v a (V.Ea.kids a hma) (CO hma) (V.H9 hma) V.GQ
  by_cases hn:e.num=0
  ·by_cases ha:T v a=-1
   ·exfalso
    have g0:Sh.get e.kids 0=some a:=by rw[hk];rfl
    rw[g0] at hB
    simp only[Option.bind_some,AS,hl] at hB
    rw[a2] at hB
    simp[hn,ha] at hB
    exact ht hB.symm
   ·obtain⟨q1,q2⟩:=TM (N:=N) H V h hk hn ha
    rw[hB0] at q1
    exact⟨a,b,hk,hn,ha,q2,by simpa using q1⟩
  ·simp[hn] at hB;exact absurd hB.symm ht
 ·have:¬ ((e.kids.length:Int)=2):=by omega
  simp[AS,this] at hB;exact absurd hB.symm ht
theorem X5 (H:IS p (Dj p) R1 R2 T (en e)) (V:Gc p e v) (hN:2000000≤N) (h:e.op=7) {a b c:AG} (hk:e.kids=[a,b,c]) (hn:e.num=0) (ha:T v a=0) :
  Ap N R2 v (Dj p) e=some (Ja [T v b,T v c]):=by
 have hma:a∈e.kids:=by rw[hk];simp
 have hmb:b∈e.kids:=by rw[hk];simp
 have hmc:c∈e.kids:=by rw[hk];simp
 obtain⟨a1,a2,a3⟩:=H v a (V.Ea.kids a hma) (CO hma) (V.H9 hma) V.GQ
 have hl:((e.kids.length:Int)=3):=by rw[hk];rfl
 have g0:Sh.get e.kids 0=some a:=by rw[hk];rfl
 have g3:Sh.sl e.kids 1 3=some [b,c]:=by rw[hk];rfl
 have o:=IF (ks:=[b,c]) (ms:=[[],[]]) H V hN (by intro k hk;simp only[List.mem_cons,List.not_mem_nil,or_false] at hk;rcases hk with rfl | rfl <;> assumption) (by simp) rfl (by simp)
 have mk2:Sh.mk ([]:List Int) 2 24=some [[],[]]:=JF [] 2 24 (by omega) (by omega)
 unfold Ap
 simp only[h,Int.reduceEq,decide_true,decide_false,Bool.false_eq_true,if_true,if_false]
 rw[g0]
 simp only[Option.bind_some,AS,hl]
 rw[a2,g3,mk2]
 simp only[Option.bind_some]
 rw[o]
 simp[hn,ha]
theorem Rv (H:IS p (Dj p) R1 R2 T (en e)) (V:Gc p e v) (hN:2000000≤N) (h:e.op=7) {t:Int} (hB:Ap N R2 v (Dj p) e=some t) (ht:t≠-1) :
  ∃a b c,e.kids=[a,b,c]∧e.num=0∧T v a=0∧t=T v b∧t=T v c:=by
 have hB0:=hB
 unfold Ap at hB
 simp only[h,Int.reduceEq,decide_true,decide_false,Bool.false_eq_true,if_true,if_false] at hB
 by_cases hl:e.kids.length=3
 ·obtain⟨a,b,c,hk⟩ :∃a b c,e.kids=[a,b,c]:=by
   match hk:e.kids,hl with
   | [a,b,c],_=>exact⟨a,b,c,rfl⟩
  have hma:a∈e.kids:=by rw[hk];simp
  obtain⟨a1,a2,a3⟩:=H v a (V.Ea.kids a hma) (CO hma) (V.H9 hma) V.GQ
  by_cases hn:e.num=0
  ·by_cases ha:T v a=0
   ·have q:=X5 H V hN h hk hn ha
    rw[hB0] at q
    have q:t=Ja [T v b,T v c]:=by simpa using q
    have hal:=Qu (l:=[T v b,T v c]) (by rw[← q];exact ht)
    rw[QE] at q
    by_cases hcb:T v c=T v b
    ·rw[if_pos hcb] at q
     exact⟨a,b,c,hk,hn,ha,q,by rw[hcb];exact q⟩
    ·rw[if_neg hcb] at q;exact absurd q ht
   ·exfalso
    have g0:Sh.get e.kids 0=some a:=by rw[hk];rfl
    rw[g0] at hB
    simp only[Option.bind_some,AS,hl] at hB
    rw[a2] at hB
    simp[hn,ha] at hB
    exact ht hB.symm
  ·simp[hn] at hB;exact absurd hB.symm ht
 ·have:¬ ((e.kids.length:Int)=3):=by omega
  simp[AS,this] at hB;exact absurd hB.symm ht
def Wp (D:List Ab) (T:List Int→AG→Int) (v:List Int) (C:List Int) (r:List AG):List Int:=List.zipWith (fun m k=>T (v ++ m) k) (C.map (EJ D)) r
theorem TD (H:IS p (Dj p) R1 R2 T (en e)) (V:Gc p e v) (S:Dy p.decls p.funcs) (hN:2000000≤N) (h8:e.op=8) {a:AG} {r:List AG} (hks:e.kids=a :: r) (h0:B1 p.decls e.num≠[]) (hrl:r.length=(B1 p.decls e.num).length) (hta:T v a=e.num) :
  Ap N R2 v (Dj p) e=some (Ja (Wp p.decls T v (B1 p.decls e.num) r)):=by
 have hkl:=V.I7
 have hD:=S.Lj
 have hn:=S.nc
 have hCl:=H8 S.PH e.num
 unfold Ap
 simp only[h8,Int.reduceEq,decide_true,decide_false,Bool.false_eq_true,if_true,if_false]
 rw[show (Dj p).decls=p.decls from rfl,Fm (by omega) (by omega) hN]
 simp only[Option.bind_some]
 generalize hCe:B1 p.decls e.num=C at *
 have hCm :∀c∈C,CU N p.decls c=some (EJ p.decls c)∧C6 N p.decls c=some (EJ p.decls c)∧(EJ p.decls c).length≤3∧∀x∈EJ p.decls c,CB p.decls x=true:=fun c hc=>Kr S (hCe ▸ hc) hN
 have h1:e.kids.length=1+C.length:=by rw[hks];simp;omega
 have h1':((e.kids.length:Int)=1+(C.length:Int)):=by omega
 have hma:a∈e.kids:=by rw[hks];simp
 have hmr :∀k∈r,k∈e.kids:=fun k hk=>by rw[hks];simp[hk]
 obtain⟨a1,a2,a3⟩:=H v a (V.Ea.kids a hma) (CO hma) (V.H9 hma) V.GQ
 have g0:Sh.get e.kids 0=some a:=by rw[hks];rfl
 have g3:Sh.sl e.kids 1 (e.kids.length:Int)=some r:=by
  unfold Sh.sl
  rw[if_pos ⟨by omega,by omega,by omega⟩,hks];simp
 have mkC:Sh.mk ([]:List Int) (C.length:Int) 24=some (List.replicate C.length []):=JF [] C.length 24 (by omega) (by omega)
 have o:=IF (ks:=r) (ms:=C.map (EJ p.decls)) H V hN hmr (by omega) (by simp[hrl]) (by
  intro m hm
  obtain⟨c,hc,rfl⟩:=List.mem_map.1 hm
  exact (hCm c hc).2.2)
 have FL:=L9 (p:=p) S hN hCl fun c hc=>(hCm c hc).2.1
 rw[AS C,AS e.kids,A9 (n:=1+(C.length:Int)) (by omega) (by omega),g0,g3,mkC]
 simp only[Option.bind_some]
 rw[a2,FL]
 simp only[Option.bind_some]
 rw[o]
 simp[h0,h1',hta,Wp]
theorem H6 (H:IS p (Dj p) R1 R2 T (en e)) (V:Gc p e v) (S:Dy p.decls p.funcs) (hN:2000000≤N) (h8:e.op=8) {t:Int} (hB:Ap N R2 v (Dj p) e=some t) (ht:t≠-1) :
  ∃a r,e.kids=a :: r∧B1 p.decls e.num≠[]∧r.length=(B1 p.decls e.num).length∧T v a=e.num∧t=Ja (Wp p.decls T v (B1 p.decls e.num) r):=by
 have hB0:=hB
 have hkl:=V.I7
 have hD:=S.Lj
 have hn:=S.nc
 have hCl:=H8 S.PH e.num
 unfold Ap at hB
 simp only[h8,Int.reduceEq,decide_true,decide_false,Bool.false_eq_true,if_true,if_false] at hB
 rw[show (Dj p).decls=p.decls from rfl,Fm (by omega) (by omega) hN] at hB
 simp only[Option.bind_some] at hB
 have mv:=fun a r=>TD (a:=a) (r:=r) H V S hN h8
 rw[AS (B1 p.decls e.num),AS e.kids,A9 (n:=1+((B1 p.decls e.num).length:Int)) (by omega) (by omega)] at hB
 by_cases h0:(B1 p.decls e.num)=[]
 ·simp[h0] at hB;exact absurd hB.symm ht
 ·have h0':¬ (((B1 p.decls e.num).length:Int)=0):=by
   intro q;exact h0 (List.eq_nil_of_length_eq_zero (by omega))
  by_cases h1:e.kids.length=1+(B1 p.decls e.num).length
  ·have h1':((e.kids.length:Int)=1+((B1 p.decls e.num).length:Int)):=by omega
   obtain⟨a,r,hks⟩ :∃a r,e.kids=a :: r:=by
    cases hq:e.kids with
    | nil=>rw[hq] at h1;simp at h1;omega
    | cons a r=>exact⟨a,r,rfl⟩
   have hrl:r.length=(B1 p.decls e.num).length:=by rw[hks] at h1;simp at h1;omega
   have hma:a∈e.kids:=by rw[hks];simp
   obtain⟨a1,a2,a3⟩:=H v a (V.Ea.kids a hma) (CO hma) (V.H9 hma) V.GQ
   by_cases hta:T v a=e.num
   ·have q:=mv a r hks h0 hrl hta
    rw[hB0] at q
    exact⟨a,r,hks,h0,hrl,hta,by simpa using q⟩
   ·exfalso
    have g0:Sh.get e.kids 0=some a:=by rw[hks];rfl
    rw[g0] at hB
    simp only[Option.bind_some] at hB
    rw[a2] at hB
    simp[h0,h1',hta] at hB;exact ht hB.symm
  ·have h1':¬ ((e.kids.length:Int)=1+((B1 p.decls e.num).length:Int)):=by omega
   simp[h0,h1'] at hB;exact absurd hB.symm ht
theorem Q1 {l:List Int} {t:Int} (h:t=Ja l) (ht:t≠-1) :∀x∈l,x=t:=by
 cases l with
 | nil=>intro x hx;cases hx
 | cons a r=>
  simp only[Ja] at h
  by_cases hr:r.all (fun x=>decide (x=a))=true
  ·rw[if_pos hr] at h
   intro x hx
   rcases List.mem_cons.1 hx with rfl | hx
   ·exact h.symm
   ·have:=List.all_eq_true.1 hr x hx
    simp only[decide_eq_true_eq] at this
    rw[this,h]
  ·rw[if_neg hr] at h;exact absurd h ht
def GG (D:List Ab) (o nu:Int) (i:Nat):Nat:=if o=13∧i=1 then 1 else if o=8∧0 < i then (EJ D (((B1 D nu)[i - 1]?).getD 0)).length else 0
theorem PL {e':AG} {v':List Int} (H:IS p (Dj p) R1 R2 T (en e)) (H':IS p (Dj p) R1 R2 T (en e')) (V:Gc p e v) (V':Gc p e' v') (S:Dy p.decls p.funcs) (hN:2000000≤N) {t:Int} (hB:Ap N R2 v (Dj p) e=some t) (ht:t≠-1)
  (ho:e'.op=e.op) (hn:e'.num=e.num) (h12:e.op≠12) (hl:e'.kids.length=e.kids.length)
  (hf :∀(i:Nat) k k',e.kids[i]?=some k→e'.kids[i]?=some k'→∀m:List Int,m.length=GG p.decls e.op e.num i→m.length≤3→(∀x∈m,CB p.decls x=true)→T (v ++ m) k≠-1→T (v' ++ m) k'=T (v ++ m) k) :
  Ap N R2 v' (Dj p) e'=some t:=by
 have hf0 :∀(i:Nat) k k',e.kids[i]?=some k→e'.kids[i]?=some k'→GG p.decls e.op e.num i=0→T v k≠-1→T v' k'=T v k:=fun i k k' hk hk' hx h=>by
  have:=hf i k k' hk hk' [] (by rw[hx];rfl) (by simp) (fun x hx=>(by cases hx)) (by simpa using h)
  simpa using this
 by_cases h13:e.op=13
 ·obtain⟨a,b,q1,q2,q3,q4,q5⟩:=S6 H V h13 hB ht
  obtain⟨a',b',hk'⟩ :∃a' b',e'.kids=[a',b']:=by
   match hq:e'.kids,hl with
   | [a',b'],_=>exact⟨a',b',rfl⟩
   | [],hl=>rw[q1] at hl;simp at hl
   | [_],hl=>rw[q1] at hl;simp at hl
   | _ :: _ :: _ :: _,hl=>rw[q1] at hl;simp at hl
  have e1:=hf0 0 a a' (by rw[q1];rfl) (by rw[hk'];rfl) (by simp[GG,h13]) q3
  have e2:=hf 1 b b' (by rw[q1];rfl) (by rw[hk'];rfl) [T v a] (by simp[GG,h13]) (by simp) (by simp[q4]) (by rw[← q5];exact ht)
  have:=(TM (N:=N) H' V' (by rw[ho];exact h13) hk' (by rw[hn];exact q2) (by rw[e1];exact q3)).1
  rw[this,e1,e2,← q5]
 by_cases h7:e.op=7
 ·obtain⟨a,b,c,q1,q2,q3,q4,q5⟩:=Rv H V hN h7 hB ht
  obtain⟨a',b',c',hk'⟩ :∃a' b' c',e'.kids=[a',b',c']:=by
   match hq:e'.kids,hl with
   | [a',b',c'],_=>exact⟨a',b',c',rfl⟩
   | [],hl=>rw[q1] at hl;simp at hl
   | [_],hl=>rw[q1] at hl;simp at hl
   | [_,_],hl=>rw[q1] at hl;simp at hl
   | _ :: _ :: _ :: _ :: _,hl=>rw[q1] at hl;simp at hl
  have hx :∀i,GG p.decls e.op e.num i=0:=fun i=>by simp[GG,h7]
  have e1:=hf0 0 a a' (by rw[q1];rfl) (by rw[hk'];rfl) (hx _) (by rw[q3];omega)
  have e2:=hf0 1 b b' (by rw[q1];rfl) (by rw[hk'];rfl) (hx _) (by rw[← q4];exact ht)
  have e3:=hf0 2 c c' (by rw[q1];rfl) (by rw[hk'];rfl) (hx _) (by rw[← q5];exact ht)
  have:=X5 H' V' hN (by rw[ho];exact h7) hk' (by rw[hn];exact q2) (by rw[e1];exact q3)
  rw[this,e2,e3,← q4,← q5,QE,if_pos rfl]
 by_cases h8:e.op=8
 ·obtain⟨a,r,q1,q2,q3,q4,q5⟩:=H6 H V S hN h8 hB ht
  have hnum:e.num≠-1:=fun q=>q2 (by rw[q];simp[B1])
  obtain⟨a',r',hk'⟩ :∃a' r',e'.kids=a' :: r':=by
   match hq:e'.kids,hl with
   | a' :: r',_=>exact⟨a',r',rfl⟩
   | [],hl=>rw[q1] at hl;simp at hl
  have hrl:r'.length=r.length:=by rw[hk',q1] at hl;simpa using hl
  have e1:=hf0 0 a a' (by rw[q1];rfl) (by rw[hk'];rfl) (by simp[GG,h8]) (by rw[q4];exact hnum)
  have:=TD H' V' S hN (by rw[ho];exact h8) hk' (by rw[hn];exact q2) (by rw[hn,hrl];exact q3) (by rw[hn,e1];exact q4)
  rw[this,hn,q5]
  have al:=Q1 q5 ht
  congr 2
  unfold Wp at al ⊢
  apply List.ext_getElem?
  intro i
  rw[List.getElem?_zipWith,List.getElem?_zipWith,List.getElem?_map]
  cases hc:(B1 p.decls e.num)[i]? with
  | none=>rfl
  | some c=>
   cases hr:r[i]? with
   | none=>
    have:r'[i]?=none:=by rw[List.getElem?_eq_none_iff] at hr ⊢;omega
    rw[this];rfl
   | some k=>
    have hil:=(List.getElem?_eq_some_iff.1 hr).1
    have hr':r'[i]?=some r'[i]:=List.getElem?_eq_getElem (by omega)
    have hcm:=List.mem_of_getElem? hc
    have F:=Kr S hcm hN
    have:=al (T (v ++ EJ p.decls c) k) (List.mem_iff_getElem?.2 ⟨i,by rw[List.getElem?_zipWith,List.getElem?_map,hc,hr];rfl⟩)
    have g:=hf (i+1) k r'[i] (by rw[q1];exact hr) (by rw[hk'];exact hr') (EJ p.decls c) (by simp[GG,h8,hc]) F.2.2.1 F.2.2.2 (by rw[this];exact ht)
    rw[hr']
    show some (T (v' ++ EJ p.decls c) r'[i])=some (T (v ++ EJ p.decls c) k)
    rw[g]
 have hb:=hB
 rw[D1 H V hN h12 h13 h7 h8] at hb
 rw[D1 H' V' hN (by rw[ho];exact h12) (by rw[ho];exact h13) (by rw[ho];exact h7) (by rw[ho];exact h8),ho,hn]
 have:e'.kids.map (T v')=e.kids.map (T v):=by
  apply List.ext_getElem?
  intro i
  rw[List.getElem?_map,List.getElem?_map]
  cases hk:e.kids[i]? with
  | none=>
   have:e'.kids[i]?=none:=by rw[List.getElem?_eq_none_iff] at hk ⊢;omega
   rw[this];rfl
  | some k=>
   have hil:=(List.getElem?_eq_some_iff.1 hk).1
   have hk':e'.kids[i]?=some e'.kids[i]:=List.getElem?_eq_getElem (by omega)
   rw[hk']
   have:=hf0 i k _ hk hk' (by simp[GG,h13,h8]) fun q=>by
    rw[if_pos (List.any_eq_true.2 ⟨T v k,List.mem_map_of_mem (List.mem_of_getElem? hk),by rw[q];rfl⟩)] at hb
    simp at hb
    exact ht hb.symm
   show some (T v' e'.kids[i])=some (T v k)
   rw[this]
 rw[this];exact hb
end
end RC



namespace RC
open Go
structure VX (p:Aa) (e:AG) (v:List Int):Prop where
 len:v.length+3 * en e≤900
 GQ :∀x∈v,CB p.decls x=true
 Ea:BG e
theorem VX.Lk {p:Aa} {e:AG} {v:List Int} (V:VX p e v):Gc p e v:=⟨by have:=V.len;omega,V.GQ,by have:=V.len;omega,V.Ea⟩
def TX (p:Aa) (N:Nat) (T:List Int→AG→Int):Prop:=∀(v:List Int) (e:AG),BG e→en e < 340→v.length+3 * en e≤1000→(∀x∈v,CB p.decls x=true)→
  ∀n1 n2,340≤n1→340≤n2→B4 N n1 p v e=some (T v e)∧BO N n2 v (Dj p) e=some (T v e)∧(T v e=-1∨CB p.decls (T v e)=true)
section
variable {p : Aa} {N : Nat} {T : List Int → AG → Int} {e : AG} {v : List Int}
theorem TX.tok (hT:TX p N T) {m:Nat} (hm:m≤340):IS p (Dj p) (B4 N 340) (BO N 340) T m:=fun v e a b c d=>hT v e a (by omega) c d 340 340 (Nat.le_refl _) (Nat.le_refl _)
theorem TX.bi (hT:TX p N T) (V:VX p e v):Ap N (BO N 340) v (Dj p) e=some (T v e):=by
 have h:=V.len
 have:=(hT v e V.Ea (by omega) (by omega) V.GQ 341 341 (by omega) (by omega)).2.1
 rwa [BO] at this
theorem TX.bs (hT:TX p N T) (V:VX p e v):BN N (B4 N 340) p v e=some (T v e):=by
 have h:=V.len
 have:=(hT v e V.Ea (by omega) (by omega) V.GQ 341 341 (by omega) (by omega)).1
 rwa [B4] at this
theorem TX.ty (hT:TX p N T) (V:VX p e v) (h:T v e≠-1):CB p.decls (T v e)=true:=by
 have h1:=V.len
 exact ((hT v e V.Ea (by omega) (by omega) V.GQ 341 341 (by omega) (by omega)).2.2).resolve_left h
theorem TX.H (hT:TX p N T) (V:VX p e v):IS p (Dj p) (B4 N 340) (BO N 340) T (en e):=hT.tok (by have:=V.len;omega)
theorem VX.H9 (V:VX p e v) {k:AG} (hk:k∈e.kids) {m:List Int} (hm:m.length≤3) (ht :∀x∈m,CB p.decls x=true):VX p k (v ++ m):=by
 have h:=V.len
 have hke:=CO hk
 refine⟨by rw[List.length_append];omega,fun x hx=>?_,V.Ea.kids k hk⟩
 rcases List.mem_append.1 hx with hx | hx
 ·exact V.GQ x hx
 ·exact ht x hx
theorem VX.cK (V:VX p e v) {k:AG} (hk:k∈e.kids):VX p k v:=by
 have:=V.H9 hk (m:=[]) (by simp) (fun x hx=>by cases hx)
 simpa using this
theorem TX.var (hT:TX p N T) (V:VX p e v) (h:e.op=12):T v e=if e.kids=[]∧0≤e.num∧e.num < (v.length:Int) then (v[e.num.toNat]?).getD (-1) else -1:=by
 have q:=hT.bi V
 unfold Ap at q
 simp only[h,decide_true,if_true] at q
 by_cases hk:e.kids=[]
 ·rw[hk] at q ⊢
  by_cases h0:e.num < 0
  ·have:¬ (0≤e.num):=by omega
   simp[AS,h0] at q
   simp[this,← q]
  ·by_cases h1:(v.length:Int)≤e.num
   ·have:¬ (e.num < (v.length:Int)):=by omega
    simp[AS,h0,h1] at q
    simp[this,← q]
   ·obtain⟨x,hx1,hx2⟩:=P8 (l:=v) (j:=e.num) (by omega) (by omega)
    have a1:0≤e.num:=by omega
    have a2:e.num < (v.length:Int):=by omega
    simp only[AS,List.length_nil,h0,h1,decide_false,Bool.false_eq_true,if_false,Option.bind_some] at q
    rw[hx1] at q
    rw[if_pos ⟨rfl,a1,a2⟩,hx2]
    simpa using q.symm
 ·have:0 < Sh.len e.kids:=by rw[AS];have:=List.length_pos_iff.2 hk;omega
  simp only[this,decide_true,if_true,Option.bind_some,Option.some.injEq] at q
  simp[hk,← q]
end
mutual
def sh (n k:Int):AG→AG | .mk o nu ks=>.mk o (if o=12∧n≤nu then nu+k else nu) (shl n k ks)
def shl (n k:Int):List AG→List AG | []=>[] | e :: l=>sh n k e :: shl n k l
end
theorem YV {n k:Int} :∀l,shl n k l=l.map (sh n k)
 | []=>by simp[shl]
 | e :: l=>by simp[shl,YV l]
theorem TK {n k:Int} (e:AG):sh n k e=.mk e.op (if e.op=12∧n≤e.num then e.num+k else e.num) (e.kids.map (sh n k)):=by cases e;simp only[sh,YV];rfl
theorem XK {n k:Int} (e:AG):(sh n k e).op=e.op:=by rw[TK];rfl
theorem Pm {n k:Int} (e:AG):(sh n k e).num=if e.op=12∧n≤e.num then e.num+k else e.num:=by rw[TK];rfl
theorem KJ {n k:Int} (e:AG):(sh n k e).kids=e.kids.map (sh n k):=by rw[TK];rfl
mutual
theorem XZ {n k:Int} :∀e,en (sh n k e)=en e
 | .mk o nu ks=>by simp only[sh,en,WD ks]
theorem WD {n k:Int} :∀l,CK (shl n k l)=CK l
 | []=>rfl
 | e :: l=>by simp only[shl,CK,XZ e,WD l]
end
section
variable {p : Aa} {N : Nat} {T : List Int → AG → Int}
theorem Zk (S:Dy p.decls p.funcs) (hN:2000000≤N) (hT:TX p N T) (v d:List Int) (hd :∀x∈d,CB p.decls x=true) :∀(c:Nat) (e:AG) (w:List Int),en e≤c→VX p e (v ++ w)→v.length+d.length+w.length+3 * en e≤900→T (v ++ w) e≠-1→
  T (v ++ d ++ w) (sh v.length d.length e)=T (v ++ w) e∧BG (sh v.length d.length e):=by
 intro c
 induction c with
 | zero=>intro e w h;have:=H0 e;omega
 | succ c ih=>
  intro e w hc V hl ht
  have K :∀k∈e.kids,BG (sh v.length d.length k):=fun k hk=>by
   obtain⟨m,m1,m2,m3⟩:=ar (hT.H V) V.Lk S hN (hT.bi V) ht k hk
   have hke:=CO hk
   have:=ih k (w ++ m) (by omega) (by rw[← List.append_assoc];exact V.H9 hk m1 m2) (by simp;omega) (by rw[← List.append_assoc];exact m3)
   exact this.2
  have hI:=V.Ea
  have Vt :∀x∈v ++ d ++ w,CB p.decls x=true:=fun x hx=>by
   rcases List.mem_append.1 hx with hx | hx
   ·rcases List.mem_append.1 hx with hx | hx
    ·exact V.GQ x (by simp[hx])
    ·exact hd x hx
   ·exact V.GQ x (by simp[hx])
  have Ea:BG (sh v.length d.length e):=by
   have hop:=hI.op
   have hnum:=hI.num
   have hkl:=hI.I7
   refine .mk (by rw[XK];exact hop) ?_ (by rw[KJ];simpa using hkl) (fun k hk=>?_)
   ·rw[Pm]
    by_cases h12:e.op=12
    ·have q:=hT.var V h12
     by_cases hr:e.kids=[]∧0≤e.num∧e.num < ((v ++ w).length:Int)
     ·have hlv:=V.len
      split
      ·have h1:=hr.2.2
       have h2:=hr.2.1
       unfold FY at *
       omega
      ·exact hnum
     ·rw[if_neg hr] at q;exact absurd q ht
    ·rw[if_neg (fun h=>h12 h.1)];exact hnum
   ·rw[KJ] at hk
    obtain⟨k0,hk0,rfl⟩:=List.mem_map.1 hk
    exact K k0 hk0
  have V':VX p (sh v.length d.length e) (v ++ d ++ w):=⟨by rw[XZ];simp;omega,Vt,Ea⟩
  refine⟨?_,Ea⟩
  by_cases h12:e.op=12
  ·have q:=hT.var V h12
   have q':=hT.var V' (by rw[XK];exact h12)
   by_cases hr:e.kids=[]∧0≤e.num∧e.num < ((v ++ w).length:Int)
   ·obtain⟨r1,r2,r3⟩:=hr
    rw[if_pos ⟨r1,r2,r3⟩] at q
    rw[q,q']
    rw[KJ,Pm,r1,List.map_nil]
    simp only[h12,true_and]
    simp only[List.length_append] at r3
    by_cases hv:(v.length:Int)≤e.num
    ·rw[if_pos hv,if_pos ⟨by omega,by simp only[List.length_append];omega⟩]
     have e1:(e.num+(d.length:Int)).toNat=e.num.toNat+d.length:=by omega
     rw[e1,List.getElem?_append_right (by simp;omega),List.getElem?_append_right (by omega)]
     congr 2
     simp;omega
    ·rw[if_neg hv,if_pos ⟨by omega,by simp only[List.length_append];omega⟩]
     rw[List.append_assoc,List.getElem?_append_left (by omega),List.getElem?_append_left (by omega)]
   ·rw[if_neg hr] at q;exact absurd q ht
  ·have hB:=PL (e':=sh v.length d.length e) (v':=v ++ d ++ w) (hT.H V) (hT.H V') V.Lk V'.Lk S hN (hT.bi V) ht (XK e) (by rw[Pm,if_neg (fun h=>h12 h.1)]) h12 (by rw[KJ];simp) (fun i k k' hk hk' m _ hm3 hmt hkt=>by
    rw[KJ,List.getElem?_map,hk] at hk'
    obtain rfl:sh v.length d.length k=k':=by simpa using hk'
    have hkm:=List.mem_of_getElem? hk
    have hke:=CO hkm
    rw[List.append_assoc v w m] at hkt ⊢
    rw[List.append_assoc (v ++ d) w m]
    exact (ih k (w ++ m) (by omega) (by rw[← List.append_assoc];exact V.H9 hkm hm3 hmt) (by simp;omega) hkt).1)
   have:=hT.bi V'
   rw[hB] at this
   exact (Option.some.inj this).symm
def lt (n:Nat):Nat→List AG→AG→AG
 | _,[],b=>b
 | k,x :: r,b=>.mk 13 0 [sh n k x,lt n (k+1) r b]
theorem Xu {n:Nat} :∀(xs:List AG) (k:Nat) (b:AG),en (lt n k xs b)=xs.length+CK xs+en b
 | [],k,b=>by simp[lt,CK]
 | x :: r,k,b=>by
  simp only[lt,en,CK,XZ,Xu r,List.length_cons];omega
theorem aP (S:Dy p.decls p.funcs) (hN:2000000≤N) (hT:TX p N T) (v:List Int) (hv :∀x∈v,CB p.decls x=true) :∀(xs:List AG) (d:List Int) (b:AG),(∀x∈d,CB p.decls x=true)→v.length+d.length+3 * (xs.length+CK xs+en b)≤900→(∀x∈xs,BG x∧T v x≠-1)→BG b→
  T (v ++ d) (lt v.length d.length xs b)=T (v ++ d ++ xs.map (T v)) b∧BG (lt v.length d.length xs b)
 | [],d,b,_,_,_,hb=>by simp[lt,hb]
 | x :: r,d,b,hd,hl,hx,hb=>by
  obtain⟨x1,x2⟩:=hx x (by simp)
  simp only[List.length_cons,CK] at hl
  have hep:=H0 x
  have Vx:VX p x (v ++ []):=⟨by simp;omega,by simpa using hv,x1⟩
  have s:=Zk S hN hT v d hd (en x) x [] (Nat.le_refl _) Vx (by simp;omega) (by simpa using x2)
  rw[List.append_nil,List.append_nil] at s
  have htx:CB p.decls (T v x)=true:=by
   have:=hT.ty Vx (by simpa using x2)
   simpa using this
  have hd' :∀y∈d ++ [T v x],CB p.decls y=true:=fun y hy=>by
   rcases List.mem_append.1 hy with hy | hy
   ·exact hd y hy
   ·simp only[List.mem_singleton] at hy;rw[hy];exact htx
  have r1:=aP S hN hT v hv r (d ++ [T v x]) b hd' (by simp;omega) (fun y hy=>hx y (by simp[hy])) hb
  rw[List.length_append,List.length_singleton] at r1
  have Ea:BG (lt v.length d.length (x :: r) b):=by
   refine .mk (show FY 13 by unfold FY;omega) (show FY 0 by unfold FY;omega) (by simp[lt,AG.kids]) (fun k hk=>?_)
   simp only[lt,AG.kids,List.mem_cons,List.not_mem_nil,or_false] at hk
   rcases hk with rfl | rfl
   ·exact s.2
   ·exact r1.2
  have hen:=Xu (n:=v.length) (x :: r) d.length b
  simp only[List.length_cons,CK] at hen
  have V:VX p (lt v.length d.length (x :: r) b) (v ++ d):=⟨by rw[hen,List.length_append];omega,fun y hy=>by
   rcases List.mem_append.1 hy with hy | hy
   ·exact hv y hy
   ·exact hd y hy,Ea⟩
  refine⟨?_,Ea⟩
  have q:=(TM (N:=N) (hT.H V) V.Lk rfl (a:=sh v.length d.length x) (b:=lt v.length (d.length+1) r b) rfl rfl (by rw[s.1];exact x2)).1
  rw[hT.bi V] at q
  rw[Option.some.inj q,s.1]
  have:=r1.1
  rw[← List.append_assoc] at this
  rw[this]
  simp
end
end RC



namespace RC
open Go
def Tt (x:Int):Int:=if x < -999 then -999 else if 999 < x then 999 else x
def U6 (o a b:Int):Int:=if o=1 then Tt (a+b) else if o=2 then Tt (a - b) else if o=3 then Tt (a * b) else if a < b then 1 else 0
def ci (D:List Ab) (t c:Int):Nat:=(c - (nc (D.take (t - 1).toNat):Int)).toNat
def LS (D:List Ab) (n:Nat) (o nu:Int) (l:List AG):AG:=
 if o=1∨o=2∨o=3∨o=4 then
  match l with
  | a :: b :: _=>if a.op=0∧b.op=0 then .mk 0 (U6 o a.num b.num) [] else .mk o nu l
  | _=>.mk o nu l
 else if o=7 then
  match l with
  | a :: b :: c :: _=>if a.op=0 then (if a.num=0 then c else b) else .mk o nu l
  | _=>.mk o nu l
 else if o=8 then
  match l with
  | a :: r=>if a.op=6 then (match r[ci D nu a.num]? with | some b=>lt n 0 a.kids b | none=>.mk o nu l) else .mk o nu l
  | _=>.mk o nu l
 else .mk o nu l
mutual
def fd (D:List Ab) (n:Nat):AG→AG
 | .mk o nu k=>LS D n o nu (Jn D n o nu 0 k)
def Jn (D:List Ab) (n:Nat) (o nu:Int):Nat→List AG→List AG
 | _,[]=>[]
 | i,e :: l=>fd D (n+GG D o nu i) e :: Jn D n o nu (i+1) l
end
theorem ah {D:List Ab} {n:Nat} (e:AG):fd D n e=LS D n e.op e.num (Jn D n e.op e.num 0 e.kids):=by cases e;rw[fd];rfl
theorem PO {D:List Ab} {n:Nat} {o nu:Int} :∀(l:List AG) (i:Nat),(Jn D n o nu i l).length=l.length
 | [],_=>rfl
 | e :: l,i=>by simp[Jn,PO l]
theorem Pe {D:List Ab} {n:Nat} {o nu:Int} :∀(l:List AG) (j i:Nat),(Jn D n o nu j l)[i]?=(l[i]?).map (fd D (n+GG D o nu (j+i)))
 | [],j,i=>by simp[Jn]
 | e :: l,j,0=>by simp[Jn]
 | e :: l,j,i+1=>by
  simp only[Jn,List.getElem?_cons_succ]
  rw[Pe l (j+1) i,show j+1+i=j+(i+1) by omega]
theorem bc (x:Int):-999≤Tt x∧Tt x≤999:=by unfold Tt;split <;> (try split) <;> omega
theorem bu (o a b:Int):-999≤U6 o a b∧U6 o a b≤999:=by
 unfold U6
 repeat' split
 all_goals first | exact bc _ | omega
theorem WA :∀(D:List Ab) (k c t:Nat) (x:BU),Hm D k c=some (t,x)→∃d i,D[t - 1 - k]?=some d∧d.cons[i]?=some x∧c=nc (D.take (t - 1 - k)) + i∧k < t
 | [],k,c,t,x,h=>by simp[Hm] at h
 | d :: r,k,c,t,x,h=>by
  unfold Hm at h
  cases hx:d.cons[c]? with
  | some y=>
   rw[hx] at h
   simp only[Option.some.injEq,Prod.mk.injEq] at h
   obtain⟨rfl,rfl⟩:=h
   refine⟨d,c,by simp,hx,?_,by omega⟩
   rw[show k+1 - 1 - k=0 by omega];simp[nc]
  | none=>
   rw[hx] at h
   have hc:d.cons.length≤c:=by simpa using hx
   obtain⟨d',i,h1,h2,h3,h4⟩:=WA r (k+1) (c - d.cons.length) t x h
   have e:t - 1 - k=(t - 1 - (k+1)) + 1:=by omega
   refine⟨d',i,by rw[e];simpa using h1,h2,?_,by omega⟩
   rw[e,List.take_succ_cons]
   simp only[nc,List.map_cons,List.sum_cons] at h3 ⊢
   omega
theorem Q5 {D:List Ab} {c t:Nat} {x:BU} (h:Hm D 0 c=some (t,x)):(B1 D (t:Int))[ci D (t:Int) (c:Int)]?=some (c:Int)∧nc (D.take (t - 1)) + ci D (t:Int) (c:Int)=c:=by
 obtain⟨d,i,h1,h2,h3,h4⟩:=WA D 0 c t x h
 rw[Nat.sub_zero] at h1 h3
 have hil:=(List.getElem?_eq_some_iff.1 h2).1
 have htl:=(List.getElem?_eq_some_iff.1 h1).1
 have e:((t:Int) - 1).toNat=t - 1:=by omega
 have eci:ci D (t:Int) (c:Int)=i:=by unfold ci;rw[e];omega
 refine⟨?_,by rw[eci];omega⟩
 rw[eci]
 unfold B1
 rw[if_pos ⟨by omega,by omega⟩,e,h1,List.getElem?_map]
 simp only[Option.elim_some]
 rw[List.getElem?_range hil]
 show some ((nc (D.take (t - 1)):Int) + (i:Int))=_
 congr 1;omega
theorem Us {D:List Ab} {t:Int} {i j:Nat} {c:Int} (h1:(B1 D t)[i]?=some c) (h2:(B1 D t)[j]?=some c):i=j:=by
 unfold B1 at h1 h2
 split at h1
 ·rename_i h
  rw[if_pos h] at h2
  rw[List.getElem?_map,Option.map_eq_some_iff] at h1 h2
  obtain⟨a,ha,h1⟩:=h1
  obtain⟨b,hb,h2⟩:=h2
  have ha1:=(List.getElem?_eq_some_iff.1 ha).1
  have hb1:=(List.getElem?_eq_some_iff.1 hb).1
  rw[List.length_range] at ha1 hb1
  rw[List.getElem?_range ha1] at ha
  rw[List.getElem?_range hb1] at hb
  cases ha;cases hb
  omega
 ·simp at h1
section
variable {p : Aa} {N : Nat} {T : List Int → AG → Int} {e : AG} {v : List Int}
theorem TL (S:Dy p.decls p.funcs) (hN:2000000≤N) (hT:TX p N T) (V:VX p e v) (h:e.op=6) (ht:T v e≠-1) :
  ∃(c t:Nat) (x:BU),e.num=(c:Int)∧Hm p.decls 0 c=some (t,x)∧T v e=(t:Int)∧e.kids.map (T v)=x.fields∧EJ p.decls (c:Int)=x.fields∧c < nc p.decls:=by
 have hD:=S.Lj
 have hn:=S.nc
 have q:=hT.bs V
 unfold BN at q
 simp only[h,Int.reduceEq,decide_true,decide_false,Bool.false_eq_true,if_true,if_false,Option.bind_some] at q
 by_cases hr:0≤e.num∧e.num < (nc p.decls:Int)
 ·obtain⟨c,hc⟩:=Int.eq_ofNat_of_zero_le hr.1
  have hc2:c < nc p.decls:=by omega
  obtain⟨t,x,e1,e2⟩:=JR (D:=p.decls) (by omega) (by omega) hc2 hN
  obtain⟨t',x',e1',e3⟩:=H7 (D:=p.decls) (by omega) (by omega) hc2 hN
  rw[e1] at e1'
  cases e1'
  obtain⟨g1,g2,d,g3,g4⟩:=KB e1
  rw[hc,e2,e3] at q
  simp only[Option.bind_some] at q
  rw[Ni (hT.H V) V.Lk hN,if_pos (by simp;omega)] at q
  by_cases b:e.kids.map (T v)=x.fields
  ·simp[b,Sh.cont] at q
   exact⟨c,t,x,hc,e1,q.symm,b,by simp[EJ,e1],hc2⟩
  ·simp[b,Sh.cont] at q
   exact absurd q.symm ht
 ·rw[Kz (by omega) (by omega) (by omega) hN] at q
  simp[Sh.cont] at q
  exact absurd q.symm ht
theorem bf (hN:2000000≤N) (hT:TX p N T) {z:Int} (h:-999≤z∧z≤999) (hv:v.length≤894) (hvt :∀x∈v,CB p.decls x=true):T v (.mk 0 z [])=0∧BG (.mk 0 z []):=by
 have Ea:BG (.mk 0 z []):=.mk (show FY 0 by unfold FY;omega) (show FY z by unfold FY;omega) (by simp[AG.kids]) (fun k hk=>by simp[AG.kids] at hk)
 have V:VX p (.mk 0 z []) v:=⟨by simp[en,CK];omega,hvt,Ea⟩
 have q:=hT.bs V
 unfold BN at q
 simp only[AG.op,AG.kids,AG.num,Int.reduceEq,decide_true,if_true,AS,List.length_nil,Option.bind_some] at q
 rw[DN] at q
 simp[h.1,h.2,Sh.cont] at q
 exact⟨q.symm,Ea⟩
theorem SW (hN:2000000≤N) (hT:TX p N T) (V:VX p e v) (h:e.op=1∨e.op=2∨e.op=3∨e.op=4) (ht:T v e≠-1):T v e=0∧∃a b,e.kids=[a,b]:=by
 have q:=hT.bs V
 have h0:¬ e.op=0:=by omega
 have h12:¬ e.op=12:=by omega
 have hor:(if decide (e.op=1)=true then some true else if decide (e.op=2)=true then some true else if decide (e.op=3)=true then some true else some (decide (e.op=4)))=some true:=by
  rcases h with h | h | h | h <;> simp[h]
 unfold BN at q
 simp only[h0,h12,decide_false,Bool.false_eq_true,if_false] at q
 rw[hor] at q
 simp only[Option.bind_some,if_true] at q
 by_cases hn:e.num=0
 ·simp only[hn,decide_true,if_true] at q
  have aq:=NC (hT.H V) V.Lk hN 2
  rw[show ((2:Nat):Int)=2 from rfl] at aq
  rw[aq] at q
  by_cases hk:e.kids.map (T v)=List.replicate 2 0
  ·simp[hk,Sh.cont] at q
   refine⟨q.symm,?_⟩
   have:=congrArg List.length hk
   match hq:e.kids,this with
   | [a,b],_=>exact⟨a,b,rfl⟩
   | [],h=>simp at h
   | [_],h=>simp at h
   | _ :: _ :: _ :: _,h=>simp at h
  ·have hk':¬ e.kids.map (T v)=[0,0]:=hk
   simp[hk',Sh.cont] at q
   exact absurd q.symm ht
 ·simp[hn,Sh.cont] at q
  exact absurd q.symm ht
end
end RC



namespace RC
open Go
theorem bt {D:List Ab} {n:Nat} {o nu:Int} {l:List AG} (h3:o=8→∀a∈l,a.op=6→a.kids.length≤3):en (LS D n o nu l)≤CK l+2:=by
 unfold LS
 split
 ·split
  ·split
   ·simp[en,CK]
   ·rw[en];omega
  ·rw[en];omega
 ·split
  ·split
   ·rename_i a b c r
    split
    ·simp only[CK]
     have:=H0 a
     split <;> omega
    ·rw[en];omega
   ·rw[en];omega
  ·split
   ·rename_i h8
    split
    ·rename_i a r
     split
     ·rename_i ha
      split
      ·rename_i b hb
       rw[Xu]
       have:=h3 h8 a (by simp) ha
       have hbm:=GJ (List.mem_of_getElem? hb)
       have:=Em a
       simp only[CK];omega
      ·rw[en];omega
     ·rw[en];omega
    ·rw[en];omega
   ·rw[en];omega
section
variable {p : Aa} {N : Nat} {T : List Int → AG → Int}
structure VF (p:Aa) (e:AG) (v:List Int):Prop where
 len:v.length+6 * en e≤900
 GQ :∀x∈v,CB p.decls x=true
 Ea:BG e
theorem VF.x {e:AG} {v:List Int} (V:VF p e v):VX p e v:=⟨by have:=V.len;omega,V.GQ,V.Ea⟩
theorem VF.H9 {e:AG} {v:List Int} (V:VF p e v) {k:AG} (hk:k∈e.kids) {m:List Int} (hm:m.length≤3) (ht :∀x∈m,CB p.decls x=true):VF p k (v ++ m):=by
 have h:=V.len
 have hke:=CO hk
 exact⟨by rw[List.length_append];omega,(V.x.H9 hk hm ht).GQ,V.Ea.kids k hk⟩
theorem My (S:Dy p.decls p.funcs) (hN:2000000≤N) (hT:TX p N T) {e:AG} {v:List Int} (V:VX p e v) (ht:T v e≠-1) {i:Nat} {k:AG} (hk:e.kids[i]?=some k) :
  ∃m:List Int,m.length=GG p.decls e.op e.num i∧m.length≤3∧(∀x∈m,CB p.decls x=true)∧T (v ++ m) k≠-1:=by
 have hB:=hT.bi V
 have nil:GG p.decls e.op e.num i=0→T v k≠-1→∃m:List Int,m.length=GG p.decls e.op e.num i∧m.length≤3∧(∀x∈m,CB p.decls x=true)∧T (v ++ m) k≠-1:=fun hx h=>⟨[],by rw[hx];rfl,by simp,fun x hx=>(by cases hx),by simpa using h⟩
 by_cases h12:e.op=12
 ·have q:=hT.var V h12
  by_cases hr:e.kids=[]∧0≤e.num∧e.num < (v.length:Int)
  ·rw[hr.1] at hk;simp at hk
  ·rw[if_neg hr] at q;exact absurd q ht
 by_cases h13:e.op=13
 ·obtain⟨a,b,q1,q2,q3,q4,q5⟩:=S6 (hT.H V) V.Lk h13 hB ht
  rw[q1] at hk
  match i,hk with
  | 0,hk=>simp at hk;subst hk;exact nil (by simp[GG,h13]) q3
  | 1,hk=>simp at hk;subst hk;exact⟨[T v a],by simp[GG,h13],by simp,by simp[q4],by rw[← q5];exact ht⟩
 by_cases h7:e.op=7
 ·obtain⟨a,b,c,q1,q2,q3,q4,q5⟩:=Rv (hT.H V) V.Lk hN h7 hB ht
  have hx:GG p.decls e.op e.num i=0:=by simp[GG,h7]
  rw[q1] at hk
  match i,hk with
  | 0,hk=>simp at hk;subst hk;exact nil hx (by rw[q3];omega)
  | 1,hk=>simp at hk;subst hk;exact nil hx (by rw[← q4];exact ht)
  | 2,hk=>simp at hk;subst hk;exact nil hx (by rw[← q5];exact ht)
 by_cases h8:e.op=8
 ·obtain⟨a,r,q1,q2,q3,q4,q5⟩:=H6 (hT.H V) V.Lk S hN h8 hB ht
  have hnum:e.num≠-1:=fun q=>q2 (by rw[q];simp[B1])
  rw[q1] at hk
  match i,hk with
  | 0,hk=>simp at hk;subst hk;exact nil (by simp[GG,h8]) (by rw[q4];exact hnum)
  | i+1,hk=>
   simp only[List.getElem?_cons_succ] at hk
   have hil:=(List.getElem?_eq_some_iff.1 hk).1
   have hc:(B1 p.decls e.num)[i]?=some (B1 p.decls e.num)[i]:=List.getElem?_eq_getElem (by omega)
   have F:=Kr S (List.mem_of_getElem? hc) hN
   have:=Q1 q5 ht (T (v ++ EJ p.decls (B1 p.decls e.num)[i]) k) (List.mem_iff_getElem?.2 ⟨i,by unfold Wp;rw[List.getElem?_zipWith,List.getElem?_map,hc,hk];rfl⟩)
   exact⟨_,by simp[GG,h8,hc],F.2.2.1,F.2.2.2,by rw[this];exact ht⟩
 rw[D1 (hT.H V) V.Lk hN h12 h13 h7 h8] at hB
 by_cases h:(e.kids.map (T v)).any (fun t=>decide (t < 0))=true
 ·rw[if_pos h] at hB;simp at hB;exact absurd hB.symm ht
 ·exact nil (by simp[GG,h13,h8]) fun hq=>h (List.any_eq_true.2 ⟨T v k,List.mem_map_of_mem (List.mem_of_getElem? hk),by rw[hq];rfl⟩)
theorem bd {e:AG} (h:BG e) {l:List AG} (hl:l.length=e.kids.length) (hk :∀k∈l,BG k):BG (.mk e.op e.num l):=
 .mk (show FY e.op from h.op) (show FY e.num from h.num) (by show l.length≤_;rw[hl];exact h.I7) hk
theorem bh (S:Dy p.decls p.funcs) (hN:2000000≤N) (hT:TX p N T) {v:List Int} {o nu:Int} {l:List AG} (V:VX p (.mk o nu l) v) (hl:v.length+3 * (CK l+2)≤900) (ht:T v (.mk o nu l)≠-1) :
  T v (LS p.decls v.length o nu l)=T v (.mk o nu l)∧BG (LS p.decls v.length o nu l):=by
 have same:T v (.mk o nu l)=T v (.mk o nu l)∧BG (.mk o nu l):=⟨rfl,V.Ea⟩
 have hlv:=V.len
 unfold LS
 by_cases ha:o=1∨o=2∨o=3∨o=4
 ·rw[if_pos ha]
  split
  ·split
   ·obtain⟨h1,h2⟩:=bf (v:=v) hN hT (bu o _ _) (by omega) V.GQ
    exact⟨by rw[h1,(SW hN hT V ha ht).1],h2⟩
   ·exact same
  ·exact same
 rw[if_neg ha]
 by_cases h7:o=7
 ·rw[if_pos h7]
  obtain⟨a,b,c,q1,q2,q3,q4,q5⟩:=Rv (hT.H V) V.Lk hN h7 (hT.bi V) ht
  have q1:l=[a,b,c]:=q1
  subst q1
  dsimp only
  split
  ·split
   ·exact⟨q5.symm,V.Ea.kids c (by simp[AG.kids])⟩
   ·exact⟨q4.symm,V.Ea.kids b (by simp[AG.kids])⟩
  ·exact same
 rw[if_neg h7]
 by_cases h8:o=8
 ·rw[if_pos h8]
  obtain⟨a,r,q1,q2,q3,q4,q5⟩:=H6 (hT.H V) V.Lk S hN h8 (hT.bi V) ht
  have q1:l=a :: r:=q1
  subst q1
  dsimp only
  by_cases h6:a.op=6
  ·rw[if_pos h6]
   have hnum:nu≠-1:=fun q=>q2 (by show B1 p.decls nu=[];rw[q];simp[B1])
   have q4:T v a=nu:=q4
   have Va:VX p a v:=V.cK (by simp[AG.kids])
   obtain⟨c,t,x,c1,c2,c3,c4,c5,c6⟩:=TL S hN hT Va h6 (by rw[q4];exact hnum)
   obtain⟨d1,d2⟩:=Q5 c2
   rw[← c3,q4,← c1] at d1
   have q3:r.length=(B1 p.decls nu).length:=q3
   have hil:=(List.getElem?_eq_some_iff.1 d1).1
   have hb:r[ci p.decls nu a.num]?=some r[ci p.decls nu a.num]:=List.getElem?_eq_getElem (by omega)
   rw[hb]
   dsimp only
   have F:=Kr S (List.mem_of_getElem? d1) hN
   have tb:=Q1 q5 ht (T (v ++ EJ p.decls a.num) r[ci p.decls nu a.num]) (List.mem_iff_getElem?.2 ⟨ci p.decls nu a.num,by
    show (List.zipWith _ ((B1 p.decls nu).map (EJ p.decls)) r)[_]?=_
    rw[List.getElem?_zipWith,List.getElem?_map,d1,hb];rfl⟩)
   have hbm:=GJ (List.mem_of_getElem? hb)
   have hae:=Em a
   have hfl:a.kids.length=(EJ p.decls a.num).length:=by
    rw[c1,c5,← c4,List.length_map]
   have hf3:=F.2.2.1
   simp only[CK] at hl
   have L:=aP S hN hT v V.GQ a.kids [] r[ci p.decls nu a.num] (by simp) (by simp;omega) (fun y hy=>⟨Va.Ea.kids y hy,fun hq=>by
    have hy2:T v y∈a.kids.map (T v):=List.mem_map_of_mem hy
    rw[c4,← c5,← c1] at hy2
    have:=IZ (F.2.2.2 _ hy2)
    rw[hq] at this;omega⟩) (V.Ea.kids _ (by simp[AG.kids,List.mem_of_getElem? hb]))
   simp only[List.append_nil,List.length_nil] at L
   rw[c4,← c5,← c1] at L
   exact⟨by rw[L.1,tb],L.2⟩
  ·rw[if_neg h6];exact same
 ·rw[if_neg h8];exact same
theorem Zr (S:Dy p.decls p.funcs) (hN:2000000≤N) (hT:TX p N T) :∀(c:Nat) (e:AG) (v:List Int),en e≤c→VF p e v→T v e≠-1→
  (T v (fd p.decls v.length e)=T v e∧BG (fd p.decls v.length e)∧en (fd p.decls v.length e)≤2 * en e)∧
  (T v (.mk e.op e.num (Jn p.decls v.length e.op e.num 0 e.kids))=T v e∧VX p (.mk e.op e.num (Jn p.decls v.length e.op e.num 0 e.kids)) v∧CK (Jn p.decls v.length e.op e.num 0 e.kids)≤2 * CK e.kids):=by
 intro c
 induction c with
 | zero=>intro e _ h;have:=H0 e;omega
 | succ c ih=>
  intro e v hc V ht
  have hlv:=V.len
  have K :∀(i:Nat) k,e.kids[i]?=some k→BG (fd p.decls (v.length+GG p.decls e.op e.num i) k)∧en (fd p.decls (v.length+GG p.decls e.op e.num i) k)≤2 * en k:=fun i k hk=>by
   obtain⟨m,m1,m2,m3,m4⟩:=My S hN hT V.x ht hk
   have hke:=CO (List.mem_of_getElem? hk)
   have:=(ih k (v ++ m) (by omega) (V.H9 (List.mem_of_getElem? hk) m2 m3) m4).1
   rw[List.length_append,m1] at this
   exact⟨this.2.1,this.2.2⟩
  have hsz :∀(l:List AG) (j:Nat),(∀i k,l[i]?=some k→en (fd p.decls (v.length+GG p.decls e.op e.num (j+i)) k)≤2 * en k)→CK (Jn p.decls v.length e.op e.num j l)≤2 * CK l:=by
   intro l
   induction l with
   | nil=>intro j _;simp[Jn,CK]
   | cons a l ihl=>
    intro j h
    have h0:=h 0 a rfl
    have h1:=ihl (j+1) (fun i k hk=>by have:=h (i+1) k hk;rwa [show j+1+i=j+(i+1) by omega])
    simp only[Jn,CK]
    rw[Nat.add_zero] at h0
    omega
  have sz:=hsz e.kids 0 (fun i k hk=>by rw[Nat.zero_add];exact (K i k hk).2)
  have he:=Em e
  have hkk :∀k∈Jn p.decls v.length e.op e.num 0 e.kids,BG k:=fun k hk=>by
   obtain⟨i,hi⟩:=List.mem_iff_getElem?.1 hk
   rw[Pe,Nat.zero_add,Option.map_eq_some_iff] at hi
   obtain⟨k0,hk0,rfl⟩:=hi
   exact (K i k0 hk0).1
  have Ea:BG (.mk e.op e.num (Jn p.decls v.length e.op e.num 0 e.kids)):=bd V.Ea (PO _ _) hkk
  have V1:VX p (.mk e.op e.num (Jn p.decls v.length e.op e.num 0 e.kids)) v:=⟨by rw[en];omega,V.GQ,Ea⟩
  have t1:T v (.mk e.op e.num (Jn p.decls v.length e.op e.num 0 e.kids))=T v e:=by
   by_cases h12:e.op=12
   ·have q:=hT.var V.x h12
    have q':=hT.var V1 h12
    by_cases hr:e.kids=[]∧0≤e.num∧e.num < (v.length:Int)
    ·have hf:Jn p.decls v.length e.op e.num 0 e.kids=[]:=by rw[hr.1];rfl
     rw[q,q',if_pos hr]
     exact if_pos ⟨hf,hr.2⟩
    ·rw[if_neg hr] at q;exact absurd q ht
   ·have hB:=PL (e':=.mk e.op e.num (Jn p.decls v.length e.op e.num 0 e.kids)) (v':=v) (hT.H V.x) (hT.H V1) V.x.Lk V1.Lk S hN (hT.bi V.x) ht rfl rfl h12 (PO _ _) (fun i k k' hk hk' m hm1 hm3 hmt hkt=>by
     have hk':(Jn p.decls v.length e.op e.num 0 e.kids)[i]?=some k':=hk'
     rw[Pe,Nat.zero_add,hk] at hk'
     obtain rfl:fd p.decls (v.length+GG p.decls e.op e.num i) k=k':=by simpa using hk'
     have hkm:=List.mem_of_getElem? hk
     have hke:=CO hkm
     have:=(ih k (v ++ m) (by omega) (V.H9 hkm hm3 hmt) hkt).1.1
     rwa [List.length_append,hm1] at this)
    have:=hT.bi V1
    rw[hB] at this
    exact (Option.some.inj this).symm
  have t2:=bh S hN hT V1 (by omega) (by rw[t1];exact ht)
  rw[ah]
  refine⟨⟨by rw[t2.1,t1],t2.2,?_⟩,t1,V1,sz⟩
  have:=bt (D:=p.decls) (n:=v.length) (o:=e.op) (nu:=e.num) (l:=Jn p.decls v.length e.op e.num 0 e.kids) (fun h8 a ha h6=>by
   obtain⟨a0,r,q1,q2,q3,q4,q5⟩:=H6 (hT.H V1) V1.Lk S hN h8 (hT.bi V1) (by rw[t1];exact ht)
   obtain⟨i,hi⟩:=List.mem_iff_getElem?.1 ha
   obtain⟨m,m1,m2,m3,m4⟩:=My S hN hT V1 (by rw[t1];exact ht) hi
   have Vk:=V1.H9 ha m2 m3
   obtain⟨c,t,x,c1,c2,c3,c4,c5,c6⟩:=TL S hN hT Vk h6 m4
   obtain⟨g1,g2,d,g3,g4⟩:=KB c2
   have:=(S.Kv d g3 x g4).1
   have h:=congrArg List.length c4
   rw[List.length_map] at h
   omega)
  omega
end
end RC

