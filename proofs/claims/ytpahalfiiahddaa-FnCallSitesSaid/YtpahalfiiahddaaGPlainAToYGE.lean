import Derived.Test.YtpahalfiiahddaaGEncToEncB
import Derived.Test.YtpahalfiiahddaaGHADefsToFCDefs

namespace RC
open Go
theorem BN {n:Int} (h1:-9223372036854775808≤n) (h2:n≤9223372036854775807):Sh.w n=n:=Abs.wrap_i64 h1 h2
theorem Aa {α:Type} (l:List α):Sh.len l=(l.length:Int):=rfl
theorem Sg {α:Type} (l:List α) (i:Nat):Sh.get l (i:Int)=l[i]?:=by
 unfold Sh.get;rw[if_pos (Int.natCast_nonneg i)];simp
theorem BL {α:Type} {l:List α} {i:Nat} {x:α} (h:l[i]?=some x):Sh.get l (i:Int)=some x:=by rw[Sg,h]
theorem Mu {α:Type} {l:List α} {j:Int} (h0:0≤j) (h1:j < l.length) :∃x,Sh.get l j=some x∧l[j.toNat]?=some x:=by
 have h:l[j.toNat]?=some (l[j.toNat]'(by omega)):=List.getElem?_eq_getElem (by omega)
 exact⟨_,by unfold Sh.get;rw[if_pos h0,h],h⟩
theorem RM {α:Type} {l:List α} {j:Int} (h0:0≤j):Sh.get l j=l[j.toNat]?:=by unfold Sh.get;rw[if_pos h0]
theorem Pc {α:Type} (l:List α) (i:Nat) (x:α):Sh.put l (i:Int) x=l.set i x:=by simp[Sh.put]
theorem Me {α:Type} (x:α) (n b:Nat) (h:n * b≤281474976710656) (h2:n≤9223372036854775807):Sh.mk x (n:Int) b=some (List.replicate n x):=by
 unfold Sh.mk
 rw[if_pos ⟨by omega,by rw[← Int.natCast_mul];omega,by omega⟩];simp
theorem GW {α:Type} (l m:List α) (b:Nat) (h:(l.length+m.length) * b≤140737488355328) (h2:l.length+m.length≤9223372036854775807):Sh.app l m b=some (l ++ m):=by
 unfold Sh.app;rw[if_pos ⟨h,h2⟩]
theorem Vl {α:Type} {l:List α} {j:Nat} (h:j≤l.length):Sh.hi l (j:Int)=some (l.take j):=by
 unfold Sh.hi;rw[if_pos ⟨by omega,by omega⟩];simp
theorem Bl (len:Nat) (P:Nat→Nat→Prop) (h0 :∀n,P (n+1) len) (hs :∀n i,i < len→P n (i+1)→P (n+1) i) :∀{N i:Nat},i≤len→len - i < N→P N i:=by
 intro N i hi hN
 obtain⟨k,hk⟩ :∃k,len - i=k:=⟨_,rfl⟩
 induction k generalizing N i with
 | zero=>
  obtain⟨n,rfl⟩ :∃n,N=n+1:=⟨N - 1,by omega⟩
  have:i=len:=by omega
  subst this;exact h0 n
 | succ k ih=>
  obtain⟨n,rfl⟩ :∃n,N=n+1:=⟨N - 1,by omega⟩
  exact hs n i (by omega) (ih (by omega) (by omega) (by omega))
theorem Bq {α:Type} {l:List α} {i:Nat} (h:i < l.length) :∃x,l[i]?=some x∧x∈l:=⟨l[i],List.getElem?_eq_getElem h,List.getElem_mem h⟩
theorem Gs {α:Type} {l:List α} {j:Nat} {x:α} (h:l[j]?=some x):l.take (j+1)=l.take j ++ [x]:=by rw[List.take_add_one,h];rfl
theorem drop_cons {α:Type} {l:List α} {j:Nat} {x:α} (h:l[j]?=some x):l.drop j=x :: l.drop (j+1):=by
 obtain⟨hj,rfl⟩:=List.getElem?_eq_some_iff.1 h
 exact List.drop_eq_getElem_cons hj
def Y0 (h:List Cell):Nat:=(h.map fun c=>c.fields.length).sum
def FO (h:List Cell):Nat:=h.length+Y0 h
end RC



namespace RC
open Go
def Ak {α:Type} (x:Option α) (Q:α→Prop):Prop:=∃v,x=some v∧Q v
theorem Ak.some {α:Type} {v:α} {Q:α→Prop} (h:Q v):Ak (some v) Q:=⟨v,rfl,h⟩
theorem Ak.mono {α:Type} {x:Option α} {Q R:α→Prop} (h:Ak x Q) (g :∀v,Q v→R v):Ak x R:=
 let ⟨v,e,q⟩:=h;⟨v,e,g v q⟩
theorem Ak.bind {α β:Type} {x:Option α} {f:α→Option β} {R:α→Prop} {Q:β→Prop} (h:Ak x R) (k :∀v,R v→Ak (f v) Q):Ak (Option.bind x f) Q:=by
 obtain⟨v,rfl,hv⟩:=h;exact k v hv
theorem AY {α β:Type} {x:Option α} {f:α→Option β} {v:α} {Q:β→Prop} (h:x=Option.some v) (k:Ak (f v) Q):Ak (Option.bind x f) Q:=by
 subst h;exact k
theorem Bz {α:Type} {b:Bool} {x y:Option α} {Q:α→Prop} (h1:b=true→Ak x Q) (h2:b=false→Ak y Q):Ak (if b=true then x else y) Q:=by
 cases b
 ·exact h2 rfl
 ·exact h1 rfl
theorem A2 {α:Type} {p:Prop} [Decidable p] {x y:Option α} {Q:α→Prop} (h1:p→Ak x Q) (h2:¬ p→Ak y Q):Ak (if decide p=true then x else y) Q:=by
 by_cases h:p
 ·rw[if_pos (by simpa using h)];exact h1 h
 ·rw[if_neg (by simpa using h)];exact h2 h
theorem Ak.cont {ρ σ β:Type} {o:Option (ρ ⊕ σ)} {g:ρ→β} {f:σ→Option β} {R:ρ→Prop} {S:σ→Prop} {Q:β→Prop} (h:Ak o fun v=>match v with | .inl r=>R r | .inr s=>S s) (h1 :∀r,R r→Q (g r)) (h2 :∀s,S s→Ak (f s) Q):Ak (Sh.cont o g f) Q:=by
 obtain⟨v,rfl,hv⟩:=h
 cases v with
 | inl r=>exact⟨g r,rfl,h1 r hv⟩
 | inr s=>exact h2 s hv
theorem Ak.get {α β:Type} {l:List α} {j:Int} {f:α→Option β} {Q:β→Prop} (h0:0≤j) (h1:j < l.length) (k :∀x,l[j.toNat]?=Option.some x→x∈l→Ak (f x) Q):Ak (Option.bind (Sh.get l j) f) Q:=by
 obtain⟨x,e,hx⟩:=Mu h0 h1
 exact AY e (k x hx (List.mem_of_getElem? hx))
theorem Ak.app {α β:Type} {l m:List α} {b:Nat} {f:List α→Option β} {Q:β→Prop} (h:(l.length+m.length) * b≤140737488355328) (h2:l.length+m.length≤9223372036854775807) (k:Ak (f (l ++ m)) Q):Ak (Option.bind (Sh.app l m b) f) Q:=AY (GW l m b h h2) k
theorem Tk {n:Int} (h1:-9223372036854775808≤n) (h2:n≤9223372036854775807):Sh.wk .i64 n=n:=Abs.wrap_i64 h1 h2
theorem W3 {a b:Int} (ha:0≤a) (ha':a < 4611686018427387904) (hb:0≤b) (hb':b < 4611686018427387904):0≤Sh.xor a b∧Sh.xor a b < 4611686018427387904:=by
 obtain⟨x,rfl⟩:=Int.eq_ofNat_of_zero_le ha
 obtain⟨y,rfl⟩:=Int.eq_ofNat_of_zero_le hb
 have e:Sh.xor (x:Int) (y:Int)=((x ^^^ y:Nat):Int):=by
  unfold Sh.xor
  have h1:(BitVec.ofInt 64 (x:Int) ^^^ BitVec.ofInt 64 (y:Int)).toNat=x ^^^ y:=by
   rw[BitVec.toNat_xor]
   simp only[BitVec.ofInt_natCast,BitVec.toNat_ofNat]
   rw[Nat.mod_eq_of_lt (by omega),Nat.mod_eq_of_lt (by omega)]
  rw[h1]
  have h2:x ^^^ y < 2 ^ 62:=Nat.xor_lt_two_pow (by omega) (by omega)
  exact Abs.wrap_i64 (by omega) (by omega)
 have h2:x ^^^ y < 2 ^ 62:=Nat.xor_lt_two_pow (by omega) (by omega)
 rw[e];omega
end RC



namespace RC
open Go
structure Bk (b:List Int):Prop where
 u8 :∀x∈b,U8 x
 len:b.length≤2000
def At (p K:Int):Prop:=0≤p∧p≤K
theorem Po {code:List Int} (h8 :∀x∈code,U8 x) (hl:code.length≤1048576):Ak (Fy code) fun q=>Bk q.1∧q.2=0:=by
 unfold Fy
 refine Ak.bind (R:=fun b=>Bk b) (A2 (fun h=>?_) fun h=>?_) fun b hb=>Ak.some ⟨hb,rfl⟩
 ·rw[Aa] at h
  have e:Sh.sl code 0 2000=some (code.take 2000):=by
   unfold Sh.sl
   rw[if_pos ⟨by decide,by decide,by omega⟩];rfl
  exact AY e (Ak.some ⟨fun x hx=>h8 x (List.mem_of_mem_take hx),by simp;omega⟩)
 ·rw[Aa] at h
  exact Ak.some ⟨h8,by omega⟩
theorem Li {a n:Int} (ha:0≤a) (hn:1≤n):0≤a.tmod n∧a.tmod n < n∧a.tmod n≤a:=by
 rw[Int.tmod_eq_emod_of_nonneg ha]
 refine⟨Int.emod_nonneg _ (by omega),Int.emod_lt_of_pos _ (by omega),?_⟩
 have:=Int.mul_ediv_add_emod a n
 have h2:0≤n * (a / n):=Int.mul_nonneg (by omega) (Int.ediv_nonneg ha (by omega))
 omega
theorem Q7 {a n:Int} (ha:0≤a) (hn:1≤n):0≤a.tdiv n∧a.tdiv n≤a:=by
 rw[Int.tdiv_eq_ediv_of_nonneg ha]
 exact⟨Int.ediv_nonneg ha (by omega),Int.ediv_le_self _ ha⟩
theorem PQ {a n:Int} (hn:n≠0):Sh.rem a n=some (a.tmod n):=by unfold Sh.rem;rw[if_neg hn]
theorem UZ {a n:Int} (hn:n≠0):Sh.quo a n=some (Sh.w (a.tdiv n)):=by unfold Sh.quo;rw[if_neg hn]
structure Pk (n p:Int) (q:Int×Int):Prop where
 pos:q.2=p+1
 nn:0≤q.1
 lt:1≤n→q.1 < n
 zero:n < 1→q.1=0
theorem Bu {b:List Int} (B:Bk b) {p n:Int} (hp:At p 1000000):Ak (Ay b p n) (Pk n p):=by
 obtain⟨p0,p1⟩:=hp
 have hlen:=B.len
 have ew:Sh.w (p+1)=p+1:=BN (by omega) (by omega)
 have ew2:Sh.w (p+1 - 1)=p:=by rw[BN (by omega) (by omega)];omega
 unfold Ay
 rw[ew,ew2,Aa]
 refine Ak.bind (R:=fun t=>t=true↔n < 1∨b.length=0) (A2 (fun h=>Ak.some (by simp[h])) fun h=>Ak.some (by simp[h])) fun t ht=>?_
 refine Bz (fun h=>?_) fun h=>?_
 ·refine Ak.some ⟨rfl,by show (0:Int)≤0;decide,fun h1=>?_,fun _=>rfl⟩
  show (0:Int) < n
  omega
 ·have hn:¬ (n < 1∨b.length=0):=fun h1=>by rw[ht.2 h1] at h;cases h
  have hn1:1≤n:=by omega
  have hb1:1≤b.length:=by omega
  refine A2 (fun h1=>?_) fun h1=>?_
  ·refine Ak.get p0 h1 fun c _ hc=>?_
   obtain⟨c0,c1⟩:=B.u8 c hc
   rw[Tk (by omega) (by omega)]
   obtain⟨m0,m1,_⟩:=Li c0 hn1
   exact AY (PQ (by omega)) (Ak.some ⟨rfl,m0,fun _=>m1,fun h=>absurd h (by omega)⟩)
  ·have k1:(1:Int)≤b.length:=by omega
   obtain⟨a0,a1,_⟩:=Li p0 k1
   have e7:Sh.w (p * 7)=p * 7:=BN (by omega) (by omega)
   have e73:Sh.w (p * 7+3)=p * 7+3:=BN (by omega) (by omega)
   obtain⟨d0,d1,_⟩:=Li (a:=p * 7+3) (by omega) k1
   obtain⟨f0,f1⟩:=Q7 p0 k1
   rw[e7,e73]
   refine AY (PQ (by omega)) ?_
   refine Ak.get a0 a1 fun c _ hc=>?_
   obtain⟨c0,c1⟩:=B.u8 c hc
   refine AY (PQ (by omega)) ?_
   refine Ak.get d0 d1 fun c' _ hc'=>?_
   obtain⟨c0',c1'⟩:=B.u8 c' hc'
   refine AY (UZ (by omega)) ?_
   rw[Tk (n:=c) (by omega) (by omega),Tk (n:=c') (by omega) (by omega),BN (n:=p.tdiv b.length) (by omega) (by omega),BN (n:=c * 131) (by omega) (by omega),BN (n:=c' * 1117) (by omega) (by omega),
    BN (n:=c * 131+c' * 1117) (by omega) (by omega),BN (n:=p * 29) (by omega) (by omega),BN (n:=c * 131+c' * 1117+p * 29) (by omega) (by omega),BN (n:=p.tdiv b.length * 53) (by omega) (by omega),
    BN (n:=c * 131+c' * 1117+p * 29+p.tdiv b.length * 53) (by omega) (by omega)]
   obtain⟨x,hx⟩ :∃x,x=c * 131+c' * 1117+p * 29+p.tdiv b.length * 53:=⟨_,rfl⟩
   rw[← hx]
   have x0:0≤x:=by omega
   have x1:x≤1000000000000:=by omega
   obtain⟨y0,y1⟩:=Q7 x0 (by decide:(1:Int)≤64)
   rw[BN (n:=x.tdiv 64) (by omega) (by omega)]
   obtain⟨z0,z1⟩:=W3 x0 (by omega) y0 (by omega)
   obtain⟨m0,m1,_⟩:=Li z0 hn1
   exact AY (PQ (by omega)) (Ak.some ⟨rfl,m0,fun _=>m1,fun h=>absurd h (by omega)⟩)
structure On (l:List Int) (p:Int) (q:Int×Int):Prop where
 pos:q.2=p+1
 mem:q.1∈l
theorem EZ {b:List Int} (B:Bk b) {p:Int} {l:List Int} (hp:At p 1000000) (hl:1≤l.length) (hl2:l.length≤1000):Ak (Ba b p l) (On l p):=by
 unfold Ba
 rw[Aa]
 refine Ak.bind (Bu B hp) fun q ⟨h1,h2,h3,_⟩=>?_
 exact Ak.get h2 (h3 (by omega)) fun x _ hx=>Ak.some ⟨h1,hx⟩
end RC



namespace RC
open Go
def ED {α:Type} (f:Nat→α→Bool):Nat→List α→Bool
 | _,[]=>true
 | k,x :: r=>f k x && ED f (k+1) r
theorem Mx {α:Type} {f g:Nat→α→Bool} :∀(l:List α) (k:Nat),(∀(i:Nat) x,l[i]?=some x→f (k+i) x=g (k+i) x)→ED f k l=ED g k l
 | [],_,_=>rfl
 | x :: r,k,h=>by
  have h0:=h 0 x rfl
  rw[Nat.add_zero] at h0
  have h1:=Mx r (k+1) fun i y hy=>(show k+(i+1)=k+1+i by omega) ▸ h (i+1) y hy
  rw[ED,ED,h0,h1]
theorem Eg {α:Type} {p:α→Bool} :∀(l:List α) (k:Nat),ED (fun _ x=>p x) k l=l.all p
 | [],_=>rfl
 | x :: r,k=>by rw[ED,Eg r (k+1),List.all_cons]
theorem D4 {α:Type} {l:List α} (L:Nat→Int→Option (Bool ⊕ Unit)) (f:Nat→α→Bool) (h0 :∀n,L (n+1) (l.length:Int)=some (.inr ()))
  (hs :∀n (i:Nat) x,l[i]?=some x→L (n+1) (i:Int)=if f i x=true then L n ((i+1:Nat):Int) else some (.inl false)) {N:Nat} (hN:l.length < N) :
  L N 0=some (if ED f 0 l=true then .inr () else .inl false):=by
 have key :∀{N i:Nat},i≤l.length→l.length - i < N→L N (i:Int)=some (if ED f i (l.drop i)=true then .inr () else .inl false):=by
  intro N i hi hN
  refine Bl l.length (fun N i=>L N (i:Int)=some (if ED f i (l.drop i)=true then .inr () else .inl false)) ?_ ?_ hi hN
  ·intro n;rw[h0 n];simp[ED]
  ·intro n i hi ih
   obtain⟨x,hx,_⟩:=Bq hi
   rw[hs n i x hx,ih,drop_cons hx,ED]
   cases h:f i x <;> simp
 have:=key (Nat.zero_le _) (by omega:l.length - 0 < N)
 simpa using this
theorem D3 {β:Type} {b:Bool} {g:Bool→β} {K:Unit→Option β}:Sh.cont (some (if b=true then Sum.inr () else Sum.inl false)) g K=if b=true then K () else some (g false):=by
 cases b <;> rfl
theorem Sq {α:Type} {l:List α} {j:Nat} (h:j≤l.length) (h2:l.length≤9223372036854775807):Sh.sl l 0 (j:Int)=some (l.take j):=by
 unfold Sh.sl
 rw[if_pos ⟨by omega,by omega,by omega⟩];simp
end RC


namespace RC
open Go
end RC


namespace RC
open Go
def Xd (h:List Cell) (w:Int):Bool:=decide (1000≤w) && (match h[(w - 1000).toNat]? with | some c=>decide (0 < c.count) | none=>false)
theorem DR (a b c:Int):CB a b c=some (decide (b≤a) && decide (a≤c)):=by
 unfold CB
 by_cases h:b≤a <;> simp[h]
end RC



namespace RC
open Go
def Db (D:List Ac) (t:Int):Bool:=decide (0≤t) && decide (t≤(D.length:Int))
theorem JR {D:List Ac} {x:Int}:CB x 0 (Sh.len D)=some (Db D x):=by rw[DR];rfl
theorem JO {D:List Ac} {l:List Int} (hl:l.length≤1048576) {N:Nat} (hN:l.length < N):Fe N D l=some (l.all (Db D)):=by
 unfold Fe
 rw[D4 (l:=l) (Dg D l) (fun _ x=>Db D x) (fun n=>by rw[Dg,if_neg (by simp[Aa])]) (fun n i x hx=>?_) hN,D3,Eg]
 ·cases l.all (Db D) <;> rfl
 ·have hi:=(List.getElem?_eq_some_iff.1 hx).1
  rw[Dg,if_pos (by simp[Aa];omega),BL hx]
  simp only[Option.bind_some]
  rw[JR,BN (by omega) (by omega),show ((i:Int) + 1)=((i+1:Nat):Int) by omega]
  simp only[Option.bind_some]
  cases Db D x <;> rfl
theorem HG {D:List Ac} {t:Int}:FI D t=some (Db D t):=by
 unfold FI Db
 by_cases h:0≤t <;> by_cases h2:t≤(D.length:Int) <;> simp[h,h2,Aa]
theorem Hb {D:List Ac} {l:List Int} (hl:l.length≤1048576) {N:Nat} (hN:l.length < N):Ex N D l=some (l.all (Db D)):=by
 unfold Ex
 rw[D4 (l:=l) (Df D l) (fun _ x=>Db D x) (fun n=>by rw[Df,if_neg (by simp[Aa])]) (fun n i x hx=>?_) hN,D3,Eg]
 ·cases l.all (Db D) <;> rfl
 ·have hi:=(List.getElem?_eq_some_iff.1 hx).1
  rw[Df,if_pos (by simp[Aa];omega),BL hx]
  simp only[Option.bind_some]
  rw[HG,BN (by omega) (by omega),show ((i:Int) + 1)=((i+1:Nat):Int) by omega]
  simp only[Option.bind_some]
  cases Db D x <;> rfl
def L7 (D:List Ac) (c:GN):Bool:=decide (c.fields.length≤3) && c.fields.all (Db D)
def FN (a b:Ac):Bool:=decide (a.cons.length=0) && (decide (a.from_=b.from_) && decide (a.to=b.to))
def IV (D:List Ac) (i:Nat) (d:Ac):Bool:=
 if 0 < d.cons.length then (decide (d.cons.length≤3) && (decide (d.from_=0) && decide (d.to=0))) && d.cons.all (L7 D)
 else (D.take i).all (fun e=>!FN e d) && (Db D d.from_ && Db D d.to)
def OU (D:List Ac) (i:Nat) (d:Ac):Bool:=
 ((Db D d.from_ && (Db D d.to && (decide (d.cons.length≤3) && (!(decide (0 < d.cons.length) && (!decide (d.from_=0) || !decide (d.to=0))))))) && d.cons.all (L7 D)) && (D.take i).all (fun e=>!(decide (d.cons.length=0) && FN e d))
theorem Ti (D:List Ac) (i:Nat) (d:Ac):OU D i d=IV D i d:=by
 unfold OU IV
 by_cases h:0 < d.cons.length
 ·have h0:¬ d.cons.length=0:=by omega
  have ha:(D.take i).all (fun e=>!(decide (d.cons.length=0) && FN e d))=true:=by simp[h0]
  rw[if_pos h,ha]
  by_cases h1:d.from_=0 <;> by_cases h2:d.to=0 <;> simp[h,h1,h2,Db]
 ·have h0:d.cons.length=0:=by omega
  have hc:d.cons=[]:=List.eq_nil_of_length_eq_zero h0
  rw[if_neg h]
  simp only[hc,h0,List.length_nil,List.all_nil,decide_true,Bool.true_and,Bool.and_true]
  cases Db D d.from_ <;> cases Db D d.to <;> simp
structure Lo (D:List Ac):Prop where
 len:D.length≤1048576
 cons :∀d∈D,d.cons.length≤1048576
 LI :∀d∈D,∀c∈d.cons,c.fields.length≤1048576
theorem MM {D:List Ac} (hD:Lo D) {i:Nat} {d:Ac} (hd:D[i]?=some d) {N:Nat} (hN:2000000≤N):Fz N D i=some (IV D i d):=by
 have hm:=List.mem_of_getElem? hd
 have hi:=(List.getElem?_eq_some_iff.1 hd).1
 have hlen:=hD.len
 have hc:=hD.cons d hm
 unfold Fz IV
 rw[BL hd]
 simp only[Option.bind_some]
 by_cases h:0 < d.cons.length
 ·rw[if_pos (by simp[Aa];omega),if_pos h]
  rw[D4 (l:=d.cons) (DT N d D) (fun _ c=>L7 D c) (fun n=>by rw[DT,if_neg (by simp[Aa])]) (fun n j c hj=>?_) (by omega),D3,Eg]
  ·simp only[Aa]
   by_cases h3:d.cons.length≤3
   ·have e3:¬ (3:Int) < (d.cons.length:Int):=by omega
    generalize d.cons.all (L7 D)=z
    cases z <;> by_cases h1:d.from_=0 <;> by_cases h2:d.to=0 <;> simp[h1,h2,h3,e3]
   ·have e3:(3:Int) < (d.cons.length:Int):=by omega
    simp[h3,e3]
  ·have hj':=(List.getElem?_eq_some_iff.1 hj).1
   have hf:=hD.LI d hm c (List.mem_of_getElem? hj)
   rw[DT,if_pos (by simp[Aa];omega),BL hj]
   simp only[Option.bind_some]
   rw[JO hf (by omega),BN (by omega) (by omega),show ((j:Int) + 1)=((j+1:Nat):Int) by omega]
   unfold L7
   by_cases h3:c.fields.length≤3
   ·have e3:¬ (3:Int) < (c.fields.length:Int):=by omega
    simp only[Aa]
    cases c.fields.all (Db D) <;> simp[h3,e3]
   ·have e3:(3:Int) < (c.fields.length:Int):=by omega
    simp[h3,e3,Aa]
 ·have h0:d.cons.length=0:=by omega
  have e0:¬ decide ((0:Int) < Sh.len d.cons)=true:=by rw[Aa,h0];simp
  rw[if_neg e0,if_neg h]
  have hlt:(D.take i).length=i:=by simp;omega
  rw[D4 (l:=D.take i) (DV d D i) (fun _ e=>!FN e d) (fun n=>by rw[DV,if_neg (by simp;omega)]) (fun n j e hj=>?_) (by omega),D3,Eg]
  ·rw[JR,JR]
   simp only[Option.bind_some]
   cases (D.take i).all (fun e=>!FN e d) <;> cases Db D d.from_ <;> simp
  ·have hj':=(List.getElem?_eq_some_iff.1 hj).1
   have hje:D[j]?=some e:=by rw[List.getElem?_take] at hj;split at hj <;> first | exact hj | cases hj
   rw[DV,if_pos (by simp;omega),BL hje]
   simp only[Option.bind_some]
   rw[BN (by omega) (by omega),show ((j:Int) + 1)=((j+1:Nat):Int) by omega]
   unfold FN
   simp only[Aa]
   by_cases a0:e.cons.length=0 <;> by_cases a1:e.from_=d.from_ <;> by_cases a2:e.to=d.to <;> simp[a0,a1,a2]
def JM (D:List Ac):Bool:=decide (D.length≤4) && ED (IV D) 0 D
theorem L4 {D:List Ac} (hD:Lo D) {N:Nat} (hN:2000000≤N):Fh N D=some (JM D):=by
 have hlen:=hD.len
 unfold Fh JM
 rw[D4 (l:=D) (C7 N D) (IV D) (fun n=>by rw[C7,if_neg (by simp[Aa])]) (fun n i d hd=>?_) (by omega),D3]
 ·simp only[Aa]
  by_cases h:D.length≤4
  ·have e4:¬ (4:Int) < (D.length:Int):=by omega
   cases ED (IV D) 0 D <;> simp[h,e4]
  ·have e4:(4:Int) < (D.length:Int):=by omega
   simp[h,e4]
 ·have hi:=(List.getElem?_eq_some_iff.1 hd).1
  rw[C7,if_pos (by simp[Aa];omega),MM hD hd hN]
  simp only[Option.bind_some]
  rw[BN (by omega) (by omega),show ((i:Int) + 1)=((i+1:Nat):Int) by omega]
  cases IV D i d <;> rfl
theorem Lw {D:List Ac} (hD:Lo D) {N:Nat} (hN:2000000≤N):FY N D=some (JM D):=by
 have hlen:=hD.len
 unfold FY JM
 rw[← Mx (f:=OU D) D 0 (fun i d _=>Ti D _ d)]
 rw[D4 (l:=D) (C8 N D) (OU D) (fun n=>by rw[C8,if_neg (by simp[Aa])]) (fun n i d hd=>?_) (by omega),D3]
 ·simp only[Aa]
  by_cases h:D.length≤4
  ·have e4:¬ (4:Int) < (D.length:Int):=by omega
   cases ED (OU D) 0 D <;> simp[h,e4]
  ·have e4:(4:Int) < (D.length:Int):=by omega
   simp[h,e4]
 ·have hi:=(List.getElem?_eq_some_iff.1 hd).1
  have hm:=List.mem_of_getElem? hd
  have hc:=hD.cons d hm
  have l2:Cc N d D N 0=some (if d.cons.all (L7 D)=true then .inr () else .inl false):=by
   rw[D4 (l:=d.cons) (Cc N d D) (fun _ c=>L7 D c) (fun n=>by rw[Cc,if_neg (by simp[Aa])]) (fun n j c hj=>?_) (by omega),Eg]
   have hj':=(List.getElem?_eq_some_iff.1 hj).1
   have hf:=hD.LI d hm c (List.mem_of_getElem? hj)
   rw[Cc,if_pos (by simp[Aa];omega),BL hj]
   simp only[Option.bind_some]
   rw[Hb hf (by omega),BN (by omega) (by omega),show ((j:Int) + 1)=((j+1:Nat):Int) by omega]
   unfold L7
   by_cases h3:c.fields.length≤3
   ·have e3:¬ (3:Int) < (c.fields.length:Int):=by omega
    simp only[Aa]
    cases c.fields.all (Db D) <;> simp[h3,e3]
   ·have e3:(3:Int) < (c.fields.length:Int):=by omega
    simp[h3,e3,Aa]
  have hlt:(D.take i).length=i:=by simp;omega
  have l3:Cd d (D.take i) N 0=some (if (D.take i).all (fun e=>!(decide (d.cons.length=0) && FN e d))=true then .inr () else .inl false):=by
   rw[D4 (l:=D.take i) (Cd d (D.take i)) (fun _ e=>!(decide (d.cons.length=0) && FN e d)) (fun n=>by rw[Cd,if_neg (by simp[Aa])]) (fun n j e hj=>?_) (by omega),Eg]
   have hj':=(List.getElem?_eq_some_iff.1 hj).1
   rw[Cd,if_pos (by simp only[Aa];simp;omega),BL hj]
   simp only[Option.bind_some]
   rw[BN (by omega) (by omega),show ((j:Int) + 1)=((j+1:Nat):Int) by omega]
   unfold FN
   simp only[Aa]
   by_cases b0:d.cons.length=0 <;> by_cases a0:e.cons.length=0 <;> by_cases a1:e.from_=d.from_ <;> by_cases a2:e.to=d.to <;> simp[a0,a1,a2,b0]
  rw[C8,if_pos (by simp[Aa];omega),BL hd]
  simp only[Option.bind_some]
  rw[HG,HG,l2,Sq (by omega) (by omega),BN (by omega) (by omega),show ((i:Int) + 1)=((i+1:Nat):Int) by omega]
  simp only[Option.bind_some]
  rw[l3,D3,D3]
  unfold OU
  simp only[Aa]
  generalize d.cons.all (L7 D)=z1
  generalize (D.take i).all (fun e=>!(decide (d.cons.length=0) && FN e d))=z2
  by_cases h3:d.cons.length≤3
  ·have e3:¬ (3:Int) < (d.cons.length:Int):=by omega
   by_cases h0:0 < d.cons.length
   ·have e0:(0:Int) < (d.cons.length:Int):=by omega
    cases Db D d.from_ <;> cases Db D d.to <;> cases z1 <;> cases z2 <;> by_cases h1:d.from_=0 <;> by_cases h2:d.to=0 <;> simp[h1,h2,h3,e3,h0]
   ·have e0:¬ (0:Int) < (d.cons.length:Int):=by omega
    cases Db D d.from_ <;> cases Db D d.to <;> cases z1 <;> cases z2 <;> simp[h3,e3,h0]
  ·have e3:(3:Int) < (d.cons.length:Int):=by omega
   cases Db D d.from_ <;> cases Db D d.to <;> simp[h3,e3]
end RC



namespace RC
open Go
def IU (ps ls:List Int) (i:Nat) (v:Int):Bool:=
 (decide (0≤v) && decide (v < (ps.length:Int))) && (!decide (ps[v.toNat]?=some 0) && !(decide (0 < i) && decide (v≤(ls[i - 1]?).getD 0)))
theorem Un {ls:List Int} {i:Nat} (h0:0 < i) (hi:i < ls.length) :∃x,ls[i - 1]?=some x∧Sh.get ls (((i:Nat):Int) - 1)=some x:=by
 obtain⟨x,hx,_⟩:=Bq (l:=ls) (i:=i - 1) (by omega)
 exact⟨x,hx,by rw[show ((i:Int) - 1)=((i - 1:Nat):Int) by omega,BL hx]⟩
theorem Qj {c:BY} (hp:c.params.length≤1048576) (hl:c.EN.length≤1048576) {N:Nat} (hN:2000000≤N):Cq c N 0=some (if ED (IU c.params c.EN) 0 c.EN=true then .inr () else .inl false):=by
 refine D4 (l:=c.EN) (Cq c) (IU c.params c.EN) (fun n=>by rw[Cq,if_neg (by simp[Aa])]) (fun n i v hv=>?_) (by omega)
 have hi:=(List.getElem?_eq_some_iff.1 hv).1
 rw[Cq,if_pos (by simp[Aa];omega),BL hv]
 simp only[Option.bind_some]
 rw[Aa,BN (n:=(i:Int) + 1) (by omega) (by omega),BN (n:=(i:Int) - 1) (by omega) (by omega),show ((i:Int) + 1)=((i+1:Nat):Int) by omega]
 unfold IU
 by_cases h0:0≤v
 ·have h0':¬ v < 0:=by omega
  by_cases h1:v < (c.params.length:Int)
  ·have h1':¬ (c.params.length:Int)≤v:=by omega
   obtain⟨d,e1,e2⟩:=Mu h0 h1
   rw[e1,e2]
   by_cases hi0:0 < i
   ·obtain⟨x,g1,g2⟩:=Un hi0 hi
    rw[g1,g2]
    by_cases hc:d=0 <;> by_cases hx:v≤x <;> simp[h0,h0',h1,h1',hc,hi0,hx]
   ·by_cases hc:d=0 <;> simp[h0,h0',h1,h1',hc,hi0]
  ·have h1':(c.params.length:Int)≤v:=by omega
   simp[h0,h0',h1,h1']
 ·have h0':v < 0:=by omega
  simp[h0,h0']
def Ju (D:List Ac) (ps:List Int) (r:Int):Bool:=decide (ps.length≤3) && (ps.all (Db D) && Db D r)
theorem Nw {p:Ai} (hf:p.funcs.length≤1048576) (hp :∀f∈p.funcs,f.params.length≤1048576) {N:Nat} (hN:2000000≤N):Cy N p N 0=some (if (p.funcs.all fun f=>Ju p.decls f.params f.result)=true then .inr () else .inl false):=by
 rw[← Eg _ 0]
 refine D4 (l:=p.funcs) (Cy N p) (fun _ f=>Ju p.decls f.params f.result) (fun n=>by rw[Cy,if_neg (by simp[Aa])]) (fun n i f hi=>?_) (by omega)
 have hi':=(List.getElem?_eq_some_iff.1 hi).1
 have hpf:=hp f (List.mem_of_getElem? hi)
 rw[Cy,if_pos (by simp[Aa];omega),BL hi]
 simp only[Option.bind_some]
 rw[JO hpf (by omega),JR,BN (by omega) (by omega),show ((i:Int) + 1)=((i+1:Nat):Int) by omega]
 unfold Ju
 simp only[Aa]
 by_cases h3:f.params.length≤3
 ·have e3:¬ (3:Int) < (f.params.length:Int):=by omega
  generalize f.params.all (Db p.decls)=z
  cases z <;> cases Db p.decls f.result <;> simp[h3,e3]
 ·have e3:(3:Int) < (f.params.length:Int):=by omega
  simp[h3,e3]
theorem OD {D:List Ac} {l:List BY} (hf:l.length≤1048576) (hp :∀f∈l,f.params.length≤1048576∧f.EN.length≤1048576) {N:Nat} (hN:2000000≤N):Cx N D l N 0=some (if (l.all fun f=>Ju D f.params f.result && ED (IU f.params f.EN) 0 f.EN)=true then .inr () else .inl false):=by
 rw[← Eg _ 0]
 refine D4 (l:=l) (Cx N D l) (fun _ f=>Ju D f.params f.result && ED (IU f.params f.EN) 0 f.EN) (fun n=>by rw[Cx,if_neg (by simp[Aa])]) (fun n i f hi=>?_) (by omega)
 have hi':=(List.getElem?_eq_some_iff.1 hi).1
 have hpf:=hp f (List.mem_of_getElem? hi)
 rw[Cx,if_pos (by simp[Aa];omega),BL hi]
 simp only[Option.bind_some]
 rw[Hb hpf.1 (by omega),HG,Qj hpf.1 hpf.2 hN,D3,BN (by omega) (by omega),show ((i:Int) + 1)=((i+1:Nat):Int) by omega]
 unfold Ju
 simp only[Aa]
 generalize ED (IU f.params f.EN) 0 f.EN=y
 by_cases h3:f.params.length≤3
 ·have e3:¬ (3:Int) < (f.params.length:Int):=by omega
  generalize f.params.all (Db D)=z
  cases z <;> cases Db D f.result <;> cases y <;> simp[h3,e3]
 ·have e3:(3:Int) < (f.params.length:Int):=by omega
  simp[h3,e3]
end RC
namespace RC
open Go
def SD (D:List (List Int×Int)):Bool:=match D with | []=>false | (ps,r) :: _=>decide (ps.length=0) && decide (r=0)
def KP (D:List Ac) (l:List (List Int×Int)):Bool:=JM D && ((decide (1≤l.length) && decide (l.length≤4)) && (l.all (fun s=>Ju D s.1 s.2) && SD l))
theorem Mn {p:Ai} (hD:Lo p.decls) (hf:p.funcs.length≤1048576) (hp :∀f∈p.funcs,f.params.length≤1048576) {N:Nat} (hN:2000000≤N):E6 N p=some (KP p.decls (p.funcs.map fun f=>(f.params,f.result))):=by
 unfold E6 KP
 rw[L4 hD hN,Nw hf hp hN,D3,DR]
 simp only[Option.bind_some,List.length_map,List.all_map,Function.comp_def]
 cases JM p.decls with
 | false=>simp
 | true=>
  cases hl:p.funcs with
  | nil=>simp[Aa]
  | cons f r=>
   have e0:Sh.get (f :: r) 0=some f:=rfl
   rw[e0]
   generalize (f :: r).all (fun f=>Ju p.decls f.params f.result)=z
   simp only[List.map_cons,SD]
   have q1:decide ((1:Int)≤Sh.len (f :: r))=true:=decide_eq_true (by rw[Aa,List.length_cons];omega)
   have q2:decide (1≤(f :: r).length)=true:=by simp
   have q3:decide (Sh.len (f :: r)≤4)=decide ((f :: r).length≤4):=decide_eq_decide.2 (by rw[Aa];omega)
   have q4:decide (Sh.len f.params=0)=decide (f.params.length=0):=decide_eq_decide.2 (by rw[Aa];omega)
   simp only[q1,q2,q3,q4,Option.bind_some]
   cases decide ((f :: r).length≤4) <;> cases z <;> by_cases a1:f.params.length=0 <;> by_cases a2:f.result=0 <;> simp[a1,a2]
theorem Md {D:List Ac} {l:List BY} (hD:Lo D) (hf:l.length≤1048576) (hp :∀f∈l,f.params.length≤1048576∧f.EN.length≤1048576) {N:Nat} (hN:2000000≤N) :
  Fu N D l=some (KP D (l.map fun f=>(f.params,f.result)) && l.all (fun f=>ED (IU f.params f.EN) 0 f.EN)):=by
 unfold Fu KP
 rw[Lw hD hN,OD hf hp hN,D3]
 have hsplit:(l.all fun f=>Ju D f.params f.result && ED (IU f.params f.EN) 0 f.EN)=((l.all fun f=>Ju D f.params f.result) && (l.all fun f=>ED (IU f.params f.EN) 0 f.EN)):=by
  clear hf hp
  induction l with
  | nil=>rfl
  | cons f r ih=>
   simp only[List.all_cons,ih]
   cases Ju D f.params f.result <;> cases ED (IU f.params f.EN) 0 f.EN <;> simp
 rw[hsplit]
 simp only[Option.bind_some,List.length_map,List.all_map,Function.comp_def]
 cases JM D with
 | false=>simp
 | true=>
  cases hl:l with
  | nil=>simp[Aa]
  | cons f r=>
   have e0:Sh.get (f :: r) 0=some f:=rfl
   rw[e0]
   generalize (f :: r).all (fun f=>Ju D f.params f.result)=z
   generalize (f :: r).all (fun f=>ED (IU f.params f.EN) 0 f.EN)=y
   simp only[List.map_cons,SD]
   have q1:decide (Sh.len (f :: r) < 1)=false:=decide_eq_false (by rw[Aa,List.length_cons];omega)
   have q2:decide (1≤(f :: r).length)=true:=by simp
   have q3:decide ((4:Int) < Sh.len (f :: r))=!decide ((f :: r).length≤4):=by rw[← decide_not];exact decide_eq_decide.2 (by rw[Aa];omega)
   have q4:decide ((0:Int) < Sh.len f.params)=!decide (f.params.length=0):=by rw[← decide_not];exact decide_eq_decide.2 (by rw[Aa];omega)
   simp only[q1,q2,q3,q4,Option.bind_some]
   cases decide ((f :: r).length≤4) <;> cases z <;> cases y <;> by_cases a1:f.params.length=0 <;> by_cases a2:f.result=0 <;> simp[a1,a2]
end RC



namespace RC
open Go
def nc (D:List Ac):Nat:=(D.map (·.cons.length)).sum
theorem IP {D:List Ac} {i:Nat} {d:Ac} (h:D[i]?=some d):nc (D.take (i+1))=nc (D.take i) + d.cons.length:=by
 rw[Gs h];simp[nc]
theorem Ni {D:List Ac} {i:Nat} {d:Ac} (h:D[i]?=some d):nc (D.drop i)=d.cons.length+nc (D.drop (i+1)):=by
 rw[drop_cons h];simp[nc]
theorem E3 (D:List Ac) (i:Nat):nc D=nc (D.take i) + nc (D.drop i):=by
 unfold nc
 rw[← List.sum_append_nat,← List.map_append,List.take_append_drop]
theorem GP {D:List Ac} (hD:D.length≤1048576) (hn:nc D≤1048576) {i:Nat} (hi:i≤D.length) {N:Nat} (hN:2000000≤N):E0 N D i=some (nc (D.take i):Int):=by
 unfold E0
 have key :∀{N j:Nat},j≤i→i - j < N→DB D i N (nc (D.take j)) j=some (nc (D.take i):Int):=by
  intro N j hj hN
  refine Bl i (fun N j=>DB D i N (nc (D.take j)) j=some (nc (D.take i):Int)) ?_ ?_ hj hN
  ·intro n;rw[DB,if_neg (by simp)]
  ·intro n j hj ih
   obtain⟨d,hd,_⟩:=Bq (l:=D) (i:=j) (by omega)
   have hs:=E3 D (j+1)
   have ht:=IP hd
   rw[DB,if_pos (by simp;omega),BL hd]
   simp only[Option.bind_some]
   rw[Aa,BN (n:=(j:Int) + 1) (by omega) (by omega),BN (by omega) (by omega),show ((nc (D.take j):Int) + (d.cons.length:Int))=((nc (D.take (j+1)):Nat):Int) by omega,show ((j:Int) + 1)=((j+1:Nat):Int) by omega]
   exact ih
 have:=key (Nat.zero_le _) (by omega:i - 0 < N)
 rw[show (((nc (D.take 0):Nat):Int))=0 from rfl,show (((0:Nat):Int))=0 from rfl] at this
 rw[this];rfl
theorem NN {D:List Ac} (hD:D.length≤1048576) (hn:nc D≤1048576) {N:Nat} (hN:2000000≤N):Gp N D=some (nc D:Int):=by
 unfold Gp
 have key :∀{N j:Nat},j≤D.length→D.length - j < N→DC D N (nc (D.take j)) j=some (nc D:Int):=by
  intro N j hj hN
  refine Bl D.length (fun N j=>DC D N (nc (D.take j)) j=some (nc D:Int)) ?_ ?_ hj hN
  ·intro n;rw[DC,if_neg (by simp[Aa]),List.take_length]
  ·intro n j hj ih
   obtain⟨d,hd,_⟩:=Bq hj
   have hs:=E3 D (j+1)
   have ht:=IP hd
   rw[DC,if_pos (by simp[Aa];omega),BL hd]
   simp only[Option.bind_some]
   rw[Aa,BN (n:=(j:Int) + 1) (by omega) (by omega),BN (by omega) (by omega),show ((nc (D.take j):Int) + (d.cons.length:Int))=((nc (D.take (j+1)):Nat):Int) by omega,show ((j:Int) + 1)=((j+1:Nat):Int) by omega]
   exact ih
 have:=key (Nat.zero_le _) (by omega:D.length - 0 < N)
 rw[show (((nc (D.take 0):Nat):Int))=0 from rfl,show (((0:Nat):Int))=0 from rfl] at this
 rw[this];rfl
def FQ:List Ac→Nat→Nat→Option (Nat×GN)
 | [],_,_=>none
 | d :: r,k,c=>match d.cons[c]? with
  | some x=>some (k+1,x)
  | none=>FQ r (k+1) (c - d.cons.length)
theorem Kz {D:List Ac} (hD:D.length≤1048576) (hn:nc D≤1048576) {c:Nat} (hc:c < nc D) {N:Nat} (hN:2000000≤N) :∃t x,FQ D 0 c=some (t,x)∧Fi N D c=some ((t:Int),x):=by
 have key :∀(m j N c:Nat),D.length - j=m→j≤D.length→m < N→c < nc (D.drop j)→∃t x,FQ (D.drop j) j c=some (t,x)∧Dn D N c j=some (.inl ((t:Int),x)):=by
  intro m
  induction m with
  | zero=>
   intro j N c h1 h2 _ h3
   rw[List.drop_eq_nil_of_le (by omega)] at h3;simp[nc] at h3
  | succ m ih=>
   intro j N c h1 h2 h3 h4
   obtain⟨N,rfl⟩ :∃n,N=n+1:=⟨N - 1,by omega⟩
   obtain⟨d,hd,_⟩:=Bq (l:=D) (i:=j) (by omega)
   have hs:=E3 D j
   rw[Ni hd] at h4 hs
   rw[drop_cons hd]
   unfold FQ
   rw[Dn,if_pos (by simp[Aa];omega),BL hd]
   simp only[Option.bind_some]
   rw[if_pos (by simp),Aa,BN (n:=(j:Int) + 1) (by omega) (by omega),BN (by omega) (by omega)]
   cases hx:d.cons[c]? with
   | some x=>
    have hlt:=(List.getElem?_eq_some_iff.1 hx).1
    refine⟨j+1,x,rfl,?_⟩
    have e:((c:Int) < (d.cons.length:Int)):=by omega
    simp[e,BL hx]
   | none=>
    have hle:d.cons.length≤c:=by simpa using hx
    obtain⟨t,x,g1,g2⟩:=ih (j+1) N (c - d.cons.length) (by omega) (by omega) (by omega) (by omega)
    refine⟨t,x,g1,?_⟩
    have e:¬ ((c:Int) < (d.cons.length:Int)):=by omega
    rw[← g2,show ((c:Int) - (d.cons.length:Int))=((c - d.cons.length:Nat):Int) by omega,show ((j:Int) + 1)=((j+1:Nat):Int) by omega]
    simp[e]
 obtain⟨t,x,g1,g2⟩:=key D.length 0 N c (by omega) (by omega) (by omega) (by simpa using hc)
 refine⟨t,x,by simpa using g1,?_⟩
 unfold Fi
 rw[show (((0:Nat):Int))=0 from rfl] at g2
 rw[g2];rfl
end RC
namespace RC
open Go
theorem Jj {D:List Ac} (hD:D.length≤1048576) (hn:nc D≤1048576) {c:Nat} (hc:c < nc D) {N:Nat} (hN:2000000≤N) :∃t x,FQ D 0 c=some (t,x)∧EY N D c=some (t:Int):=by
 have key :∀(m j M c:Nat),D.length - j=m→j≤D.length→m < M→c < nc (D.drop j)→∃t x,FQ (D.drop j) j c=some (t,x)∧Ci N D ((nc (D.take j) + c:Nat):Int) M j=some (.inl (t:Int)):=by
  intro m
  induction m with
  | zero=>
   intro j M c h1 h2 _ h3
   rw[List.drop_eq_nil_of_le (by omega)] at h3;simp[nc] at h3
  | succ m ih=>
   intro j M c h1 h2 h3 h4
   obtain⟨M,rfl⟩ :∃n,M=n+1:=⟨M - 1,by omega⟩
   obtain⟨d,hd,_⟩:=Bq (l:=D) (i:=j) (by omega)
   have hs:=E3 D j
   rw[Ni hd] at h4 hs
   have ht:=IP hd
   rw[drop_cons hd]
   unfold FQ
   rw[Ci,if_pos (by simp[Aa];omega),GP hD hn (by omega) hN,BL hd]
   simp only[Option.bind_some]
   rw[Aa,BN (n:=(j:Int) + 1) (by omega) (by omega),BN (n:=(nc (D.take j):Int) + (d.cons.length:Int)) (by omega) (by omega),BN (by omega) (by omega),DR]
   simp only[Option.bind_some]
   cases hx:d.cons[c]? with
   | some x=>
    have hlt:=(List.getElem?_eq_some_iff.1 hx).1
    refine⟨j+1,x,rfl,?_⟩
    rw[if_pos (by simp;omega)]
    rfl
   | none=>
    have hle:d.cons.length≤c:=by simpa using hx
    obtain⟨t,x,g1,g2⟩:=ih (j+1) M (c - d.cons.length) (by omega) (by omega) (by omega) (by omega)
    refine⟨t,x,g1,?_⟩
    rw[if_neg (by simp;omega),← g2,show nc (D.take j) + c=nc (D.take (j+1)) + (c - d.cons.length) by omega]
    rfl
 obtain⟨t,x,g1,g2⟩:=key D.length 0 N c (by omega) (by omega) (by omega) (by simpa using hc)
 refine⟨t,x,by simpa using g1,?_⟩
 unfold EY
 rw[show nc (D.take 0) + c=c by simp[nc],show (((0:Nat):Int))=0 from rfl] at g2
 rw[g2];rfl
theorem NK {D:List Ac} (hD:D.length≤1048576) (hn:nc D≤1048576) {c:Int} (hc:c < 0∨(nc D:Int)≤c) {N:Nat} (hN:2000000≤N):EY N D c=some (-1):=by
 unfold EY
 have key :∀{M j:Nat},j≤D.length→D.length - j < M→Ci N D c M j=some (.inr ()):=by
  intro M j hj hM
  refine Bl D.length (fun M j=>Ci N D c M j=some (.inr ())) ?_ ?_ hj hM
  ·intro n;rw[Ci,if_neg (by simp[Aa])]
  ·intro n j hj ih
   obtain⟨d,hd,_⟩:=Bq hj
   have hs:=E3 D (j+1)
   have ht:=IP hd
   rw[Ci,if_pos (by simp[Aa];omega),GP hD hn (by omega) hN,BL hd]
   simp only[Option.bind_some]
   rw[Aa,BN (n:=(j:Int) + 1) (by omega) (by omega),BN (n:=(nc (D.take j):Int) + (d.cons.length:Int)) (by omega) (by omega),BN (by omega) (by omega),DR]
   simp only[Option.bind_some]
   rw[if_neg (by simp;omega)]
   exact ih
 have:=key (Nat.zero_le _) (by omega:D.length - 0 < N)
 rw[show (((0:Nat):Int))=0 from rfl] at this
 rw[this];rfl
end RC
namespace RC
open Go
theorem T5 {D:List Ac} :∀(m j c t:Nat) (x:GN),D.length - j=m→j≤D.length→FQ (D.drop j) j c=some (t,x)→∃d,1≤t∧D[t - 1]?=some d∧nc (D.take (t - 1))≤nc (D.take j) + c∧d.cons[nc (D.take j) + c - nc (D.take (t - 1))]?=some x:=by
 intro m
 induction m with
 | zero=>
  intro j c t x h1 h2 h
  rw[List.drop_eq_nil_of_le (by omega)] at h;simp[FQ] at h
 | succ m ih=>
  intro j c t x h1 h2 h
  obtain⟨d,hd,_⟩:=Bq (l:=D) (i:=j) (by omega)
  have ht:=IP hd
  rw[drop_cons hd] at h
  unfold FQ at h
  cases hx:d.cons[c]? with
  | some y=>
   rw[hx] at h
   simp only[Option.some.injEq,Prod.mk.injEq] at h
   obtain⟨rfl,rfl⟩:=h
   exact⟨d,by omega,by simpa using hd,by simp,by simpa using hx⟩
  | none=>
   rw[hx] at h
   have hle:d.cons.length≤c:=by simpa using hx
   obtain⟨e,g1,g2,g3,g4⟩:=ih (j+1) (c - d.cons.length) t x (by omega) (by omega) h
   rw[show nc (D.take (j+1)) + (c - d.cons.length)=nc (D.take j) + c by omega] at g3 g4
   exact⟨e,g1,g2,g3,g4⟩
theorem Fo {D:List Ac} (hD:D.length≤1048576) (hn:nc D≤1048576) {c:Nat} (hc:c < nc D) {N:Nat} (hN:2000000≤N) :∃t x,FQ D 0 c=some (t,x)∧Be N D c=some x.fields:=by
 obtain⟨t,x,e1,e2⟩:=Jj hD hn hc hN
 obtain⟨d,g1,g2,g3,g4⟩:=T5 (D:=D) D.length 0 c t x (by omega) (by omega) (by simpa using e1)
 have hlt:=(List.getElem?_eq_some_iff.1 g2).1
 have hs:=E3 D (t - 1)
 rw[show nc (D.take 0) + c=c by simp[nc]] at g3 g4
 refine⟨t,x,e1,?_⟩
 unfold Be
 rw[e2]
 simp only[Option.bind_some]
 rw[if_neg (by simp;omega),BN (n:=(t:Int) - 1) (by omega) (by omega),show ((t:Int) - 1)=((t - 1:Nat):Int) by omega,BL g2,GP hD hn (by omega) hN]
 simp only[Option.bind_some]
 rw[BN (by omega) (by omega),show ((c:Int) - (nc (D.take (t - 1)):Int))=((c - nc (D.take (t - 1)):Nat):Int) by omega,BL g4]
 rfl
theorem NF {D:List Ac} (hD:D.length≤1048576) (hn:nc D≤1048576) {c:Nat} (hc:c < nc D) {N:Nat} (hN:2000000≤N) :∃t x,FQ D 0 c=some (t,x)∧EF N D c=some x.fields:=by
 obtain⟨t,x,e1,e2⟩:=Kz hD hn hc hN
 exact⟨t,x,e1,by unfold EF;rw[e2];rfl⟩
end RC
namespace RC
open Go
def Ct (D:List Ac) (t:Int):List Int:=
 if 1≤t∧t≤(D.length:Int) then (List.range ((D[(t - 1).toNat]?).elim 0 (·.cons.length))).map fun (i:Nat)=>(nc (D.take (t - 1).toNat):Int) + (i:Int) else []
theorem Ou {f:Nat→Int} {i:Nat}:(List.range (i+1)).map f=(List.range i).map f ++ [f i]:=by rw[List.range_succ,List.map_append];rfl
theorem Ke {D:List Ac} (hD:D.length≤1048576) (hn:nc D≤1048576) {t:Int} {N:Nat} (hN:2000000≤N):Eo N D t=some (Ct D t):=by
 unfold Eo Ct
 rw[DR,Aa]
 simp only[Option.bind_some]
 by_cases h:1≤t∧t≤(D.length:Int)
 ·obtain⟨a,ha⟩ :∃a:Nat,t=(a:Int) + 1:=⟨(t - 1).toNat,by omega⟩
  subst ha
  obtain⟨d,hd,_⟩:=Bq (l:=D) (i:=a) (by omega)
  have hs:=E3 D (a+1)
  have ht:=IP hd
  rw[if_neg (by simp;omega),if_pos h,show (((a:Int) + 1) - 1).toNat=a by omega,hd]
  simp only[Option.elim_some]
  have key :∀{M i:Nat},i≤d.cons.length→d.cons.length - i < M→Dv N D ((a:Int) + 1) M i ((List.range i).map fun (i:Nat)=>(nc (D.take a):Int) + (i:Int))=some ((List.range d.cons.length).map fun (i:Nat)=>(nc (D.take a):Int) + (i:Int)):=by
   intro M i hi hM
   refine Bl d.cons.length (fun M i=>Dv N D ((a:Int) + 1) M i ((List.range i).map fun (i:Nat)=>(nc (D.take a):Int) + (i:Int))=some ((List.range d.cons.length).map fun (i:Nat)=>(nc (D.take a):Int) + (i:Int))) ?_ ?_ hi hM
   ·intro n
    rw[Dv,BN (by omega) (by omega),show ((a:Int) + 1 - 1)=((a:Nat):Int) by omega,BL hd]
    simp only[Option.bind_some]
    rw[if_neg (by simp[Aa])]
   ·intro n i hi ih
    rw[Dv,BN (n:=(a:Int) + 1 - 1) (by omega) (by omega),show ((a:Int) + 1 - 1)=((a:Nat):Int) by omega,BL hd]
    simp only[Option.bind_some]
    rw[if_pos (by simp[Aa];omega),GP hD hn (by omega) hN]
    simp only[Option.bind_some]
    rw[GW _ _ _ (by simp;omega) (by simp;omega),BN (n:=(i:Int) + 1) (by omega) (by omega),BN (by omega) (by omega),show ((i:Int) + 1)=((i+1:Nat):Int) by omega]
    simp only[Option.bind_some]
    rw[← ih,Ou]
  have:=key (Nat.zero_le _) (by omega:d.cons.length - 0 < N)
  rw[show (((0:Nat):Int))=0 from rfl,List.range_zero,List.map_nil] at this
  rw[this];rfl
 ·rw[if_pos (by simp;omega),if_neg h]
theorem Ki {D:List Ac} (hD:D.length≤1048576) (hn:nc D≤1048576) {t:Int} {N:Nat} (hN:2000000≤N):Hj N D t=some (Ct D t):=by
 unfold Hj Ct
 rw[Aa]
 by_cases h:1≤t∧t≤(D.length:Int)
 ·obtain⟨a,ha⟩ :∃a:Nat,t=(a:Int) + 1:=⟨(t - 1).toNat,by omega⟩
  subst ha
  obtain⟨d,hd,_⟩:=Bq (l:=D) (i:=a) (by omega)
  have hs:=E3 D (a+1)
  have hs0:=E3 D a
  have ht:=IP hd
  have e1:¬ ((a:Int) + 1 < 1):=by omega
  have e2:¬ ((D.length:Int) < (a:Int) + 1):=by omega
  rw[if_pos h,show (((a:Int) + 1) - 1).toNat=a by omega,hd,BN (by omega) (by omega),show ((a:Int) + 1 - 1)=((a:Nat):Int) by omega,Sq (by omega) (by omega),BL hd]
  simp only[Option.elim_some,e1,e2,decide_false,Bool.false_eq_true,if_false,Option.bind_some]
  rw[NN (by simp;omega) (by omega) hN]
  simp only[Option.bind_some]
  have key :∀{M i:Nat},i≤d.cons.length→d.cons.length - i < M→Dt d (nc (D.take a):Int) M i ((List.range i).map fun (i:Nat)=>(nc (D.take a):Int) + (i:Int))=some ((List.range d.cons.length).map fun (i:Nat)=>(nc (D.take a):Int) + (i:Int)):=by
   intro M i hi hM
   refine Bl d.cons.length (fun M i=>Dt d (nc (D.take a):Int) M i ((List.range i).map fun (i:Nat)=>(nc (D.take a):Int) + (i:Int))=some ((List.range d.cons.length).map fun (i:Nat)=>(nc (D.take a):Int) + (i:Int))) ?_ ?_ hi hM
   ·intro n;rw[Dt,if_neg (by simp[Aa])]
   ·intro n i hi ih
    rw[Dt,if_pos (by simp[Aa];omega)]
    rw[GW _ _ _ (by simp;omega) (by simp;omega),BN (n:=(i:Int) + 1) (by omega) (by omega),BN (by omega) (by omega),show ((i:Int) + 1)=((i+1:Nat):Int) by omega]
    simp only[Option.bind_some]
    rw[← ih,Ou]
  have:=key (Nat.zero_le _) (by omega:d.cons.length - 0 < N)
  rw[show (((0:Nat):Int))=0 from rfl,List.range_zero,List.map_nil] at this
  rw[this];rfl
 ·rw[if_neg h]
  by_cases e1:t < 1
  ·simp[e1]
  ·have e2:(D.length:Int) < t:=by omega
   simp[e1,e2]
end RC



namespace RC
open Go
end RC



namespace RC
open Go
def YE (left:Int) (s:Nat):Int:=if left - s < 0 then -1 else left - s
theorem NW {left:Int} {s:Nat} (h:left - s < 0):YE left s=-1:=if_pos h
theorem Ps {left:Int} {s:Nat} (h:¬ left - s < 0):YE left s=left - s:=if_neg h
def cz (c:GN):Nat:=c.fields.length
def dz (d:Ac):Nat:=d.cons.length+(d.cons.map cz).sum
end RC
namespace RC
open Go
end RC



namespace RC
open Go
end RC


namespace RC
open Go
end RC



namespace RC
open Go
section
variable {im : Wd} {p : Vj} {at_ : Nat} {i : UT} {N : Nat}
end
end RC



namespace RC
open Go
theorem P3 {α:Type} (f:α→Nat) {l:List α} {x:α} (h:x∈l):f x≤(l.map f).sum:=by
 induction l with
 | nil=>cases h
 | cons y r ih=>
  rw[List.map_cons,List.sum_cons]
  rcases List.mem_cons.1 h with rfl | h
  ·omega
  ·have:=ih h;omega
end RC



namespace RC
open Go
end RC



namespace RC
open Go
end RC



namespace RC
open Go
mutual
def en:AP→Nat | .mk _ _ k=>1+B2 k
def B2:List AP→Nat | []=>0 | e :: l=>en e+B2 l
end
theorem G5 (e:AP):en e=1+B2 e.kids:=by cases e;simp[en,AP.kids]
theorem RQ {k:List AP} {i:Nat} {e:AP} (h:k[i]?=some e):B2 (k.drop i)=en e+B2 (k.drop (i+1)):=by rw[drop_cons h];simp[B2]
theorem KK (e:AP):1≤en e:=by rw[G5];omega
theorem LM {k:List AP} {e:AP} (h:e∈k):en e≤B2 k:=by
 induction k with
 | nil=>cases h
 | cons c k ih=>
  simp only[B2]
  rcases List.mem_cons.1 h with rfl | h
  ·omega
  ·have:=ih h;omega
theorem IF (k:List AP):k.length≤B2 k:=by
 induction k with
 | nil=>simp
 | cons c k ih=>have:=KK c;simp only[B2,List.length_cons];omega
theorem D6 {e k:AP} (h:k∈e.kids):en k < en e:=by have:=LM h;rw[G5 e];omega
def Wl (f:Ar):Nat:=f.params.length+B2 f.body.kids
def WM (p:Ai):Nat:=(p.decls.length+(p.decls.map dz).sum) + (p.funcs.length+(p.funcs.map Wl).sum)
theorem Oy {N:Nat} (hN:2000000≤N) :∀(n:Nat) (e:AP) (left:Int),left≤1000→0≤left→left < n→B2 e.kids≤1048576→Dh N n e left=some (YE left (en e)):=by
 intro n
 induction n with
 | zero=>intro e left _ _ h;omega
 | succ n ih=>
  intro e left h0 hl0 h1 hz
  rw[Dh]
  unfold GU
  have hp:=G5 e
  have hle:=IF e.kids
  by_cases h2:left < 1
  ·rw[if_pos (by simpa using h2),NW (by omega)]
  ·rw[if_neg (by simpa using h2),BN (by omega) (by omega)]
   have key :∀{M i:Nat},i≤e.kids.length→e.kids.length - i < M→∀l:Int,0≤l→l < left→CO e (Dh N n) M l i=some (if l - (B2 (e.kids.drop i):Int) < 0 then .inl (-1) else .inr (l - (B2 (e.kids.drop i):Int))):=by
    intro M i hi hM
    refine Bl e.kids.length (fun M i=>∀l:Int,0≤l→l < left→CO e (Dh N n) M l i=some (if l - (B2 (e.kids.drop i):Int) < 0 then .inl (-1) else .inr (l - (B2 (e.kids.drop i):Int)))) ?_ ?_ hi hM
    ·intro m l l0 l1
     rw[CO,if_neg (by simp[Aa])]
     simp[B2];omega
    ·intro m i hi ih2 l l0 l1
     obtain⟨x,hx,hxm⟩:=Bq hi
     have hz2:=LM hxm
     have e1:=G5 x
     rw[CO,if_pos (by simp[Aa];omega),BL hx]
     simp only[Option.bind_some]
     rw[ih x l (by omega) l0 (by omega) (by omega),RQ hx]
     simp only[Option.bind_some]
     by_cases h3:l - (en x:Int) < 0
     ·rw[NW h3,if_pos (by simp),if_pos (by omega)]
     ·rw[Ps h3,if_neg (by simpa using h3),BN (by omega) (by omega),show ((i:Int) + 1)=((i+1:Nat):Int) by omega,ih2 (l - (en x:Int)) (by omega) (by omega)]
      rw[show l - (en x:Int) - (B2 (e.kids.drop (i+1)):Int)=l - ((en x+B2 (e.kids.drop (i+1)):Nat):Int) by omega]
   have:=key (Nat.zero_le _) (by omega:e.kids.length - 0 < N) (left - 1) (by omega) (by omega)
   rw[show ((0:Nat):Int)=0 from rfl,List.drop_zero] at this
   rw[this]
   by_cases h3:left - 1 - (B2 e.kids:Int) < 0
   ·rw[if_pos h3,NW (by omega)];rfl
   ·rw[if_neg h3,Ps (by omega)]
    simp only[Sh.J3]
    congr 1;omega
theorem Gz {e:AP} (hz:B2 e.kids≤1048576) {N:Nat} (hN:2000000≤N):FJ N e=some (if en e≤30 then (en e:Int) else -1):=by
 unfold FJ IX
 rw[Oy hN N e 30 (by omega) (by omega) (by omega) hz]
 simp only[Option.bind_some]
 by_cases h:en e≤30
 ·rw[Ps (by omega),if_pos h,if_neg (by simp;omega),BN (by omega) (by omega)]
  congr 1;omega
 ·rw[NW (by omega),if_neg h];rfl
theorem OO {N:Nat} (hN:2000000≤N) :∀(n:Nat) (e:AP) (c:Nat),c≤30→31 - c < n→B2 e.kids≤1048576→DQ N n c e=some (if c+en e≤30 then (true,((c+en e:Nat):Int)) else (false,31)):=by
 intro n
 induction n with
 | zero=>intro e c _ h;omega
 | succ n ih=>
  intro e c h0 h1 hz
  rw[DQ]
  unfold Fp
  have hp:=G5 e
  have hle:=IF e.kids
  rw[BN (by omega) (by omega)]
  by_cases h2:c=30
  ·subst h2
   rw[if_pos (by simp),if_neg (by omega)];rfl
  ·rw[if_neg (by simp;omega)]
   have key :∀{M i:Nat},i≤e.kids.length→e.kids.length - i < M→∀d:Nat,c < d→d≤30→CK e (DQ N n) M i d=some (if d+B2 (e.kids.drop i)≤30 then .inr ((d+B2 (e.kids.drop i):Nat):Int) else .inl (false,31)):=by
    intro M i hi hM
    refine Bl e.kids.length (fun M i=>∀d:Nat,c < d→d≤30→CK e (DQ N n) M i d=some (if d+B2 (e.kids.drop i)≤30 then .inr ((d+B2 (e.kids.drop i):Nat):Int) else .inl (false,31))) ?_ ?_ hi hM
    ·intro m d l0 l1
     rw[CK,if_neg (by simp[Aa])]
     simp[B2,l1]
    ·intro m i hi ih2 d l0 l1
     obtain⟨x,hx,hxm⟩:=Bq hi
     have hz2:=LM hxm
     have e1:=G5 x
     rw[CK,if_pos (by simp[Aa];omega),BL hx]
     simp only[Option.bind_some]
     rw[ih x d l1 (by omega) (by omega),RQ hx]
     simp only[Option.bind_some]
     by_cases h3:d+en x≤30
     ·rw[if_pos h3]
      simp only[Bool.not_true,Bool.false_eq_true,if_false]
      rw[BN (by omega) (by omega),show ((i:Int) + 1)=((i+1:Nat):Int) by omega,ih2 (d+en x) (by omega) h3,Nat.add_assoc]
     ·have h4:¬ (d+(en x+B2 (List.drop (i+1) e.kids))≤30):=by omega
      rw[if_neg h3,if_neg h4];rfl
   have:=key (Nat.zero_le _) (by omega:e.kids.length - 0 < N) (c+1) (by omega) (by omega)
   rw[show ((0:Nat):Int)=0 from rfl,List.drop_zero,show ((c+1:Nat):Int)=(c:Int) + 1 by omega] at this
   rw[this]
   by_cases h3:c+1+B2 e.kids≤30
   ·rw[if_pos h3,if_pos (by omega)]
    simp only[Sh.J3]
    rw[show c+1+B2 e.kids=c+en e by omega]
   ·rw[if_neg h3,if_neg (by omega)];rfl
theorem OP {e:AP} (hz:B2 e.kids≤1048576) {N:Nat} (hN:2000000≤N):HD N e=some (if en e≤30 then (en e:Int) else -1):=by
 unfold HD H4
 have:=OO hN N e 0 (by omega) (by omega) hz
 rw[show ((0:Nat):Int)=0 from rfl,Nat.zero_add] at this
 rw[this]
 simp only[Option.bind_some]
 by_cases h:en e≤30
 ·rw[if_pos h,if_pos h];rfl
 ·rw[if_neg h,if_neg h];rfl
end RC



namespace RC
open Go
theorem Le {α:Type} {g:Nat→α→Bool} :∀(l:List α) (k:Nat),ED g k l=true↔∀(i:Nat) x,l[i]?=some x→g (k+i) x=true
 | [],_=>by simp[ED]
 | x :: r,k=>by
  rw[ED,Bool.and_eq_true,Le r (k+1)]
  constructor
  ·rintro⟨h1,h2⟩ i y hy
   cases i with
   | zero=>simp only[List.getElem?_cons_zero,Option.some.injEq] at hy;subst hy;exact h1
   | succ i=>have:=h2 i y hy;rw[show k+(i+1)=k+1+i by omega];exact this
  ·intro h
   exact⟨h 0 x rfl,fun i y hy=>by have:=h (i+1) y hy;rw[show k+(i+1)=k+1+i by omega] at this;exact this⟩
theorem Np {a b:List Int} (h:a.length=b.length):ED (fun i x=>decide (b[i]?=some x)) 0 a=decide (a=b):=by
 rw[Bool.eq_iff_iff,Le,decide_eq_true_iff]
 constructor
 ·intro g
  refine List.ext_getElem? fun i=>?_
  by_cases hi:i < a.length
  ·obtain⟨x,hx,_⟩:=Bq hi
   have:=g i x hx
   rw[decide_eq_true_iff,Nat.zero_add] at this
   rw[hx,this]
  ·rw[List.getElem?_eq_none (by omega),List.getElem?_eq_none (by omega)]
 ·rintro rfl i x hx
  rw[decide_eq_true_iff,Nat.zero_add,hx]
theorem J9 {a b:List Int} (ha:a.length≤1048576) {N:Nat} (hN:2000000≤N):CJ N a b=some (decide (a=b)):=by
 unfold CJ
 by_cases h:a.length=b.length
 ·rw[if_neg (by simp[Aa,h]),D4 (l:=a) (CE a b) (fun i x=>decide (b[i]?=some x)) (fun n=>by rw[CE,if_neg (by simp[Aa])]) (fun n i x hx=>?_) (by omega),D3,Np h]
  ·cases decide (a=b) <;> rfl
  ·have hi:=(List.getElem?_eq_some_iff.1 hx).1
   obtain⟨y,hy,_⟩:=Bq (l:=b) (i:=i) (by omega)
   rw[CE,if_pos (by simp[Aa];omega),BL hx]
   simp only[Option.bind_some]
   rw[BL hy,hy,BN (by omega) (by omega),show ((i:Int) + 1)=((i+1:Nat):Int) by omega]
   simp only[Option.bind_some]
   by_cases e:x=y
   ·simp[e]
   ·have e':¬ y=x:=fun q=>e q.symm
    simp[e,e']
 ·have hne:¬ a=b:=fun e=>h (by rw[e])
  have h':¬ ((a.length:Int)=(b.length:Int)):=by omega
  simp[Aa,h',hne]
structure GG (D:List Ac) (F:List Ar):Prop where
 QC:D.length≤4
 WA :∀d∈D,d.cons.length≤3
 LI :∀d∈D,∀c∈d.cons,c.fields.length≤3∧∀t∈c.fields,Db D t=true
 XJ :∀d∈D,Db D d.from_=true∧Db D d.to=true
 Jo:F.length≤4
 P2 :∀f∈F,f.params.length≤3∧(∀t∈f.params,Db D t=true)∧Db D f.result=true
theorem V8 {D:List Ac} (h :∀d∈D,d.cons.length≤3):nc D≤3 * D.length:=by
 induction D with
 | nil=>simp[nc]
 | cons d r ih=>
  have h1:=h d (by simp)
  have h2:=ih fun e he=>h e (by simp[he])
  simp only[nc,List.map_cons,List.sum_cons,List.length_cons] at h2 ⊢
  omega
theorem GG.nc {D:List Ac} {F:List Ar} (S:GG D F):nc D≤12:=by have:=V8 S.WA;have:=S.QC;omega
theorem JY {D:List Ac} {t:Int} (h:Db D t=true):0≤t∧t≤(D.length:Int):=by
 unfold Db at h
 simpa using h
theorem GG.of {p:Ai} (h:KP p.decls (p.funcs.map fun f=>(f.params,f.result))=true):GG p.decls p.funcs:=by
 unfold KP at h
 simp only[Bool.and_eq_true,List.length_map,List.all_map,decide_eq_true_eq] at h
 obtain⟨h1,⟨_,h2⟩,h3,_⟩:=h
 unfold JM at h1
 simp only[Bool.and_eq_true,decide_eq_true_eq] at h1
 obtain⟨h4,h5⟩:=h1
 rw[Le] at h5
 have hd :∀d∈p.decls,∃i,IV p.decls i d=true:=fun d hd=>by
  obtain⟨i,hi⟩:=List.mem_iff_getElem?.1 hd
  exact⟨_,h5 i d hi⟩
 refine⟨h4,fun d hm=>?_,fun d hm c hc=>?_,fun d hm=>?_,h2,fun f hf=>?_⟩
 ·obtain⟨i,hi⟩:=hd d hm
  unfold IV at hi
  split at hi
  ·simp only[Bool.and_eq_true,decide_eq_true_eq] at hi;exact hi.1.1
  ·omega
 ·obtain⟨i,hi⟩:=hd d hm
  unfold IV at hi
  split at hi
  ·simp only[Bool.and_eq_true,decide_eq_true_eq,List.all_eq_true] at hi
   have:=hi.2 c hc
   unfold L7 at this
   simp only[Bool.and_eq_true,decide_eq_true_eq,List.all_eq_true] at this
   exact this
  ·have:=List.length_pos_of_mem hc;omega
 ·obtain⟨i,hi⟩:=hd d hm
  unfold IV at hi
  split at hi
  ·simp only[Bool.and_eq_true,decide_eq_true_eq] at hi
   rw[hi.1.2.1,hi.1.2.2]
   have:Db p.decls 0=true:=by unfold Db;simp
   exact⟨this,this⟩
  ·simp only[Bool.and_eq_true] at hi;exact hi.2
 ·have:=List.all_eq_true.1 h3 f hf
  simp only[Function.comp,Ju,Bool.and_eq_true,decide_eq_true_eq,List.all_eq_true] at this
  exact this
def Jp (p:Ai) (sg:BI) (R1:Ai→List Int→AP→Option Int) (R2:List Int→BI→AP→Option Int) (T:List Int→AP→Int) (m:Nat):Prop:=
 ∀(v:List Int) (e:AP),A3 e→en e < m→v.length+3 * en e≤1000→(∀x∈v,Db p.decls x=true)→R1 p v e=some (T v e)∧R2 v sg e=some (T v e)∧(T v e=-1∨Db p.decls (T v e)=true)
section
variable {p : Ai} {sg : BI} {R1 : Ai → List Int → AP → Option Int} {R2 : List Int → BI → AP → Option Int} {T : List Int → AP → Int} {e : AP} {v : List Int} {N : Nat}
structure HX (p:Ai) (e:AP) (v:List Int):Prop where
 len:v.length+3 * en e≤1000
 L3 :∀x∈v,Db p.decls x=true
 small:en e≤340
 Ck:A3 e
theorem HX.N0 (V:HX p e v) {k:AP} (hk:k∈e.kids):v.length+3 * en k≤1000:=by have:=V.len;have:=D6 hk;omega
theorem HX.more (V:HX p e v) {k:AP} (hk:k∈e.kids) {m:List Int} (hm:m.length≤3):(v ++ m).length+3 * en k≤1000:=by have:=V.len;have:=D6 hk;rw[List.length_append];omega
theorem HX.Q9 (V:HX p e v) {m:List Int} (hm :∀x∈m,Db p.decls x=true) :∀x∈v ++ m,Db p.decls x=true:=fun x hx=>by
 rcases List.mem_append.1 hx with h | h
 ·exact V.L3 x h
 ·exact hm x h
theorem HX.Kh (V:HX p e v):e.kids.length≤340:=by have:=IF e.kids;have:=V.small;have:=G5 e;omega
theorem Ob (H:Jp p sg R1 R2 T (en e)) (V:HX p e v) (hN:2000000≤N) (m:Nat):GB N R1 p v e.kids m=some (decide (e.kids.map (T v)=List.replicate m 0)):=by
 unfold GB
 have hk:=V.Kh
 by_cases h:e.kids.length=m
 ·subst h
  rw[if_neg (by simp[Aa]),D4 (l:=e.kids) (D5 p v e.kids e.kids.length R1) (fun _ x=>decide (T v x=0)) (fun n=>by rw[D5,if_neg (by simp)]) (fun n i x hx=>?_) (by omega),D3,Eg]
  ·have e1:e.kids.all (fun x=>decide (T v x=0))=decide (e.kids.map (T v)=List.replicate e.kids.length 0):=by
    rw[Bool.eq_iff_iff,decide_eq_true_iff,List.all_eq_true,List.eq_replicate_iff]
    simp
   rw[e1]
   cases decide (e.kids.map (T v)=List.replicate e.kids.length 0) <;> rfl
  ·have hi:=(List.getElem?_eq_some_iff.1 hx).1
   have hm:=List.mem_of_getElem? hx
   rw[D5,if_pos (by simp;omega),BL hx]
   simp only[Option.bind_some]
   rw[(H v x (V.Ck.kids x hm) (D6 hm) (V.N0 hm) V.L3).1,BN (by omega) (by omega),show ((i:Int) + 1)=((i+1:Nat):Int) by omega]
   simp only[Option.bind_some]
   by_cases e1:T v x=0 <;> simp[e1]
 ·have h1:¬ ((e.kids.length:Int)=(m:Int)):=by omega
  have h2:¬ e.kids.map (T v)=List.replicate m 0:=fun q=>h (by have:=congrArg List.length q;simpa using this)
  simp[Aa,h1,h2]
theorem OJ (H:Jp p sg R1 R2 T (en e)) (V:HX p e v) (hN:2000000≤N) (l:List Int):Gf N R1 p v e.kids l=some (decide (e.kids.map (T v)=l)):=by
 unfold Gf
 have hk:=V.Kh
 by_cases h:e.kids.length=l.length
 ·rw[if_neg (by simp[Aa,h]),D4 (l:=l) (Eb p v e.kids l R1) (fun i x=>decide ((e.kids.map (T v))[i]?=some x)) (fun n=>by rw[Eb,if_neg (by simp[Aa])]) (fun n i x hx=>?_) (by omega),D3,Np (by simp[h])]
  ·by_cases q:l=e.kids.map (T v)
   ·simp[q]
   ·have q':¬ e.kids.map (T v)=l:=fun z=>q z.symm
    simp[q,q']
  ·have hi:=(List.getElem?_eq_some_iff.1 hx).1
   obtain⟨y,hy,hm⟩:=Bq (l:=e.kids) (i:=i) (by omega)
   rw[Eb,if_pos (by simp[Aa];omega),BL hy]
   simp only[Option.bind_some]
   rw[(H v y (V.Ck.kids y hm) (D6 hm) (V.N0 hm) V.L3).1,BL hx,BN (by omega) (by omega),show ((i:Int) + 1)=((i+1:Nat):Int) by omega]
   simp only[Option.bind_some]
   rw[List.getElem?_map,hy,Option.map_some]
   by_cases e1:T v y=x <;> simp[e1]
 ·have h1:¬ ((e.kids.length:Int)=(l.length:Int)):=by omega
  have h2:¬ e.kids.map (T v)=l:=fun q=>h (by have:=congrArg List.length q;simpa using this)
  simp[Aa,h1,h2]
theorem Rt (H:Jp p sg R1 R2 T (en e)) (V:HX p e v) (hN:2000000≤N) :
  Bg v sg e R2 N 0 (List.replicate e.kids.length 0)=some (if (e.kids.map (T v)).any (fun t=>decide (t < 0))=true then .inl (-1) else .inr (e.kids.map (T v))):=by
 have hk:=V.Kh
 have key :∀{N i:Nat},i≤e.kids.length→e.kids.length - i < N→∀m:List Int,m.length=e.kids.length→m.take i=(e.kids.map (T v)).take i→
   Bg v sg e R2 N i m=some (if ((e.kids.map (T v)).drop i).any (fun t=>decide (t < 0))=true then .inl (-1) else .inr (e.kids.map (T v))):=by
  intro N i hi hN
  refine Bl e.kids.length (fun N i=>∀m:List Int,m.length=e.kids.length→m.take i=(e.kids.map (T v)).take i→
   Bg v sg e R2 N i m=some (if ((e.kids.map (T v)).drop i).any (fun t=>decide (t < 0))=true then .inl (-1) else .inr (e.kids.map (T v)))) ?_ ?_ hi hN
  ·intro n m a b
   rw[Bg,if_neg (by simp[Aa])]
   rw[List.take_of_length_le (by omega),List.take_of_length_le (by simp)] at b
   rw[b,List.drop_of_length_le (by simp)];simp
  ·intro n i hi ih m a b
   obtain⟨x,hx,hxm⟩:=Bq hi
   obtain⟨y,hy,_⟩:=Bq (l:=m) (i:=i) (by omega)
   have hx2:(e.kids.map (T v))[i]?=some (T v x):=by rw[List.getElem?_map,hx];rfl
   have hi':(m.set i (T v x))[i]?=some (T v x):=by rw[List.getElem?_set_self (by omega)]
   rw[Bg,if_pos (by simp[Aa];omega),BL hx]
   simp only[Option.bind_some]
   rw[(H v x (V.Ck.kids x hxm) (D6 hxm) (V.N0 hxm) V.L3).2.1,BL hy]
   simp only[Option.bind_some]
   rw[Pc,BL hi',drop_cons hx2]
   simp only[Option.bind_some,List.any_cons]
   by_cases h:T v x < 0
   ·simp[h]
   ·rw[if_neg (by simpa using h),BN (by omega) (by omega),show ((i:Int) + 1)=((i+1:Nat):Int) by omega,ih (m.set i (T v x)) (by simp[a]) (by rw[Gs hi',Gs hx2,← b,List.take_set_of_le (Nat.le_refl _)])]
    simp[h]
 have:=key (Nat.zero_le _) (by omega:e.kids.length - 0 < N) (List.replicate e.kids.length 0) (by simp) rfl
 simpa using this
theorem Gk {a b:List Int} (ha:a.length≤1000) (hb:b.length≤1000):DK a b=some (a ++ b):=by
 unfold DK Hq
 rw[GW [] a 8 (by simp;omega) (by simp;omega)]
 simp only[Option.bind_some,List.nil_append]
 rw[GW a b 8 (by omega) (by omega)];rfl
theorem Tl {a b:List Int} (ha:a.length≤1000) (hb:b.length≤1000) (hN:2000000≤N):EE N [a,b]=some (a ++ b):=by
 obtain⟨n,rfl⟩ :∃n,N=n+3:=⟨N - 3,by omega⟩
 unfold EE
 have e1:Bv [a,b] (n+3) 0 0=some ((a.length+b.length:Nat):Int):=by
  rw[Bv,if_pos (by simp[Aa]),show Sh.get [a,b] 0=some a from rfl]
  simp only[Option.bind_some]
  rw[Aa,BN (n:=(0:Int) + 1) (by omega) (by omega),BN (by omega) (by omega),if_neg (by rw[decide_eq_true_eq];omega)]
  rw[Bv,if_pos (by simp[Aa]),show Sh.get [a,b] (0+1)=some b from rfl]
  simp only[Option.bind_some]
  rw[Aa,BN (n:=(0:Int) + 1+1) (by omega) (by omega),BN (by omega) (by omega),if_neg (by rw[decide_eq_true_eq];omega)]
  rw[Bv,if_neg (by simp[Aa])]
  congr 1;omega
 have e2:Bw [a,b] (n+3) 0 []=some (a ++ b):=by
  rw[Bw,if_pos (by simp[Aa]),show Sh.get [a,b] 0=some a from rfl]
  simp only[Option.bind_some]
  rw[GW [] a 8 (by simp;omega) (by simp;omega),BN (n:=(0:Int) + 1) (by omega) (by omega)]
  simp only[Option.bind_some,List.nil_append]
  rw[Bw,if_pos (by simp[Aa]),show Sh.get [a,b] (0+1)=some b from rfl]
  simp only[Option.bind_some]
  rw[GW a b 8 (by omega) (by omega),BN (n:=(0:Int) + 1+1) (by omega) (by omega)]
  simp only[Option.bind_some]
  rw[Bw,if_neg (by simp[Aa])]
 have e3:Ea ((a.length+b.length:Nat):Int)=some []:=by
  unfold Ea
  rw[if_neg (by simp;omega),BN (n:=(0:Int) - 0) (by omega) (by omega),BN (by omega) (by omega)]
  by_cases h:0 < a.length+b.length
  ·rw[if_pos (by simp;omega),show (((a.length+b.length:Nat):Int) - (0 - 0))=((a.length+b.length:Nat):Int) by omega,Me _ _ _ (by omega) (by omega)]
   simp only[Option.bind_some]
   have:=Vl (l:=List.replicate (a.length+b.length) (0:Int)) (j:=0) (by omega)
   rw[show ((0:Nat):Int)=0 from rfl] at this
   rw[this];rfl
  ·rw[if_neg (by simp;omega)];rfl
 rw[e1]
 simp only[Option.bind_some]
 rw[e3]
 simp only[Option.bind_some]
 rw[e2];rfl
def Ku:List Int→Int
 | []=>-1
 | t :: r=>if r.all (fun x=>decide (x=t))=true then t else -1
theorem JP (H:Jp p sg R1 R2 T (en e)) (V:HX p e v) (hN:2000000≤N) {ks:List AP} {ms:List (List Int)} (hks :∀k∈ks,k∈e.kids) (hkl:ks.length≤340) (hl:ms.length=ks.length) (hm :∀m∈ms,m.length≤3∧∀x∈m,Db p.decls x=true) :
  C6 N R2 sg v ks ms=some (Ku (List.zipWith (fun m k=>T (v ++ m) k) ms ks)):=by
 unfold C6
 have hvl:v.length≤1000:=by have:=V.len;omega
 have step :∀(n i:Nat) (r:Int) k m,ks[i]?=some k→ms[i]?=some m→BU N sg v ks ms R2 (n+1) r i=if T (v ++ m) k < 0∨(0 < i∧T (v ++ m) k≠r) then some (.inl (-1)) else BU N sg v ks ms R2 n (T (v ++ m) k) ((i+1:Nat):Int):=by
  intro n i r k m hk hmm
  have hi:=(List.getElem?_eq_some_iff.1 hk).1
  have hmo:=hm m (List.mem_of_getElem? hmm)
  have hke:=hks k (List.mem_of_getElem? hk)
  rw[BU,if_pos (by simp[Aa];omega),BL hk]
  simp only[Option.bind_some]
  rw[BL hmm]
  simp only[Option.bind_some]
  rw[Tl hvl (by omega) hN]
  simp only[Option.bind_some]
  rw[(H (v ++ m) k (V.Ck.kids k hke) (D6 hke) (V.more hke hmo.1) (V.Q9 hmo.2)).2.1]
  simp only[Option.bind_some]
  rw[BN (by omega) (by omega),show ((i:Int) + 1)=((i+1:Nat):Int) by omega]
  by_cases h1:T (v ++ m) k < 0
  ·simp[h1]
  ·by_cases h2:0 < i
   ·by_cases h3:T (v ++ m) k=r
    ·have h1':¬ r < 0:=h3 ▸ h1
     simp[h1',h2,h3]
    ·simp[h1,h2,h3]
   ·simp[h1,h2]
 have rest :∀(d i n:Nat) (r:Int),ks.length - i=d→0 < i→i≤ks.length→d < n→BU N sg v ks ms R2 n r i=some (if ((List.zipWith (fun m k=>T (v ++ m) k) ms ks).drop i).all (fun x=>decide (x=r))=true then (if ((List.zipWith (fun m k=>T (v ++ m) k) ms ks).drop i).any (fun x=>decide (x < 0))=true then .inl (-1) else .inr r) else .inl (-1)):=by
  intro d
  induction d with
  | zero=>
   intro i n r h1 h2 h3 h4
   obtain⟨n,rfl⟩ :∃q,n=q+1:=⟨n - 1,by omega⟩
   rw[BU,if_neg (by simp[Aa];omega),List.drop_of_length_le (by simp;omega)];rfl
  | succ d ih=>
   intro i n r h1 h2 h3 h4
   obtain⟨n,rfl⟩ :∃q,n=q+1:=⟨n - 1,by omega⟩
   obtain⟨k,hk,_⟩:=Bq (l:=ks) (i:=i) (by omega)
   obtain⟨m,hmm,_⟩:=Bq (l:=ms) (i:=i) (by omega)
   have hz:(List.zipWith (fun m k=>T (v ++ m) k) ms ks)[i]?=some (T (v ++ m) k):=by rw[List.getElem?_zipWith,hk,hmm]
   rw[step n i r k m hk hmm,drop_cons hz,List.all_cons,List.any_cons]
   by_cases h5:T (v ++ m) k=r
   ·by_cases h6:T (v ++ m) k < 0
    ·rw[if_pos (.inl h6)]
     have h6':r < 0:=h5 ▸ h6
     simp[h5,h6']
    ·rw[if_neg (by rintro (h | h);exact h6 h;exact h.2 h5),ih (i+1) n _ (by omega) (by omega) (by omega) (by omega)]
     have h6':¬ r < 0:=h5 ▸ h6
     simp[h5,h6']
   ·rw[if_pos (.inr ⟨h2,h5⟩)]
    simp[h5]
 cases hks0:ks with
 | nil=>
  obtain⟨n,rfl⟩ :∃q,N=q+1:=⟨N - 1,by omega⟩
  rw[BU,if_neg (by simp[Aa])]
  simp[Ku]
 | cons k r=>
  cases hms0:ms with
  | nil=>rw[hks0,hms0] at hl;simp at hl
  | cons m s=>
   rw[← hks0,← hms0]
   obtain⟨n,hn⟩ :∃q,N=q+1:=⟨N - 1,by omega⟩
   have h0:=step n 0 (-1) k m (by rw[hks0];rfl) (by rw[hms0];rfl)
   rw[show ((0:Nat):Int)=0 from rfl] at h0
   have hke:=hks k (by rw[hks0];simp)
   have hmo:=hm m (by rw[hms0];simp)
   have hT:=(H (v ++ m) k (V.Ck.kids k hke) (D6 hke) (V.more hke hmo.1) (V.Q9 hmo.2)).2.2
   rw[show BU N sg v ks ms R2 N (-1) 0=BU N sg v ks ms R2 (n+1) (-1) 0 by rw[← hn],h0]
   have hzc:List.zipWith (fun m k=>T (v ++ m) k) ms ks=T (v ++ m) k :: List.zipWith (fun m k=>T (v ++ m) k) s r:=by rw[hks0,hms0];rfl
   rw[hzc]
   unfold Ku
   by_cases h1:T (v ++ m) k < 0
   ·rw[if_pos (.inl h1)]
    have:T (v ++ m) k=-1:=by
     rcases hT with h | h
     ·exact h
     ·have:=(JY h).1;omega
    rw[this]
    simp
   ·rw[if_neg (by rintro (h | h);exact h1 h;omega),rest _ 1 n _ rfl (by omega) (by rw[hks0];simp) (by omega),hzc,List.drop_succ_cons,List.drop_zero]
    by_cases h2:(List.zipWith (fun m k=>T (v ++ m) k) s r).all (fun x=>decide (x=T (v ++ m) k))=true
    ·have h3:¬ (List.zipWith (fun m k=>T (v ++ m) k) s r).any (fun x=>decide (x < 0))=true:=fun h=>by
      obtain⟨x,hx,hx2⟩:=List.any_eq_true.1 h
      have:=List.all_eq_true.1 h2 x hx
      simp only[decide_eq_true_eq] at this hx2
      omega
     rw[if_pos h2,if_neg h3]
     dsimp only
     rw[if_pos h2];rfl
    ·rw[if_neg h2]
     dsimp only
     rw[if_neg h2];rfl
end
end RC



namespace RC
open Go
theorem UP {n:Int} (h1:n < -9223372036854775808) (h2:-18446744073709551616≤n):Sh.w n=n+18446744073709551616:=by
 unfold Sh.w
 rw[IntKind.wrap_i64];omega
theorem Ox {D:List Ac} (hD:D.length≤1048576) (hn:nc D≤1048576) {c:Int} (hI:Ij c) (hc:c < 0∨(nc D:Int)≤c) {N:Nat} (hN:2000000≤N):Fi N D c=some (-1,⟨[]⟩):=by
 have key :∀(m j N:Nat) (c:Int),D.length - j=m→j≤D.length→m < N→Ij c→(c < 0∨(nc (D.drop j):Int)≤c)→Dn D N c j=some (.inr ()):=by
  intro m
  induction m with
  | zero=>
   intro j N c h1 h2 h3 _ _
   obtain⟨N,rfl⟩ :∃n,N=n+1:=⟨N - 1,by omega⟩
   rw[Dn,if_neg (by simp[Aa];omega)]
  | succ m ih=>
   intro j N c h1 h2 h3 hI h4
   obtain⟨N,rfl⟩ :∃n,N=n+1:=⟨N - 1,by omega⟩
   obtain⟨d,hd,_⟩:=Bq (l:=D) (i:=j) (by omega)
   have hs:=E3 D j
   rw[Ni hd] at h4 hs
   rw[Dn,if_pos (by simp[Aa];omega),BL hd]
   simp only[Option.bind_some]
   have hlo:=hI.1
   have hhi:=hI.2
   have e1:¬ (0≤c∧c < (d.cons.length:Int)):=by omega
   have e2:(if decide (0≤c)=true then some (decide (c < Sh.len d.cons)) else some false)=some false:=by
    by_cases h0:0≤c
    ·have:¬ c < (d.cons.length:Int):=by omega
     simp[h0,Aa,this]
    ·simp[h0]
   rw[BN (n:=(j:Int) + 1) (by omega) (by omega),show ((j:Int) + 1)=((j+1:Nat):Int) by omega,Aa]
   rw[Aa] at e2
   by_cases h5:c - (d.cons.length:Int) < -9223372036854775808
   ·have:=ih (j+1) N (Sh.w (c - (d.cons.length:Int))) (by omega) (by omega) (by omega) (by rw[UP h5 (by omega)];unfold Ij;omega) (by rw[UP h5 (by omega)];omega)
    rw[e2]
    simp only[Option.bind_some,Bool.false_eq_true,if_false]
    exact this
   ·have:=ih (j+1) N (Sh.w (c - (d.cons.length:Int))) (by omega) (by omega) (by omega) (by rw[BN (by omega) (by omega)];unfold Ij;omega) (by rw[BN (by omega) (by omega)];omega)
    rw[e2]
    simp only[Option.bind_some,Bool.false_eq_true,if_false]
    exact this
 have:=key D.length 0 N c (by omega) (by omega) (by omega) hI (by simpa using hc)
 unfold Fi
 rw[show (((0:Nat):Int))=0 from rfl] at this
 rw[this];rfl
theorem Ln :∀{D:List Ac} {k c t:Nat} {x:GN},FQ D k c=some (t,x)→k < t∧t≤k+D.length∧∃d∈D,x∈d.cons
 | [],_,_,_,_,h=>by simp[FQ] at h
 | d :: r,k,c,t,x,h=>by
  unfold FQ at h
  cases hx:d.cons[c]? with
  | some y=>
   rw[hx] at h
   simp only[Option.some.injEq,Prod.mk.injEq] at h
   obtain⟨rfl,rfl⟩:=h
   exact⟨by omega,by simp,d,by simp,List.mem_of_getElem? hx⟩
  | none=>
   rw[hx] at h
   obtain⟨h1,h2,e,h3,h4⟩:=Ln h
   exact⟨by omega,by simp;omega,e,by simp[h3],h4⟩
def OI (a b:Int) (d:Ac):Bool:=decide (d.cons.length=0) && (decide (d.from_=a) && decide (d.to=b))
def F3 (a b:Int):List Ac→Nat→Int
 | [],_=>-1
 | d :: r,k=>if OI a b d=true then (k:Int) + 1 else F3 a b r (k+1)
theorem S4 {a b:Int} :∀(l:List Ac) (k:Nat),F3 a b l k=-1∨((k:Int) < F3 a b l k∧F3 a b l k≤k+l.length)
 | [],_=>.inl rfl
 | d :: r,k=>by
  unfold F3
  by_cases h:OI a b d=true
  ·rw[if_pos h];right;simp only[List.length_cons];omega
  ·rw[if_neg h]
   rcases S4 r (k+1) with h1 | h1
   ·exact .inl h1
   ·right;simp only[List.length_cons];omega
theorem Q6 {a b:Int} {d:Ac}:(if decide ((Sh.len d.cons)=0)=true then if decide (d.from_=a)=true then some (decide (d.to=b)) else some false else some false)=some (OI a b d):=by
 unfold OI
 by_cases h1:d.cons.length=0 <;> by_cases h2:d.from_=a <;> simp[Aa,h1,h2]
theorem Js {D:List Ac} (hD:D.length≤1048576) {a b:Int} {N:Nat} (hN:2000000≤N):F6 N D a b=some (F3 a b D 0):=by
 unfold F6
 have key :∀{M i:Nat},i≤D.length→D.length - i < M→Sh.cont (DY D a b M i) id (fun ()=>some (-1))=some (F3 a b (D.drop i) i):=by
  intro M i hi hM
  refine Bl D.length (fun M i=>Sh.cont (DY D a b M i) id (fun ()=>some (-1))=some (F3 a b (D.drop i) i)) ?_ ?_ hi hM
  ·intro n;rw[DY,if_neg (by simp[Aa])];simp[F3,Sh.cont]
  ·intro n i hi ih
   obtain⟨d,hd,_⟩:=Bq hi
   rw[DY,if_pos (by simp[Aa];omega),BL hd,drop_cons hd]
   simp only[Option.bind_some]
   rw[Q6,BN (by omega) (by omega),show ((i:Int) + 1)=((i+1:Nat):Int) by omega]
   simp only[Option.bind_some,F3]
   by_cases h:OI a b d=true
   ·rw[if_pos h,if_pos h];simp[Sh.cont]
   ·rw[if_neg h,if_neg h,ih]
 have:=key (Nat.zero_le _) (by omega:D.length - 0 < N)
 simpa using this
theorem Nx {D:List Ac} (hD:D.length≤1048576) {a b:Int} {N:Nat} (hN:2000000≤N):HA N D a b=some (F3 a b D 0):=by
 unfold HA
 have key :∀{M i:Nat},i≤D.length→D.length - i < M→Sh.cont (Dc D a b M i) id (fun ()=>some (-1))=some (F3 a b (D.drop i) i):=by
  intro M i hi hM
  refine Bl D.length (fun M i=>Sh.cont (Dc D a b M i) id (fun ()=>some (-1))=some (F3 a b (D.drop i) i)) ?_ ?_ hi hM
  ·intro n;rw[Dc,if_neg (by simp[Aa])];simp[F3,Sh.cont]
  ·intro n i hi ih
   obtain⟨d,hd,_⟩:=Bq hi
   rw[Dc,if_pos (by simp[Aa];omega),BL hd,drop_cons hd]
   simp only[Option.bind_some]
   rw[Q6,BN (by omega) (by omega),show ((i:Int) + 1)=((i+1:Nat):Int) by omega]
   simp only[Option.bind_some,F3]
   by_cases h:OI a b d=true
   ·rw[if_pos h,if_pos h];simp[Sh.cont]
   ·rw[if_neg h,if_neg h,ih]
 have:=key (Nat.zero_le _) (by omega:D.length - 0 < N)
 simpa using this
def L8 (D:List Ac) (t:Int):Option Ac:=if 1≤t∧t≤(D.length:Int) then (D[(t - 1).toNat]?).bind fun d=>if d.cons.length=0 then some d else none else none
theorem ON {D:List Ac} {t:Int} {d:Ac} (h:L8 D t=some d):d∈D∧1≤t∧t≤(D.length:Int)∧D[(t - 1).toNat]?=some d:=by
 unfold L8 at h
 split at h
 ·rename_i h1
  obtain⟨e,he,h2⟩:=Option.bind_eq_some_iff.1 h
  split at h2
  ·cases h2;exact⟨List.mem_of_getElem? he,h1.1,h1.2,he⟩
  ·cases h2
 ·cases h
theorem N3 {D:List Ac} (hD:D.length≤1048576) {t:Int}:G7 D t=some ((L8 D t).elim (⟨0,0,[]⟩,false) fun d=>(d,true)):=by
 unfold G7 L8
 by_cases h:1≤t∧t≤(D.length:Int)
 ·obtain⟨a,ha⟩ :∃a:Nat,t=(a:Int) + 1:=⟨(t - 1).toNat,by omega⟩
  subst ha
  obtain⟨d,hd,_⟩:=Bq (l:=D) (i:=a) (by omega)
  have e1:¬ ((a:Int) + 1 < 1):=by omega
  have e2:¬ ((D.length:Int) < (a:Int) + 1):=by omega
  rw[if_pos h,BN (by omega) (by omega),show ((a:Int) + 1 - 1)=((a:Nat):Int) by omega,BL hd,Int.toNat_natCast,hd]
  by_cases h2:d.cons.length=0
  ·have h2':d.cons=[]:=List.eq_nil_of_length_eq_zero h2
   simp[e1,e2,Aa,h2']
  ·have h3:0 < d.cons.length:=by omega
   have h2':¬ d.cons=[]:=fun q=>h2 (by rw[q];rfl)
   simp[e1,e2,Aa,h2',h3]
 ·rw[if_neg h]
  by_cases h1:t < 1
  ·simp[h1]
  ·have h2:(D.length:Int) < t:=by omega
   simp[h1,Aa,h2]
theorem Gv {D:List Ac} (hD:D.length≤1048576) {t:Int}:Er D t=some (L8 D t).isSome:=by
 unfold Er L8
 rw[DR]
 by_cases h:1≤t∧t≤(D.length:Int)
 ·obtain⟨a,ha⟩ :∃a:Nat,t=(a:Int) + 1:=⟨(t - 1).toNat,by omega⟩
  subst ha
  obtain⟨d,hd,_⟩:=Bq (l:=D) (i:=a) (by omega)
  have e1:((1:Int)≤(a:Int) + 1):=by omega
  have e2:((a:Int) + 1≤(D.length:Int)):=by omega
  rw[if_pos h,BN (by omega) (by omega),show ((a:Int) + 1 - 1)=((a:Nat):Int) by omega,BL hd,Int.toNat_natCast,hd]
  by_cases h2:d.cons=[] <;> simp[e1,e2,Aa,h2]
 ·rw[if_neg h]
  have:(decide (1≤t) && decide (t≤Sh.len D))=false:=by
   rw[Aa]
   by_cases h1:1≤t
   ·have h2:¬ t≤(D.length:Int):=fun q=>h ⟨h1,q⟩
    simp[h1,h2]
   ·simp[h1]
  simp[this]
section
variable {p : Ai} {sg : BI} {R1 : Ai → List Int → AP → Option Int} {R2 : List Int → BI → AP → Option Int} {T : List Int → AP → Int} {e : AP} {v : List Int} {N : Nat}
theorem En (H:Jp p sg R1 R2 T (en e)) (V:HX p e v) (hN:2000000≤N) (h1:¬ e.op=12) (h2:¬ e.op=13) (h3:¬ e.op=7) (h4:¬ e.op=8) :
  BM N R2 v sg e=if (e.kids.map (T v)).any (fun t=>decide (t < 0))=true then some (-1) else Option.bind (BB N sg e.op e.num (e.kids.map (T v))) fun q=>if q.2=true then some q.1 else some (-1):=by
 unfold BM
 have hk:=V.Kh
 simp only[h1,h2,h3,h4,decide_false,Bool.false_eq_true,if_false]
 rw[Aa,Me _ _ _ (by omega) (by omega)]
 simp only[Option.bind_some]
 rw[Rt H V hN]
 by_cases h:(e.kids.map (T v)).any (fun t=>decide (t < 0))=true
 ·rw[if_pos h,if_pos h];rfl
 ·rw[if_neg h,if_neg h]
  simp only[Sh.J3]
  cases BB N sg e.op e.num (e.kids.map (T v)) with
  | none=>rfl
  | some q=>simp only[Option.bind_some];cases q.2 <;> rfl
theorem H7 (H:Jp p sg R1 R2 T (en e)) (V:HX p e v) (hN:2000000≤N) (h1:¬ e.op=12) (h2:¬ e.op=13) (h3:¬ e.op=7) (h4:¬ e.op=8) {want:List Int} {c:Bool} {t:Int} (hw :∀x∈want,0≤x)
  (hs:BB N sg e.op e.num (e.kids.map (T v))=some (t,c && decide (e.kids.map (T v)=want))) :
  BM N R2 v sg e=some (if c=true∧e.kids.map (T v)=want then t else -1):=by
 rw[En H V hN h1 h2 h3 h4,hs]
 by_cases h:e.kids.map (T v)=want
 ·have:¬ (e.kids.map (T v)).any (fun t=>decide (t < 0))=true:=fun q=>by
   obtain⟨x,hx,hx2⟩:=List.any_eq_true.1 q
   have:=hw x (h ▸ hx)
   simp only[decide_eq_true_eq] at hx2
   omega
  rw[if_neg this]
  cases c <;> simp[h]
 ·have hn:¬ (c=true∧e.kids.map (T v)=want):=fun q=>h q.2
  rw[if_neg hn]
  simp[h]
end
end RC



namespace RC
open Go
def E1 (p:Ai):BI:=⟨p.decls,p.funcs.map fun f=>⟨f.params,[],f.result⟩⟩
section
variable {p : Ai} {R1 : Ai → List Int → AP → Option Int} {R2 : List Int → BI → AP → Option Int} {T : List Int → AP → Int} {e : AP} {v : List Int} {N : Nat}
def Hv (p:Ai) (R1:Ai→List Int→AP→Option Int) (R2:List Int→BI→AP→Option Int) (N:Nat) (v:List Int) (e:AP):Prop:=
 ∃t,Bd N R1 p v e=some t∧BM N R2 v (E1 p) e=some t∧(t=-1∨Db p.decls t=true)
theorem X9 {D:List Ac}:Db D 0=true:=by unfold Db;simp
theorem len_nil {α:Type} {l:List α}:decide ((Sh.len l)=0)=decide (l=[]):=by
 cases l with
 | nil=>rfl
 | cons x r=>exact decide_eq_decide.2 (by rw[Aa,List.length_cons];exact⟨fun h=>by omega,fun h=>nomatch h⟩)
theorem Uy (H:Jp p (E1 p) R1 R2 T (en e)) (V:HX p e v) (hN:2000000≤N) (h:e.op=0):Hv p R1 R2 N v e:=by
 have h1:=H7 H V hN (by omega) (by omega) (by omega) (by omega) (want:=[]) (c:=decide (-999≤e.num) && decide (e.num≤999)) (t:=0) (by simp) (by
  unfold BB
  simp only[h,decide_true,if_true,len_nil]
  by_cases a:-999≤e.num <;> by_cases b:e.num≤999 <;> simp[a,b,Sh.cont])
 refine⟨_,?_,h1,?_⟩
 ·unfold Bd
  simp only[h,decide_true,if_true,len_nil,DR]
  by_cases a:-999≤e.num <;> by_cases b:e.num≤999 <;> by_cases c:e.kids=[] <;> simp[a,b,c,Sh.cont]
 ·split
  ·exact .inr X9
  ·exact .inl rfl
theorem SY (H:Jp p (E1 p) R1 R2 T (en e)) (V:HX p e v) (hN:2000000≤N) (h:e.op=1∨e.op=2∨e.op=3∨e.op=4):Hv p R1 R2 N v e:=by
 have hk:=V.Kh
 have h1:=H7 H V hN (by omega) (by omega) (by omega) (by omega) (want:=[0,0]) (c:=decide (e.num=0)) (t:=0) (by simp) (by
  unfold BB
  have e3:CJ N (e.kids.map (T v)) [0,0]=some (decide (e.kids.map (T v)=[0,0])):=J9 (by simp;omega) hN
  rcases h with h | h | h | h <;> simp only[h,Int.reduceEq,decide_true,decide_false,Bool.false_eq_true,if_true,if_false,Option.bind_some,Sh.J3] <;> rw[e3] <;> by_cases a:e.num=0 <;> simp[a])
 refine⟨_,?_,h1,?_⟩
 ·unfold Bd
  have e2:=Ob H V hN 2
  rw[show ((2:Nat):Int)=2 from rfl,show List.replicate 2 (0:Int)=[0,0] from rfl] at e2
  rcases h with h | h | h | h <;> simp only[h,Int.reduceEq,decide_true,decide_false,Bool.false_eq_true,if_true,if_false,Option.bind_some] <;> rw[e2] <;> by_cases a:e.num=0 <;> by_cases b:e.kids.map (T v)=[0,0] <;> simp[a,b,Sh.cont]
 ·split
  ·exact .inr X9
  ·exact .inl rfl
theorem SQ (H:Jp p (E1 p) R1 R2 T (en e)) (V:HX p e v) (hN:2000000≤N) (h:e.op=5):Hv p R1 R2 N v e:=by
 have hk:=V.Kh
 have h1:=H7 H V hN (by omega) (by omega) (by omega) (by omega) (want:=[0]) (c:=decide (e.num=0)) (t:=0) (by simp) (by
  unfold BB
  simp only[h,Int.reduceEq,decide_true,decide_false,Bool.false_eq_true,if_true,if_false,Option.bind_some,Sh.J3]
  rw[J9 (by simp;omega) hN]
  by_cases a:e.num=0 <;> simp[a])
 refine⟨_,?_,h1,?_⟩
 ·unfold Bd
  have e2:=Ob H V hN 1
  rw[show ((1:Nat):Int)=1 from rfl,show List.replicate 1 (0:Int)=[0] from rfl] at e2
  simp only[h,Int.reduceEq,decide_true,decide_false,Bool.false_eq_true,if_true,if_false,Option.bind_some]
  rw[e2]
  by_cases a:e.num=0 <;> by_cases b:e.kids.map (T v)=[0] <;> simp[a,b,Sh.cont]
 ·split
  ·exact .inr X9
  ·exact .inl rfl
theorem VD (H:Jp p (E1 p) R1 R2 T (en e)) (V:HX p e v) (S:GG p.decls p.funcs) (hN:2000000≤N) (h:e.op=6):Hv p R1 R2 N v e:=by
 have hk:=V.Kh
 have hD:=S.QC
 have hn:=S.nc
 by_cases hr:0≤e.num∧e.num < (nc p.decls:Int)
 ·obtain⟨c,hc⟩:=Int.eq_ofNat_of_zero_le hr.1
  have hc2:c < nc p.decls:=by omega
  obtain⟨t,x,e1,e2⟩:=Jj (D:=p.decls) (by omega) (by omega) hc2 hN
  obtain⟨t',x',e1',e3⟩:=Fo (D:=p.decls) (by omega) (by omega) hc2 hN
  obtain⟨t'',x'',e1'',e4⟩:=Kz (D:=p.decls) (by omega) (by omega) hc2 hN
  rw[e1] at e1' e1''
  cases e1';cases e1''
  obtain⟨g1,g2,d,g3,g4⟩:=Ln e1
  have hx:=S.LI d g3 x g4
  have h1:=H7 H V hN (by omega) (by omega) (by omega) (by omega) (want:=x.fields) (c:=true) (t:=(t:Int)) (fun y hy=>(JY (hx.2 y hy)).1) (by
   unfold BB
   simp only[h,Int.reduceEq,decide_true,decide_false,Bool.false_eq_true,if_true,if_false,Option.bind_some]
   rw[hc,show (E1 p).decls=p.decls from rfl,e4]
   simp only[Option.bind_some]
   rw[J9 (by simp;omega) hN,if_pos (by simp)]
   simp[Sh.cont])
  refine⟨_,?_,h1,?_⟩
  ·unfold Bd
   simp only[h,Int.reduceEq,decide_true,decide_false,Bool.false_eq_true,if_true,if_false,Option.bind_some]
   rw[hc,e2,e3]
   simp only[Option.bind_some]
   rw[OJ H V hN,if_pos (by simp;omega)]
   by_cases b:e.kids.map (T v)=x.fields <;> simp[b,Sh.cont]
  ·split
   ·right;unfold Db;simp;omega
   ·exact .inl rfl
 ·refine⟨-1,?_,?_,.inl rfl⟩
  ·unfold Bd
   simp only[h,Int.reduceEq,decide_true,decide_false,Bool.false_eq_true,if_true,if_false,Option.bind_some]
   rw[NK (by omega) (by omega) (by omega) hN]
   simp[Sh.cont]
  ·rw[En H V hN (by omega) (by omega) (by omega) (by omega)]
   unfold BB
   simp only[h,Int.reduceEq,decide_true,decide_false,Bool.false_eq_true,if_true,if_false,Option.bind_some]
   rw[show (E1 p).decls=p.decls from rfl,Ox (by omega) (by omega) V.Ck.num (by omega) hN]
   simp[Sh.cont]
theorem Sz (H:Jp p (E1 p) R1 R2 T (en e)) (V:HX p e v) (hN:2000000≤N) (h:e.op < 0∨13 < e.op):Hv p R1 R2 N v e:=by
 refine⟨-1,?_,?_,.inl rfl⟩
 ·unfold Bd
  simp only[show ¬ e.op=0 by omega,show ¬ e.op=12 by omega,show ¬ e.op=1 by omega,show ¬ e.op=2 by omega,show ¬ e.op=3 by omega,show ¬ e.op=4 by omega,show ¬ e.op=5 by omega,show ¬ e.op=6 by omega,show ¬ e.op=13 by omega,show ¬ e.op=7 by omega,show ¬ e.op=8 by omega,show ¬ e.op=9 by omega,show ¬ e.op=10 by omega,show ¬ e.op=11 by omega,decide_false,Bool.false_eq_true,if_false,Option.bind_some]
  simp[Sh.cont]
 ·rw[En H V hN (by omega) (by omega) (by omega) (by omega)]
  unfold BB
  simp only[show ¬ e.op=0 by omega,show ¬ e.op=12 by omega,show ¬ e.op=1 by omega,show ¬ e.op=2 by omega,show ¬ e.op=3 by omega,show ¬ e.op=4 by omega,show ¬ e.op=5 by omega,show ¬ e.op=6 by omega,show ¬ e.op=13 by omega,show ¬ e.op=7 by omega,show ¬ e.op=8 by omega,show ¬ e.op=9 by omega,show ¬ e.op=10 by omega,show ¬ e.op=11 by omega,decide_false,Bool.false_eq_true,if_false,Option.bind_some]
  simp[Sh.cont]
theorem VE (V:HX p e v) (h:e.op=12):Hv p R1 R2 N v e:=by
 have hv:v.length≤1000:=by have:=V.len;omega
 unfold Hv Bd BM
 simp only[h,Int.reduceEq,decide_true,decide_false,Bool.false_eq_true,if_true,if_false,Option.bind_some,len_nil,DR]
 rw[Aa,BN (by omega) (by omega)]
 cases hks:e.kids with
 | cons a r=>exact⟨-1,by simp[Sh.cont],by simp[Aa],.inl rfl⟩
 | nil=>
  by_cases h1:0≤e.num
  ·by_cases h2:e.num < (v.length:Int)
   ·obtain⟨x,g1,g2⟩:=Mu h1 h2
    have h3:e.num≤(v.length:Int) - 1:=by omega
    have h4:¬ e.num < 0:=by omega
    have h5:¬ (v.length:Int)≤e.num:=by omega
    refine⟨x,?_,?_,.inr (V.L3 x (List.mem_of_getElem? g2))⟩
    ·simp[h1,h3,g1,Sh.cont]
    ·simp[h4,h5,g1,Aa]
   ·have h3:¬ e.num≤(v.length:Int) - 1:=by omega
    have h4:¬ e.num < 0:=by omega
    have h5:(v.length:Int)≤e.num:=by omega
    exact⟨-1,by simp[h1,h3,Sh.cont],by simp[h4,h5,Aa],.inl rfl⟩
  ·have h4:e.num < 0:=by omega
   exact⟨-1,by simp[h1,Sh.cont],by simp[h4,Aa],.inl rfl⟩
end
end RC



namespace RC
open Go
section
variable {p : Ai} {R1 : Ai → List Int → AP → Option Int} {R2 : List Int → BI → AP → Option Int} {T : List Int → AP → Int} {e : AP} {v : List Int} {N : Nat}
theorem U9 (H:Jp p (E1 p) R1 R2 T (en e)) (V:HX p e v) (h:e.op=13):Hv p R1 R2 N v e:=by
 have hv:v.length≤1000:=by have:=V.len;omega
 unfold Hv Bd BM
 simp only[h,Int.reduceEq,decide_true,decide_false,Bool.false_eq_true,if_true,if_false,Option.bind_some]
 by_cases hl:e.kids.length=2
 ·obtain⟨a,b,hk⟩ :∃a b,e.kids=[a,b]:=by
   match hk:e.kids,hl with
   | [a,b],_=>exact⟨a,b,rfl⟩
  have hma:a∈e.kids:=by rw[hk];simp
  have hmb:b∈e.kids:=by rw[hk];simp
  obtain⟨a1,a2,a3⟩:=H v a (V.Ck.kids a hma) (D6 hma) (V.N0 hma) V.L3
  have g0:Sh.get e.kids 0=some a:=by rw[hk];rfl
  have g1:Sh.get e.kids 1=some b:=by rw[hk];rfl
  rw[g0,g1]
  simp only[Option.bind_some,Aa,hl]
  rw[a1,a2]
  simp only[Option.bind_some]
  by_cases hn:e.num=0
  ·by_cases ht:0≤T v a
   ·have ht':¬ T v a < 0:=by omega
    have hty:Db p.decls (T v a)=true:=by
     rcases a3 with q | q
     ·omega
     ·exact q
    obtain⟨b1,b2,b3⟩:=H (v ++ [T v a]) b (V.Ck.kids b hmb) (D6 hmb) (V.more hmb (by simp)) (V.Q9 (by simp[hty]))
    refine⟨T (v ++ [T v a]) b,?_,?_,b3⟩
    ·rw[Gk hv (by simp)]
     simp[hn,ht,b1,Sh.cont]
    ·rw[GW v [T v a] 8 (by simp;omega) (by simp;omega)]
     simp[hn,ht',b2]
   ·have ht':T v a < 0:=by omega
    exact⟨-1,by simp[hn,ht,Sh.cont],by simp[hn,ht'],.inl rfl⟩
  ·exact⟨-1,by simp[hn,Sh.cont],by simp[hn],.inl rfl⟩
 ·have hl':¬ ((e.kids.length:Int)=2):=by omega
  refine⟨-1,?_,?_,.inl rfl⟩
  ·by_cases hn:e.num=0 <;> simp[hn,Aa,hl',Sh.cont]
  ·simp[Aa,hl']
theorem Uk (x y:Int):Ku [x,y]=if y=x then x else -1:=by
 unfold Ku
 by_cases h:y=x <;> simp[h]
theorem WL (H:Jp p (E1 p) R1 R2 T (en e)) (V:HX p e v) (hN:2000000≤N) (h:e.op=7):Hv p R1 R2 N v e:=by
 have hv:v.length≤1000:=by have:=V.len;omega
 unfold Hv Bd BM
 simp only[h,Int.reduceEq,decide_true,decide_false,Bool.false_eq_true,if_true,if_false,Option.bind_some]
 by_cases hl:e.kids.length=3
 ·obtain⟨a,b,c,hk⟩ :∃a b c,e.kids=[a,b,c]:=by
   match hk:e.kids,hl with
   | [a,b,c],_=>exact⟨a,b,c,rfl⟩
  have hma:a∈e.kids:=by rw[hk];simp
  have hmb:b∈e.kids:=by rw[hk];simp
  have hmc:c∈e.kids:=by rw[hk];simp
  obtain⟨a1,a2,a3⟩:=H v a (V.Ck.kids a hma) (D6 hma) (V.N0 hma) V.L3
  obtain⟨b1,b2,b3⟩:=H v b (V.Ck.kids b hmb) (D6 hmb) (V.N0 hmb) V.L3
  obtain⟨c1,c2,c3⟩:=H v c (V.Ck.kids c hmc) (D6 hmc) (V.N0 hmc) V.L3
  have g0:Sh.get e.kids 0=some a:=by rw[hk];rfl
  have g1:Sh.get e.kids 1=some b:=by rw[hk];rfl
  have g2:Sh.get e.kids 2=some c:=by rw[hk];rfl
  have g3:Sh.sl e.kids 1 3=some [b,c]:=by rw[hk];rfl
  have o:=JP (ks:=[b,c]) (ms:=[[],[]]) H V hN (by intro k hk;simp only[List.mem_cons,List.not_mem_nil,or_false] at hk;rcases hk with rfl | rfl <;> assumption) (by simp) rfl (by simp)
  have mk2:Sh.mk ([]:List Int) 2 24=some [[],[]]:=Me [] 2 24 (by omega) (by omega)
  rw[g0,g1,g2]
  simp only[Option.bind_some,Aa,hl]
  rw[a1,a2,b1,c1,show ((3:Nat):Int)=3 from rfl,g3,mk2]
  simp only[Option.bind_some]
  rw[o]
  simp only[Option.bind_some,List.zipWith,List.append_nil,Uk]
  by_cases hn:e.num=0
  ·by_cases ht:T v a=0
   ·by_cases hq:T v c=T v b
    ·exact⟨T v b,by simp[hn,ht,hq,Sh.cont],by simp[hn,ht,hq],b3⟩
    ·exact⟨-1,by simp[hn,ht,hq,Sh.cont],by simp[hn,ht,hq],.inl rfl⟩
   ·exact⟨-1,by simp[hn,ht,Sh.cont],by simp[hn,ht],.inl rfl⟩
  ·exact⟨-1,by simp[hn,Sh.cont],by simp[hn],.inl rfl⟩
 ·have hl':¬ ((e.kids.length:Int)=3):=by omega
  refine⟨-1,?_,?_,.inl rfl⟩
  ·by_cases hn:e.num=0 <;> simp[hn,Aa,hl',Sh.cont]
  ·simp[Aa,hl']
theorem Ub {n:Int}:(∃f,0≤n∧n < (p.funcs.length:Int)∧p.funcs[n.toNat]?=some f∧f∈p.funcs∧Sh.get p.funcs n=some f∧Sh.get (E1 p).funcs n=some ⟨f.params,[],f.result⟩)∨(n < 0∨(p.funcs.length:Int)≤n):=by
 by_cases h:0≤n∧n < (p.funcs.length:Int)
 ·obtain⟨f,h1,h2⟩:=Mu h.1 h.2
  refine .inl ⟨f,h.1,h.2,h2,List.mem_of_getElem? h2,h1,?_⟩
  rw[RM h.1]
  show ((p.funcs.map fun f=>(⟨f.params,[],f.result⟩:BY)))[n.toNat]?=_
  rw[List.getElem?_map,h2];rfl
 ·exact .inr (by omega)
theorem Ja:(E1 p).funcs.length=p.funcs.length:=by show (p.funcs.map _).length=_;simp
theorem Tx (H:Jp p (E1 p) R1 R2 T (en e)) (V:HX p e v) (S:GG p.decls p.funcs) (hN:2000000≤N) (h:e.op=9):Hv p R1 R2 N v e:=by
 have hk:=V.Kh
 have hF:=S.Jo
 rcases Ub (p:=p) (n:=e.num) with ⟨f,f0,f1,f2,f3,f4,f5⟩ | hr
 ·obtain⟨q1,q2,q3⟩:=S.P2 f f3
  have f0':¬ e.num < 0:=by omega
  have f1':¬ (p.funcs.length:Int)≤e.num:=by omega
  have f1'':e.num≤(p.funcs.length:Int) - 1:=by omega
  have h1:=H7 H V hN (by omega) (by omega) (by omega) (by omega) (want:=f.params) (c:=true) (t:=f.result) (fun y hy=>(JY (q2 y hy)).1) (by
   unfold BB
   simp only[h,Int.reduceEq,decide_true,decide_false,Bool.false_eq_true,if_true,if_false,Option.bind_some,Aa,Ja,f0',f1']
   rw[f5]
   simp only[Option.bind_some]
   rw[J9 (by simp;omega) hN]
   simp[Sh.cont])
  refine⟨_,?_,h1,?_⟩
  ·unfold Bd EJ
   simp only[h,Int.reduceEq,decide_true,decide_false,Bool.false_eq_true,if_true,if_false,Option.bind_some]
   rw[DR,Aa p.funcs,BN (n:=(p.funcs.length:Int) - 1) (by omega) (by omega),f4]
   simp only[h,Int.reduceEq,decide_true,decide_false,Bool.false_eq_true,if_true,if_false,Option.bind_some,f0,f1'',Bool.and_self,Bool.not_true]
   rw[OJ H V hN]
   by_cases b:e.kids.map (T v)=f.params <;> simp[b,Sh.cont]
  ·split
   ·exact .inr q3
   ·exact .inl rfl
 ·refine⟨-1,?_,?_,.inl rfl⟩
  ·unfold Bd EJ
   simp only[h,Int.reduceEq,decide_true,decide_false,Bool.false_eq_true,if_true,if_false,Option.bind_some]
   rw[DR,Aa p.funcs,BN (n:=(p.funcs.length:Int) - 1) (by omega) (by omega)]
   have:(decide (0≤e.num) && decide (e.num≤(p.funcs.length:Int) - 1))=false:=by
    rw[Bool.and_eq_false_iff,decide_eq_false_iff_not,decide_eq_false_iff_not];omega
   rw[this]
   simp only[h,Int.reduceEq,decide_true,decide_false,Bool.false_eq_true,if_true,if_false,Option.bind_some]
   simp[Sh.cont]
  ·rw[En H V hN (by omega) (by omega) (by omega) (by omega)]
   unfold BB
   simp only[h,Int.reduceEq,decide_true,decide_false,Bool.false_eq_true,if_true,if_false,Option.bind_some,Aa,Ja]
   rcases hr with hr | hr
   ·simp[hr,Sh.cont]
   ·have:¬ e.num < 0:=by omega
    simp[hr,this,Sh.cont]
theorem Si {α:Type} {l:List α} {m:Nat} (h:m≤l.length):Sh.sl l 0 (m:Int)=some (l.take m):=by
 unfold Sh.sl
 rw[if_pos ⟨by omega,by omega,by omega⟩];simp
theorem Sl (H:Jp p (E1 p) R1 R2 T (en e)) (V:HX p e v) (S:GG p.decls p.funcs) (hN:2000000≤N) (h:e.op=10):Hv p R1 R2 N v e:=by
 have hk:=V.Kh
 have hF:=S.Jo
 have hD:=S.QC
 rcases Ub (p:=p) (n:=e.num) with ⟨f,f0,f1,f2,f3,f4,f5⟩ | hr
 ·obtain⟨q1,q2,q3⟩:=S.P2 f f3
  have f0':¬ e.num < 0:=by omega
  have f1':¬ (p.funcs.length:Int)≤e.num:=by omega
  have f1'':e.num≤(p.funcs.length:Int) - 1:=by omega
  by_cases hp:f.params.length=0
  ·have hp':f.params=[]:=List.eq_nil_of_length_eq_zero hp
   refine⟨-1,?_,?_,.inl rfl⟩
   ·unfold Bd EJ
    simp only[h,Int.reduceEq,decide_true,decide_false,Bool.false_eq_true,if_true,if_false,Option.bind_some]
    rw[DR,Aa p.funcs,BN (n:=(p.funcs.length:Int) - 1) (by omega) (by omega),f4]
    simp only[h,Int.reduceEq,decide_true,decide_false,Bool.false_eq_true,if_true,if_false,Option.bind_some,f0,f1'',Bool.and_self,Bool.not_true,len_nil,hp']
    simp[Sh.cont]
   ·rw[En H V hN (by omega) (by omega) (by omega) (by omega)]
    unfold BB
    simp only[h,Int.reduceEq,decide_true,decide_false,Bool.false_eq_true,if_true,if_false,Option.bind_some,Aa,Ja,f0',f1']
    rw[f5]
    simp only[Option.bind_some,hp]
    rw[BN (by omega) (by omega)]
    simp[Sh.cont]
  ·obtain⟨m,hm⟩ :∃m,f.params.length=m+1:=⟨f.params.length - 1,by omega⟩
   obtain⟨x,hx,hxm⟩:=Bq (l:=f.params) (i:=m) (by omega)
   have hp':¬ f.params=[]:=fun q=>hp (by rw[q];rfl)
   have hw:Sh.w ((f.params.length:Int) - 1)=(m:Int):=by rw[BN (by omega) (by omega)];omega
   have hm0:¬ ((m:Int) < 0):=by omega
   have hty:F3 x f.result p.decls 0=-1∨Db p.decls (F3 x f.result p.decls 0)=true:=by
    rcases S4 (a:=x) (b:=f.result) p.decls 0 with q | q
    ·exact .inl q
    ·right;unfold Db;simp;omega
   have h1:=H7 H V hN (by omega) (by omega) (by omega) (by omega) (want:=f.params.take m) (c:=decide (0≤F3 x f.result p.decls 0)) (t:=F3 x f.result p.decls 0) (fun y hy=>(JY (q2 y (List.mem_of_mem_take hy))).1) (by
    unfold BB
    simp only[h,Int.reduceEq,decide_true,decide_false,Bool.false_eq_true,if_true,if_false,Option.bind_some,Aa,Ja,f0',f1']
    rw[f5]
    simp only[Option.bind_some,hw,hm0,decide_false,Bool.false_eq_true,if_false]
    rw[BL hx]
    simp only[Option.bind_some]
    rw[show (E1 p).decls=p.decls from rfl,Nx (by omega) hN,Si (by omega)]
    simp only[Option.bind_some]
    rw[J9 (by simp;omega) hN]
    by_cases z:0≤F3 x f.result p.decls 0 <;> simp[z,Sh.cont])
   refine⟨_,?_,h1,?_⟩
   ·unfold Bd EJ
    simp only[h,Int.reduceEq,decide_true,decide_false,Bool.false_eq_true,if_true,if_false,Option.bind_some]
    rw[DR,Aa p.funcs,BN (n:=(p.funcs.length:Int) - 1) (by omega) (by omega),f4]
    simp only[h,Int.reduceEq,decide_true,decide_false,Bool.false_eq_true,if_true,if_false,Option.bind_some,f0,f1'',Bool.and_self,Bool.not_true,len_nil,hp']
    rw[Aa,hw,Si (by omega),BL hx]
    simp only[Option.bind_some]
    rw[OJ H V hN,Js (by omega) hN]
    by_cases b:e.kids.map (T v)=f.params.take m
    ·by_cases z:0≤F3 x f.result p.decls 0
     ·simp[b,z,Sh.cont]
     ·have:F3 x f.result p.decls 0=-1:=by
       rcases hty with q | q
       ·exact q
       ·exact absurd (JY q).1 z
      simp[b,this,Sh.cont]
    ·simp[b,Sh.cont]
   ·split
    ·exact hty
    ·exact .inl rfl
 ·refine⟨-1,?_,?_,.inl rfl⟩
  ·unfold Bd EJ
   simp only[h,Int.reduceEq,decide_true,decide_false,Bool.false_eq_true,if_true,if_false,Option.bind_some]
   rw[DR,Aa p.funcs,BN (n:=(p.funcs.length:Int) - 1) (by omega) (by omega)]
   have:(decide (0≤e.num) && decide (e.num≤(p.funcs.length:Int) - 1))=false:=by
    rw[Bool.and_eq_false_iff,decide_eq_false_iff_not,decide_eq_false_iff_not];omega
   rw[this]
   simp only[h,Int.reduceEq,decide_true,decide_false,Bool.false_eq_true,if_true,if_false,Option.bind_some]
   simp[Sh.cont]
  ·rw[En H V hN (by omega) (by omega) (by omega) (by omega)]
   unfold BB
   simp only[h,Int.reduceEq,decide_true,decide_false,Bool.false_eq_true,if_true,if_false,Option.bind_some,Aa,Ja]
   rcases hr with hr | hr
   ·simp[hr,Sh.cont]
   ·have:¬ e.num < 0:=by omega
    simp[hr,this,Sh.cont]
theorem Sv (H:Jp p (E1 p) R1 R2 T (en e)) (V:HX p e v) (S:GG p.decls p.funcs) (hN:2000000≤N) (h:e.op=11):Hv p R1 R2 N v e:=by
 have hk:=V.Kh
 have hD:=S.QC
 by_cases hl:e.kids.length=2
 ·obtain⟨a,b,hk⟩ :∃a b,e.kids=[a,b]:=by
   match hk:e.kids,hl with
   | [a,b],_=>exact⟨a,b,rfl⟩
  have hma:a∈e.kids:=by rw[hk];simp
  have hmb:b∈e.kids:=by rw[hk];simp
  obtain⟨a1,a2,a3⟩:=H v a (V.Ck.kids a hma) (D6 hma) (V.N0 hma) V.L3
  obtain⟨b1,b2,b3⟩:=H v b (V.Ck.kids b hmb) (D6 hmb) (V.N0 hmb) V.L3
  have g0:Sh.get e.kids 0=some a:=by rw[hk];rfl
  have g1:Sh.get e.kids 1=some b:=by rw[hk];rfl
  have i1:Sh.get (e.kids.map (T v)) 0=some (T v a):=by rw[hk];rfl
  have i2:Sh.get (e.kids.map (T v)) 1=some (T v b):=by rw[hk];rfl
  have imp:BM N R2 v (E1 p) e=some ((L8 p.decls (T v a)).elim (-1) fun d=>if T v b=d.from_∧e.num=0 then d.to else -1):=by
   rw[En H V hN (by omega) (by omega) (by omega) (by omega)]
   unfold BB
   simp only[h,Int.reduceEq,decide_true,decide_false,Bool.false_eq_true,if_true,if_false,Option.bind_some,Aa,List.length_map,hl]
   rw[i1,i2]
   simp only[Option.bind_some]
   rw[show (E1 p).decls=p.decls from rfl,N3 (by omega)]
   simp only[Option.bind_some]
   cases hA:L8 p.decls (T v a) with
   | none=>simp[Sh.cont]
   | some d=>
    obtain⟨m1,m2,m3,m4⟩:=ON hA
    have m5:=S.XJ d m1
    have n1:¬ T v a < 0:=by omega
    by_cases c1:T v b=d.from_
    ·have n2:¬ T v b < 0:=by rw[c1];have:=(JY m5.1).1;omega
     have n3:¬ d.from_ < 0:=c1 ▸ n2
     by_cases c2:e.num=0 <;> simp[hk,n1,c1,n3,c2,Sh.cont]
    ·simp[c1,Sh.cont]
  refine⟨_,?_,imp,?_⟩
  ·unfold Bd
   simp only[h,Int.reduceEq,decide_true,decide_false,Bool.false_eq_true,if_true,if_false,Option.bind_some,Aa,hl]
   rw[g0,g1]
   simp only[Option.bind_some]
   rw[a1]
   simp only[Option.bind_some]
   rw[Gv (by omega),b1]
   simp only[Option.bind_some]
   cases hA:L8 p.decls (T v a) with
   | none=>by_cases c2:e.num=0 <;> simp[c2,Sh.cont]
   | some d=>
    obtain⟨m1,m2,m3,m4⟩:=ON hA
    have g5:Sh.get p.decls (Sh.w (T v a - 1))=some d:=by rw[BN (by omega) (by omega),RM (by omega),m4]
    rw[g5]
    by_cases c2:e.num=0 <;> by_cases c1:T v b=d.from_ <;> simp[c1,c2,Sh.cont]
  ·cases hA:L8 p.decls (T v a) with
   | none=>exact .inl rfl
   | some d=>
    obtain⟨m1,_⟩:=ON hA
    simp only[Option.elim_some]
    split
    ·exact .inr (S.XJ d m1).2
    ·exact .inl rfl
 ·have hl':¬ ((e.kids.length:Int)=2):=by omega
  refine⟨-1,?_,?_,.inl rfl⟩
  ·unfold Bd
   simp only[h,Int.reduceEq,decide_true,decide_false,Bool.false_eq_true,if_true,if_false,Option.bind_some,Aa,hl']
   by_cases c2:e.num=0 <;> simp[c2,Sh.cont]
  ·rw[En H V hN (by omega) (by omega) (by omega) (by omega)]
   unfold BB
   simp only[h,Int.reduceEq,decide_true,decide_false,Bool.false_eq_true,if_true,if_false,Option.bind_some,Aa,List.length_map,hl']
   simp[Sh.cont]
end
end RC



namespace RC
open Go
def FM (D:List Ac) (c:Int):List Int:=(FQ D 0 c.toNat).elim [] fun x=>x.2.fields
theorem TZ {D:List Ac} {t c:Int} (h:c∈Ct D t) :∃k:Nat,c=(k:Int)∧k < nc D:=by
 unfold Ct at h
 split at h
 ·rename_i h1
  obtain⟨a,ha⟩ :∃a:Nat,t=(a:Int) + 1:=⟨(t - 1).toNat,by omega⟩
  subst ha
  obtain⟨d,hd,_⟩:=Bq (l:=D) (i:=a) (by omega)
  rw[show (((a:Int) + 1) - 1).toNat=a by omega,hd] at h
  simp only[Option.elim_some,List.mem_map,List.mem_range] at h
  obtain⟨i,hi,rfl⟩:=h
  have hs:=E3 D a
  rw[Ni hd] at hs
  exact⟨nc (D.take a) + i,by omega,by omega⟩
 ·cases h
theorem PY {D:List Ac} (h :∀d∈D,d.cons.length≤3) (t:Int):(Ct D t).length≤3:=by
 unfold Ct
 split
 ·rename_i h1
  obtain⟨a,ha⟩ :∃a:Nat,t=(a:Int) + 1:=⟨(t - 1).toNat,by omega⟩
  subst ha
  obtain⟨d,hd,hm⟩:=Bq (l:=D) (i:=a) (by omega)
  rw[show (((a:Int) + 1) - 1).toNat=a by omega,hd]
  simp only[Option.elim_some,List.length_map,List.length_range]
  exact h d hm
 ·simp
theorem UO {D:List Ac} {F:List Ar} (S:GG D F) {t c:Int} (h:c∈Ct D t) {N:Nat} (hN:2000000≤N):Be N D c=some (FM D c)∧EF N D c=some (FM D c)∧(FM D c).length≤3∧∀x∈FM D c,Db D x=true:=by
 obtain⟨k,rfl,hk⟩:=TZ h
 have hD:=S.QC
 have hn:=S.nc
 obtain⟨t,x,e1,e2⟩:=Fo (D:=D) (by omega) (by omega) hk hN
 obtain⟨t',x',e1',e3⟩:=NF (D:=D) (by omega) (by omega) hk hN
 rw[e1] at e1'
 cases e1'
 obtain⟨_,_,d,g3,g4⟩:=Ln e1
 have hf:FM D (k:Int)=x.fields:=by unfold FM;rw[Int.toNat_natCast,e1];rfl
 rw[hf]
 exact⟨e2,e3,S.LI d g3 x g4⟩
section
variable {p : Ai} {R1 : Ai → List Int → AP → Option Int} {R2 : List Int → BI → AP → Option Int} {T : List Int → AP → Int} {e : AP} {v : List Int} {N : Nat}
theorem NL (S:GG p.decls p.funcs) (hN:2000000≤N) {C:List Int} (hC:C.length≤3) (hc :∀c∈C,EF N p.decls c=some (FM p.decls c)):Bf N (E1 p) C N 0 (List.replicate C.length [])=some (C.map (FM p.decls)):=by
 have key :∀{M i:Nat},i≤C.length→C.length - i < M→∀m:List (List Int),m.length=C.length→m.take i=(C.map (FM p.decls)).take i→Bf N (E1 p) C M i m=some (C.map (FM p.decls)):=by
  intro M i hi hM
  refine Bl C.length (fun M i=>∀m:List (List Int),m.length=C.length→m.take i=(C.map (FM p.decls)).take i→Bf N (E1 p) C M i m=some (C.map (FM p.decls))) ?_ ?_ hi hM
  ·intro n m a b
   rw[Bf,if_neg (by simp[Aa])]
   rw[List.take_of_length_le (by omega),List.take_of_length_le (by simp)] at b
   rw[b]
  ·intro n i hi ih m a b
   obtain⟨x,hx,hxm⟩:=Bq hi
   obtain⟨y,hy,_⟩:=Bq (l:=m) (i:=i) (by omega)
   have hx2:(C.map (FM p.decls))[i]?=some (FM p.decls x):=by rw[List.getElem?_map,hx];rfl
   have hi':(m.set i (FM p.decls x))[i]?=some (FM p.decls x):=by rw[List.getElem?_set_self (by omega)]
   rw[Bf,if_pos (by simp[Aa];omega),BL hx]
   simp only[Option.bind_some]
   rw[show (E1 p).decls=p.decls from rfl,hc x hxm,BL hy]
   simp only[Option.bind_some]
   rw[Pc,BN (by omega) (by omega),show ((i:Int) + 1)=((i+1:Nat):Int) by omega]
   exact ih _ (by simp[a]) (by rw[Gs hi',Gs hx2,← b,List.take_set_of_le (Nat.le_refl _)])
 have:=key (Nat.zero_le _) (by omega:C.length - 0 < N) (List.replicate C.length []) (by simp) rfl
 simpa using this
theorem TI (H:Jp p (E1 p) R1 R2 T (en e)) (V:HX p e v) (S:GG p.decls p.funcs) (hN:2000000≤N) (h:e.op=8):Hv p R1 R2 N v e:=by
 have hk:=V.Kh
 have hD:=S.QC
 have hn:=S.nc
 have hv:v.length≤1000:=by have:=V.len;omega
 have hCl:=PY S.WA e.num
 unfold Hv Bd BM HH
 simp only[h,Int.reduceEq,decide_true,decide_false,Bool.false_eq_true,if_true,if_false,Option.bind_some]
 rw[show (E1 p).decls=p.decls from rfl,Ke (by omega) (by omega) hN,Ki (by omega) (by omega) hN]
 simp only[Option.bind_some]
 generalize hCe:Ct p.decls e.num=C at hCl
 have hCm :∀c∈C,Be N p.decls c=some (FM p.decls c)∧EF N p.decls c=some (FM p.decls c)∧(FM p.decls c).length≤3∧∀x∈FM p.decls c,Db p.decls x=true:=fun c hc=>UO S (hCe ▸ hc) hN
 rw[Aa C,Aa e.kids,BN (n:=1+(C.length:Int)) (by omega) (by omega)]
 by_cases h0:C.length=0
 ·exact⟨-1,by simp[h0,Sh.cont],by simp[h0],.inl rfl⟩
 ·have h0':¬ ((C.length:Int)=0):=by omega
  have hne:¬ C=[]:=fun q=>h0 (by rw[q];rfl)
  by_cases h1:e.kids.length=1+C.length
  ·have h1':((e.kids.length:Int)=1+(C.length:Int)):=by omega
   obtain⟨a,r,hks⟩ :∃a r,e.kids=a :: r:=by
    cases hq:e.kids with
    | nil=>rw[hq] at h1;simp at h1;omega
    | cons a r=>exact⟨a,r,rfl⟩
   have hrl:r.length=C.length:=by rw[hks] at h1;simp at h1;omega
   have hma:a∈e.kids:=by rw[hks];simp
   have hmr :∀k∈r,k∈e.kids:=fun k hk=>by rw[hks];simp[hk]
   obtain⟨a1,a2,a3⟩:=H v a (V.Ck.kids a hma) (D6 hma) (V.N0 hma) V.L3
   have g0:Sh.get e.kids 0=some a:=by rw[hks];rfl
   have gi :∀(i:Nat) k,r[i]?=some k→Sh.get e.kids ((1+i:Nat):Int)=some k:=fun i k hk=>by
    rw[Sg,hks,Nat.add_comm];simpa using hk
   have g3:Sh.sl e.kids 1 (e.kids.length:Int)=some r:=by
    unfold Sh.sl
    rw[if_pos ⟨by omega,by omega,by omega⟩,hks];simp
   have mkC:Sh.mk ([]:List Int) (C.length:Int) 24=some (List.replicate C.length []):=Me [] C.length 24 (by omega) (by omega)
   have o:=JP (ks:=r) (ms:=C.map (FM p.decls)) H V hN hmr (by omega) (by simp[hrl]) (by
    intro m hm
    obtain⟨c,hc,rfl⟩:=List.mem_map.1 hm
    exact (hCm c hc).2.2)
   have F:=NL (p:=p) S hN hCl fun c hc=>(hCm c hc).2.1
   generalize hts:List.zipWith (fun m k=>T (v ++ m) k) (C.map (FM p.decls)) r=ts at o
   have tsl:ts.length=C.length:=by rw[← hts];simp[hrl]
   have tsi :∀(i:Nat),i < C.length→∃c k,C[i]?=some c∧r[i]?=some k∧ts[i]?=some (T (v ++ FM p.decls c) k)∧Be N p.decls c=some (FM p.decls c)∧DK v (FM p.decls c)=some (v ++ FM p.decls c)∧R1 p (v ++ FM p.decls c) k=some (T (v ++ FM p.decls c) k)∧(T (v ++ FM p.decls c) k=-1∨Db p.decls (T (v ++ FM p.decls c) k)=true):=fun i hi=>by
    obtain⟨c,hc,hcm⟩:=Bq (l:=C) (i:=i) hi
    obtain⟨k,hk2,hkm⟩:=Bq (l:=r) (i:=i) (by omega)
    obtain⟨q1,q2,q3,q4⟩:=hCm c hcm
    obtain⟨z1,z2,z3⟩:=H (v ++ FM p.decls c) k (V.Ck.kids k (hmr k hkm)) (D6 (hmr k hkm)) (V.more (hmr k hkm) q3) (V.Q9 q4)
    refine⟨c,k,hc,hk2,?_,q1,Gk hv (by omega),z1,z3⟩
    rw[← hts,List.getElem?_zipWith,List.getElem?_map,hc,hk2];rfl
   have L :∀(t:Int) {M i:Nat},i≤C.length→C.length - i < M→Cw N p v e t C R1 M i=some (if (ts.drop i).all (fun x=>decide (x=t))=true then .inr () else .inl (-1)):=by
    intro t M i hi hM
    refine Bl C.length (fun M i=>Cw N p v e t C R1 M i=some (if (ts.drop i).all (fun x=>decide (x=t))=true then .inr () else .inl (-1))) ?_ ?_ hi hM
    ·intro n
     rw[Cw,if_neg (by simp[Aa]),List.drop_of_length_le (by omega)];rfl
    ·intro n i hi ih
     obtain⟨c,k,q1,q2,q3,q4,q5,q6,q7⟩:=tsi i hi
     rw[Cw,if_pos (by simp[Aa];omega),BL q1]
     simp only[Option.bind_some]
     rw[q4]
     simp only[Option.bind_some]
     rw[q5,BN (n:=(1:Int) + (i:Int)) (by omega) (by omega),show ((1:Int) + (i:Int))=((1+i:Nat):Int) by omega,gi i k q2]
     simp only[Option.bind_some]
     rw[q6,BN (by omega) (by omega),show ((i:Int) + 1)=((i+1:Nat):Int) by omega,drop_cons q3,List.all_cons]
     simp only[Option.bind_some]
     by_cases z:T (v ++ FM p.decls c) k=t
     ·simp only[z,decide_true,Bool.not_true,Bool.false_eq_true,if_false,Bool.true_and]
      exact ih
     ·simp[z]
   rw[g0,g3,mkC]
   simp only[Option.bind_some]
   rw[a1,a2]
   simp only[Option.bind_some]
   rw[F]
   simp only[Option.bind_some]
   rw[o]
   obtain⟨c,k,q1,q2,q3,q4,q5,q6,q7⟩:=tsi 0 (by omega)
   have g1:=gi 0 k q2
   have c0:Sh.get C 0=some c:=by rw[show (0:Int)=((0:Nat):Int) from rfl,BL q1]
   rw[show ((1+0:Nat):Int)=1 from rfl] at g1
   rw[c0]
   simp only[Option.bind_some]
   rw[q4]
   simp only[Option.bind_some]
   rw[q5,g1]
   simp only[Option.bind_some]
   rw[q6]
   simp only[Option.bind_some]
   have L1:=L (T (v ++ FM p.decls c) k) (M:=N) (i:=1) (by omega) (by omega)
   rw[show ((1:Nat):Int)=1 from rfl] at L1
   rw[L1]
   have hts2:ts=T (v ++ FM p.decls c) k :: ts.drop 1:=by
    have:=drop_cons q3
    simpa using this
   by_cases z:T v a=e.num
   ·by_cases y:(ts.drop 1).all (fun x=>decide (x=T (v ++ FM p.decls c) k))=true
    ·have ho:Ku ts=T (v ++ FM p.decls c) k:=by rw[hts2];unfold Ku;dsimp only;rw[if_pos y]
     refine⟨T (v ++ FM p.decls c) k,?_,?_,q7⟩
     ·rw[if_pos y]
      simp[h0',hne,h1',z,Sh.cont]
     ·rw[ho]
      simp[h0',hne,h1',z]
    ·have ho:Ku ts=-1:=by rw[hts2];unfold Ku;dsimp only;rw[if_neg y]
     refine⟨-1,?_,?_,.inl rfl⟩
     ·rw[if_neg y]
      simp[h0',hne,h1',z,Sh.cont]
     ·rw[ho]
      simp[h0',hne,h1',z]
   ·exact⟨-1,by simp[h0',hne,h1',z,Sh.cont],by simp[h0',hne,h1',z],.inl rfl⟩
  ·have h1':¬ ((e.kids.length:Int)=1+(C.length:Int)):=by omega
   exact⟨-1,by simp[h0',hne,h1',Sh.cont],by simp[h0',hne,h1'],.inl rfl⟩
theorem Tc (H:Jp p (E1 p) R1 R2 T (en e)) (V:HX p e v) (S:GG p.decls p.funcs) (hN:2000000≤N):Hv p R1 R2 N v e:=by
 by_cases h0:e.op=0
 ·exact Uy H V hN h0
 by_cases h1:e.op=1∨e.op=2∨e.op=3∨e.op=4
 ·exact SY H V hN h1
 by_cases h5:e.op=5
 ·exact SQ H V hN h5
 by_cases h6:e.op=6
 ·exact VD H V S hN h6
 by_cases h7:e.op=7
 ·exact WL H V hN h7
 by_cases h8:e.op=8
 ·exact TI H V S hN h8
 by_cases h9:e.op=9
 ·exact Tx H V S hN h9
 by_cases h10:e.op=10
 ·exact Sl H V S hN h10
 by_cases h11:e.op=11
 ·exact Sv H V S hN h11
 by_cases h12:e.op=12
 ·exact VE V h12
 by_cases h13:e.op=13
 ·exact U9 H V h13
 exact Sz H V hN (by omega)
end
theorem RE {p:Ai} (S:GG p.decls p.funcs) {N:Nat} (hN:2000000≤N) :∀(n:Nat),∃T:List Int→AP→Int,∀(v:List Int) (e:AP),A3 e→en e < n→v.length+3 * en e≤1000→(∀x∈v,Db p.decls x=true)→
  ∀n1 n2,n≤n1→n≤n2→Cg N n1 p v e=some (T v e)∧Bn N n2 v (E1 p) e=some (T v e)∧(T v e=-1∨Db p.decls (T v e)=true):=by
 intro n
 induction n with
 | zero=>exact⟨fun _ _=>0,fun v e _ h=>by omega⟩
 | succ n ih=>
  obtain⟨T,hT⟩:=ih
  refine⟨fun v e=>(Cg N (n+1) p v e).getD 0,fun v e hi hn hl ht n1 n2 h1 h2=>?_⟩
  have step :∀n1 n2,n≤n1→n≤n2→Hv p (Cg N n1) (Bn N n2) N v e:=fun n1 n2 h1 h2=>
   Tc (T:=T) (fun v e a b c d=>hT v e a (by omega) c d n1 n2 h1 h2) ⟨hl,ht,by have:=hl;omega,hi⟩ S hN
  obtain⟨m1,rfl⟩ :∃m,n1=m+1:=⟨n1 - 1,by omega⟩
  obtain⟨m2,rfl⟩ :∃m,n2=m+1:=⟨n2 - 1,by omega⟩
  obtain⟨t,q1,q2,q3⟩:=step n n (Nat.le_refl _) (Nat.le_refl _)
  obtain⟨t',r1,r2,_⟩:=step n m2 (Nat.le_refl _) (by omega)
  obtain⟨t'',s1,s2,_⟩:=step m1 n (by omega) (Nat.le_refl _)
  have e1:t'=t:=by rw[q1] at r1;cases r1;rfl
  have e2:t''=t:=by rw[q2] at s2;cases s2;rfl
  subst e1;subst e2
  have e3:(Cg N (n+1) p v e).getD 0=t'':=by rw[Cg,q1];rfl
  dsimp only
  rw[e3]
  exact⟨by rw[Cg];exact s1,by rw[Bn];exact r2,q3⟩
end RC



namespace RC
open Go
structure GI (p:Ai):Prop where
 Ck:S3 p
 size:WM p≤1048576
theorem GI.decls {p:Ai} (S:GI p):Lo p.decls:=by
 have h:=S.size
 unfold WM at h
 have hd :∀d∈p.decls,dz d≤1048576:=fun d hd=>by have:=P3 dz hd;omega
 refine⟨by omega,fun d hm=>?_,fun d hm c hc=>?_⟩
 ·have:=hd d hm;unfold dz at this;omega
 ·have:=hd d hm;unfold dz at this
  have:=P3 cz hc
  show cz c≤_
  omega
theorem GI.Jo {p:Ai} (S:GI p):p.funcs.length≤1048576:=by have h:=S.size;unfold WM at h;omega
theorem GI.fz {p:Ai} (S:GI p) {f:Ar} (hf:f∈p.funcs):f.params.length≤1048576∧B2 f.body.kids≤1048576:=by
 have h:=S.size
 unfold WM at h
 have h2:=P3 Wl hf
 have h3:Wl f=f.params.length+B2 f.body.kids:=rfl
 omega
theorem GI.fin {p:Ai} (S:GI p) {f:Ar} (hf:f∈p.funcs):Qc f:=S.Ck.funcs.1 f hf
def Qa (p:Ai):Bool:=KP p.decls (p.funcs.map fun f=>(f.params,f.result))
theorem QO {p:Ai} (S:GI p) {N:Nat} (hN:2000000≤N):E6 N p=some (Qa p):=Mn S.decls S.Jo (fun f hf=>(S.fz hf).1) hN
theorem Tq {p:Ai} (hl:p.funcs.length≤1048576) {N:Nat} (hN:2000000≤N):CT p N 0 []=some (E1 p).funcs:=by
 have key :∀{N i:Nat},i≤p.funcs.length→p.funcs.length - i < N→CT p N i ((E1 p).funcs.take i)=some (E1 p).funcs:=by
  intro N i hi hN
  refine Bl p.funcs.length (fun N i=>CT p N i ((E1 p).funcs.take i)=some (E1 p).funcs) ?_ ?_ hi hN
  ·intro n;rw[CT,if_neg (by simp[Aa]),List.take_of_length_le (by rw[Ja];omega)]
  ·intro n i hi ih
   obtain⟨f,hf,_⟩:=Bq hi
   have hf2:(E1 p).funcs[i]?=some ⟨f.params,[],f.result⟩:=by
    show (p.funcs.map _)[i]?=_
    rw[List.getElem?_map,hf];rfl
   rw[CT,if_pos (by simp[Aa];omega),BL hf]
   simp only[Option.bind_some]
   rw[GW _ _ _ (by simp;omega) (by simp;omega),BN (by omega) (by omega),show ((i:Int) + 1)=((i+1:Nat):Int) by omega]
   simp only[Option.bind_some]
   rw[← ih,Gs hf2]
 have:=key (Nat.zero_le _) (by omega:p.funcs.length - 0 < N)
 simpa using this
theorem TP {p:Ai} (hl:p.funcs.length≤1048576) {N:Nat} (hN:2000000≤N):Hl N p=some (E1 p):=by
 have key :∀{N i:Nat},i≤p.funcs.length→p.funcs.length - i < N→Dp p N i ((E1 p).funcs.take i)=some (E1 p).funcs:=by
  intro N i hi hN
  refine Bl p.funcs.length (fun N i=>Dp p N i ((E1 p).funcs.take i)=some (E1 p).funcs) ?_ ?_ hi hN
  ·intro n;rw[Dp,if_neg (by simp[Aa]),List.take_of_length_le (by rw[Ja];omega)]
  ·intro n i hi ih
   obtain⟨f,hf,_⟩:=Bq hi
   have hf2:(E1 p).funcs[i]?=some ⟨f.params,[],f.result⟩:=by
    show (p.funcs.map _)[i]?=_
    rw[List.getElem?_map,hf];rfl
   rw[Dp,if_pos (by simp[Aa];omega),BL hf]
   simp only[Option.bind_some]
   rw[GW _ _ _ (by simp;omega) (by simp;omega),BN (by omega) (by omega),show ((i:Int) + 1)=((i+1:Nat):Int) by omega]
   simp only[Option.bind_some]
   rw[← ih,Gs hf2]
 have:=key (Nat.zero_le _) (by omega:p.funcs.length - 0 < N)
 rw[List.take_zero,show ((0:Nat):Int)=0 from rfl] at this
 unfold Hl
 rw[this];rfl
theorem P6 {p:Ai} (S:GI p) {N:Nat} (hN:2000000≤N):E4 N p=some (Qa p):=by
 have hl:=S.Jo
 unfold E4 Qa
 by_cases h4:p.funcs.length≤4
 ·rw[if_neg (by rw[decide_eq_true_eq,Aa];omega),Tq hl hN]
  simp only[Option.bind_some]
  rw[Md S.decls (by rw[Ja];exact hl) (fun f hf=>by obtain⟨q,hq,rfl⟩:=List.mem_map.1 (show f∈p.funcs.map _ from hf);exact⟨(S.fz hq).1,by simp⟩) hN]
  have e1:((E1 p).funcs.map fun f=>(f.params,f.result))=p.funcs.map fun f=>(f.params,f.result):=by
   show (p.funcs.map _).map _=_
   rw[List.map_map];rfl
  have e2:((E1 p).funcs.all fun f=>ED (IU f.params f.EN) 0 f.EN)=true:=by
   rw[List.all_eq_true]
   intro f hf
   obtain⟨q,hq,rfl⟩:=List.mem_map.1 (show f∈p.funcs.map _ from hf)
   rfl
  rw[e1,e2];simp
 ·rw[if_pos (by rw[decide_eq_true_eq,Aa];omega)]
  have:KP p.decls (p.funcs.map fun f=>(f.params,f.result))=false:=by
   unfold KP
   simp[h4]
  rw[this]
def H2 (p:Ai) (T:List Int→AP→Int) (f:Ar):Bool:=decide (en f.body≤30) && decide (T f.params f.body=f.result)
theorem Ir {p:Ai} (S:GI p) {N:Nat} (hN:2000000≤N) :∃b,DP N p=some b∧DU N p=some b∧(b=true→GG p.decls p.funcs∧∀f∈p.funcs,en f.body≤30):=by
 unfold DP DU
 rw[QO S hN,P6 S hN]
 simp only[Option.bind_some]
 cases hs:Qa p with
 | false=>exact⟨false,rfl,rfl,fun h=>nomatch h⟩
 | true=>
  have SO:=GG.of hs
  have hl:=S.Jo
  obtain⟨T,hT⟩:=RE SO hN 31
  have hty :∀f∈p.funcs,en f.body≤30→Ic N p f.params f.body=some (T f.params f.body)∧FV N f.params (E1 p) f.body=some (T f.params f.body)∧(T f.params f.body=-1∨Db p.decls (T f.params f.body)=true):=fun f hf he=>by
   obtain⟨q1,q2,q3⟩:=SO.P2 f hf
   exact hT f.params f.body (S.fin hf).body (by omega) (by omega) q2 N N (by omega) (by omega)
  have hcl :∀f∈p.funcs,ES f.params=some f.params:=fun f hf=>by
   obtain⟨q1,q2,q3⟩:=SO.P2 f hf
   unfold ES
   rw[GW [] f.params 8 (by simp;omega) (by simp;omega)];rfl
  have L1:=D4 (l:=p.funcs) (Bx N p) (fun _ f=>H2 p T f) (fun n=>by rw[Bx,if_neg (by simp[Aa])]) (fun n i f hi=>by
   have hil:=(List.getElem?_eq_some_iff.1 hi).1
   have hf:=List.mem_of_getElem? hi
   rw[Bx,if_pos (by simp[Aa];omega),BL hi]
   simp only[Option.bind_some]
   rw[Gz (S.fz hf).2 hN,BN (by omega) (by omega),show ((i:Int) + 1)=((i+1:Nat):Int) by omega]
   simp only[Option.bind_some]
   unfold H2
   by_cases he:en f.body≤30
   ·rw[if_pos he,if_neg (by simp),(hty f hf he).1]
    by_cases hr:T f.params f.body=f.result <;> simp[he,hr]
   ·rw[if_neg he]
    simp[he]) (by omega:p.funcs.length < N)
  have L2:=D4 (l:=p.funcs) (CZ N p) (fun _ f=>H2 p T f) (fun n=>by rw[CZ,if_neg (by simp[Aa])]) (fun n i f hi=>by
   have hil:=(List.getElem?_eq_some_iff.1 hi).1
   have hf:=List.mem_of_getElem? hi
   obtain⟨q1,q2,q3⟩:=SO.P2 f hf
   have q4:f.params.all (Db p.decls)=true:=List.all_eq_true.2 q2
   rw[CZ,if_pos (by simp[Aa];omega),BL hi]
   simp only[Option.bind_some]
   unfold Ig
   rw[P6 S hN,hs,OP (S.fz hf).2 hN,Hb (by omega) (by omega),q4,TP hl hN,hcl f hf,BN (by omega) (by omega),show ((i:Int) + 1)=((i+1:Nat):Int) by omega]
   simp only[Option.bind_some]
   unfold H2
   by_cases he:en f.body≤30
   ·rw[if_pos he,(hty f hf he).2.1]
    have he0:¬ ((en f.body:Int) < 0):=by omega
    by_cases hr:T f.params f.body=f.result <;> simp[he,hr,he0]
   ·rw[if_neg he]
    have hr:¬ ((-1:Int)=f.result):=fun q=>by have:=(JY q3).1;omega
    simp[he,hr]) (by omega:p.funcs.length < N)
  rw[Eg] at L1 L2
  refine⟨p.funcs.all (H2 p T),?_,?_,fun h=>⟨SO,fun f hf=>?_⟩⟩
  ·simp only[Bool.not_true,Bool.false_eq_true,if_false]
   rw[L1,D3]
   cases p.funcs.all (H2 p T) <;> rfl
  ·simp only[Bool.not_true,Bool.false_eq_true,if_false]
   rw[L2,D3]
   cases p.funcs.all (H2 p T) <;> rfl
  ·have:=List.all_eq_true.1 h f hf
   unfold H2 at this
   simp only[Bool.and_eq_true,decide_eq_true_eq] at this
   exact this.1
def Ql (f:Int) (e:AP):Nat:=if e.op=9∧e.num=f then 1 else 0
mutual
def cse (f:Int):AP→Nat | .mk o n k=>(if o=9∧n=f then 1 else 0) + JH f k
def JH (f:Int):List AP→Nat | []=>0 | e :: l=>cse f e+JH f l
end
theorem SJ (f:Int) (e:AP):cse f e=Ql f e+JH f e.kids:=by
 cases e
 simp only[cse,Ql,AP.op,AP.num,AP.kids]
 congr 1
theorem RS {f:Int} {k:List AP} {i:Nat} {e:AP} (h:k[i]?=some e):JH f (k.drop i)=cse f e+JH f (k.drop (i+1)):=by rw[drop_cons h];simp[JH]
theorem UG (f:Int) (e:AP):Ql f e≤1:=by unfold Ql;split <;> omega
mutual
theorem UI (f:Int) :∀e:AP,cse f e≤en e
 | .mk o n k=>by
  have:=PI f k
  simp only[cse,en]
  split <;> omega
theorem PI (f:Int) :∀l:List AP,JH f l≤B2 l
 | []=>by simp[JH,B2]
 | e :: l=>by
  have:=UI f e
  have:=PI f l
  simp only[JH,B2];omega
end
theorem TJ {e:AP} {f:Int}:(if decide (e.op=9)=true then some (decide (e.num=f)) else some false)=some (decide (e.op=9∧e.num=f)):=by
 by_cases h1:e.op=9 <;> by_cases h2:e.num=f <;> simp[h1,h2]
theorem TY {N:Nat} (hN:2000000≤N) {f:Int} :∀(n:Nat) (e:AP),en e≤1000→en e≤n→EM N n e f=some (cse f e:Int):=by
 intro n
 induction n with
 | zero=>intro e _ h;have:=KK e;omega
 | succ n ih=>
  intro e hz hn
  have hk:e.kids.length≤1000:=by have:=IF e.kids;have:=G5 e;omega
  have hp:=G5 e
  have hcl:=PI f e.kids
  have h1:=UG f e
  rw[EM]
  unfold HI
  have key :∀{M i:Nat},i≤e.kids.length→e.kids.length - i < M→∀c:Nat,c+JH f (e.kids.drop i)≤2000→C0 e f (EM N n) M c i=some ((c+JH f (e.kids.drop i):Nat):Int):=by
   intro M i hi hM
   refine Bl e.kids.length (fun M i=>∀c:Nat,c+JH f (e.kids.drop i)≤2000→C0 e f (EM N n) M c i=some ((c+JH f (e.kids.drop i):Nat):Int)) ?_ ?_ hi hM
   ·intro m c _;rw[C0,if_neg (by simp[Aa]),List.drop_length];simp[JH]
   ·intro m i hi ih2 c hc
    obtain⟨x,hx,hxm⟩:=Bq hi
    have hxe:=D6 hxm
    rw[RS hx] at hc ⊢
    rw[C0,if_pos (by simp[Aa];omega),BL hx]
    simp only[Option.bind_some]
    rw[ih x (by omega) (by omega)]
    simp only[Option.bind_some]
    rw[BN (n:=(i:Int) + 1) (by omega) (by omega),BN (by omega) (by omega),show ((i:Int) + 1)=((i+1:Nat):Int) by omega,show ((c:Int) + (cse f x:Int))=((c+cse f x:Nat):Int) by omega,ih2 (c+cse f x) (by omega),Nat.add_assoc]
  have:=key (Nat.zero_le _) (by omega:e.kids.length - 0 < N) (Ql f e) (by rw[List.drop_zero];omega)
  rw[List.drop_zero,show ((0:Nat):Int)=0 from rfl,← SJ] at this
  rw[TJ]
  simp only[Option.bind_some]
  have e1:(if decide (e.op=9∧e.num=f)=true then some (1:Int) else some 0)=some ((Ql f e:Nat):Int):=by
   unfold Ql
   by_cases h:e.op=9∧e.num=f <;> simp[h]
  rw[e1]
  simp only[Option.bind_some]
  rw[this];rfl
theorem Wj {N:Nat} (hN:2000000≤N) {f:Int} :∀(n:Nat) (e:AP) (c:Nat),en e≤1000→c+cse f e≤102000→en e≤n→FG N n f c e=some (f,((c+cse f e:Nat):Int)):=by
 intro n
 induction n with
 | zero=>intro e _ _ _ h;have:=KK e;omega
 | succ n ih=>
  intro e c hz hc hn
  have hk:e.kids.length≤1000:=by have:=IF e.kids;have:=G5 e;omega
  have hp:=G5 e
  have hcl:=PI f e.kids
  have h1:=UG f e
  have hce:=SJ f e
  rw[FG]
  unfold Ie GM
  have key :∀{M i:Nat},i≤e.kids.length→e.kids.length - i < M→∀c:Nat,c≤102000→c+JH f (e.kids.drop i)≤102000→Dr e (FG N n) M i f c=some (f,((c+JH f (e.kids.drop i):Nat):Int)):=by
   intro M i hi hM
   refine Bl e.kids.length (fun M i=>∀c:Nat,c≤102000→c+JH f (e.kids.drop i)≤102000→Dr e (FG N n) M i f c=some (f,((c+JH f (e.kids.drop i):Nat):Int))) ?_ ?_ hi hM
   ·intro m c _ _;rw[Dr,if_neg (by simp[Aa]),List.drop_length];simp[JH]
   ·intro m i hi ih2 c hc0 hc
    obtain⟨x,hx,hxm⟩:=Bq hi
    have hxe:=D6 hxm
    rw[RS hx] at hc ⊢
    rw[Dr,if_pos (by simp[Aa];omega),BL hx]
    simp only[Option.bind_some]
    rw[ih x c (by omega) (by omega) (by omega)]
    simp only[Option.bind_some]
    rw[BN (n:=(i:Int) + 1) (by omega) (by omega),show ((i:Int) + 1)=((i+1:Nat):Int) by omega,ih2 (c+cse f x) (by omega) (by omega),Nat.add_assoc]
  have:=key (Nat.zero_le _) (by omega:e.kids.length - 0 < N) (c+Ql f e) (by omega) (by rw[List.drop_zero];omega)
  rw[List.drop_zero,show ((0:Nat):Int)=0 from rfl,Nat.add_assoc,← SJ] at this
  rw[TJ]
  simp only[Option.bind_some]
  have e1:(if decide (e.op=9∧e.num=f)=true then some (Sh.w ((c:Int) + 1)) else some (c:Int))=some ((c+Ql f e:Nat):Int):=by
   unfold Ql
   rw[BN (by omega) (by omega)]
   by_cases h:e.op=9∧e.num=f <;> simp[h]
  rw[e1]
  simp only[Option.bind_some]
  rw[this];rfl
def I8 (f:Int) (l:List Ar):Nat:=(l.map fun g=>cse f g.body).sum
theorem RT {f:Int} {k:List Ar} {i:Nat} {e:Ar} (h:k[i]?=some e):I8 f (k.drop i)=cse f e.body+I8 f (k.drop (i+1)):=by rw[drop_cons h];simp[I8]
theorem Wc {f:Int} {l:List Ar} (h :∀g∈l,en g.body≤30):I8 f l≤30 * l.length:=by
 induction l with
 | nil=>simp[I8]
 | cons g r ih=>
  have h1:=h g (by simp)
  have h2:=ih fun k hk=>h k (by simp[hk])
  have h3:=UI f g.body
  simp only[I8,List.map_cons,List.sum_cons,List.length_cons] at h2 ⊢
  omega
end RC



namespace RC
open Go
structure CX (D:List Ac) (F:List Ar):Prop where
 dl:D.length≤4
 Xa:nc D≤7
 cons :∀d∈D,d.cons.length≤3
 LI :∀d∈D,∀c∈d.cons,c.fields.length≤3∧∀x∈c.fields,x=0∨x=1∨x=3
 c1:Ct D 1=[0,1]
 c3:Ct D 3=[2,3]
 f0 :∃t,FQ D 0 0=some (t,⟨[]⟩)
 f1 :∃t,FQ D 0 1=some (t,⟨[0,1]⟩)
 f2 :∃t,FQ D 0 2=some (t,⟨[]⟩)
 f3 :∃t,FQ D 0 3=some (t,⟨[3,0,3]⟩)
 arr:F3 1 1 D 0=-1
 fl:F.length≤4
 VV:1≤F.length
 par :∀f∈F,f.params.length≤3
 cl :∀f∈F,(∀x∈f.params,x=0∨x=1∨x=3)∨(f.params=[2,1]∧f.result=1)
section
variable {D : List Ac} {F : List Ar}
theorem Sr (D:List Ac) (i:Nat):nc (D.take i)≤nc D:=by have:=E3 D i;omega
theorem CX.Tv (C:CX D F):D.length≤1048576:=by have:=C.dl;omega
theorem CX.X0 (C:CX D F):nc D≤1048576:=by have:=C.Xa;omega
theorem CX.PM (C:CX D F) {t:Int} {N:Nat} (hN:2000000≤N):Eo N D t=some (Ct D t):=Ke C.Tv C.X0 hN
theorem Lh {D:List Ac} {t:Int} :∀x∈Ct D t,∃c:Nat,x=(c:Int)∧c < nc D:=by
 intro x hx
 unfold Ct at hx
 split at hx
 ·rename_i h
  obtain⟨i,hi,rfl⟩:=List.mem_map.1 hx
  rw[List.mem_range] at hi
  cases hd:D[(t - 1).toNat]? with
  | none=>rw[hd] at hi;simp at hi
  | some d=>
   rw[hd] at hi
   simp only[Option.elim_some] at hi
   have h1:=IP hd
   have h2:=Sr D ((t - 1).toNat+1)
   exact⟨nc (D.take (t - 1).toNat) + i,by omega,by omega⟩
 ·cases hx
theorem CX.PK (C:CX D F) (t:Int):(Ct D t).length≤3:=by
 unfold Ct
 split
 ·rw[List.length_map,List.length_range]
  cases hd:D[(t - 1).toNat]? with
  | none=>simp
  | some d=>simpa using C.cons d (List.mem_of_getElem? hd)
 ·simp
theorem CX.fields (C:CX D F) {c:Nat} (hc:c < nc D) {N:Nat} (hN:2000000≤N) :∃fl:List Int,Be N D (c:Int)=some fl∧fl.length≤3∧∀x∈fl,x=0∨x=1∨x=3:=by
 obtain⟨t,x,h1,h2⟩:=Fo C.Tv C.X0 hc hN
 obtain⟨_,_,d,hd,hx⟩:=Ln h1
 obtain⟨h3,h4⟩:=C.LI d hd x hx
 exact⟨x.fields,h2,h3,h4⟩
theorem S8 :∀(D:List Ac) (k c:Nat) {r:Nat×GN},FQ D k c=some r→c < nc D
 | [],k,c,r,h=>by simp[FQ] at h
 | d :: D,k,c,r,h=>by
  unfold FQ at h
  have e:nc (d :: D)=d.cons.length+nc D:=by simp[nc]
  cases hx:d.cons[c]? with
  | some y=>have:=(List.getElem?_eq_some_iff.1 hx).1;omega
  | none=>
   rw[hx] at h
   have:=S8 D _ _ h
   omega
theorem CX.PF (C:CX D F) {c t:Nat} {x:GN} (h:FQ D 0 c=some (t,x)) {N:Nat} (hN:2000000≤N):Be N D (c:Int)=some x.fields:=by
 obtain⟨t',x',h1,h2⟩:=Fo C.Tv C.X0 (S8 D 0 c h) hN
 rw[h] at h1;cases h1;exact h2
theorem WZ {l:List Int} {x:Int} (hl:l.length≤1048576) {N i:Nat} (hi:i≤l.length) (hN:l.length - i < N):EX l x N i=some (if x∈l.drop i then Sum.inl true else Sum.inr ()):=by
 refine Bl l.length (fun N i=>EX l x N i=some (if x∈l.drop i then Sum.inl true else Sum.inr ())) ?_ ?_ hi hN
 ·intro n;rw[EX,if_neg (by simp[Aa])];simp
 ·intro n i hi ih
  obtain⟨y,hy,_⟩:=Bq hi
  rw[EX,if_pos (by simp[Aa];omega),BL hy,drop_cons hy]
  simp only[Option.bind_some,List.mem_cons]
  rw[BN (by omega) (by omega),show ((i:Int) + 1)=((i+1:Nat):Int) by omega]
  by_cases h:y=x
  ·simp[h]
  ·have h':¬ x=y:=fun e=>h e.symm
   rw[if_neg (by simpa using h),ih]
   simp[h']
theorem Wr {l:List Int} {x:Int} (hl:l.length≤1048576) {N:Nat} (hN:2000000≤N):HS N l x=some (decide (x∈l)):=by
 unfold HS
 have:=WZ (x:=x) hl (Nat.zero_le _) (by omega:l.length - 0 < N)
 rw[show ((0:Nat):Int)=0 from rfl,List.drop_zero] at this
 rw[this]
 by_cases h:x∈l <;> simp[h,Sh.cont]
def TW (D:List Ac) (F:List Ar) (t x:Int):Prop:=∃(f:Nat) (g:Ar) (y:Int),x=(f:Int)∧F[f]?=some g∧g.params[g.params.length - 1]?=some y∧0 < g.params.length∧F3 y g.result D 0=t
theorem Jc (C:CX D F) {t:Int} {M:Nat} (hM:2000000≤M):Ak (FU M ⟨D,F⟩ t) fun l=>l.length≤4∧∀x∈l,TW D F t x:=by
 have hf:=C.fl
 have key :∀{N i:Nat},i≤F.length→F.length - i < N→∀acc:List Int,acc.length≤i→(∀x∈acc,TW D F t x)→Ak (DE M ⟨D,F⟩ t N i acc) fun l=>l.length≤F.length∧∀x∈l,TW D F t x:=by
  intro N i hi hN
  refine Bl F.length (fun N i=>∀acc:List Int,acc.length≤i→(∀x∈acc,TW D F t x)→Ak (DE M ⟨D,F⟩ t N i acc) fun l=>l.length≤F.length∧∀x∈l,TW D F t x) ?_ ?_ hi hN
  ·intro n acc h1 h2
   rw[DE,if_neg (by simp[Aa])]
   exact Ak.some ⟨h1,h2⟩
  ·intro n i hi ih acc h1 h2
   obtain⟨g,hg,hgm⟩:=Bq hi
   have hp:=C.par g hgm
   rw[DE,if_pos (by simp[Aa];omega)]
   refine Ak.bind (R:=fun l=>l.length≤i+1∧∀x∈l,TW D F t x) ?_ fun l hl=>?_
   ·refine AY (BL hg) ?_
    refine Ak.bind (R:=fun b=>b=true→TW D F t i) ?_ fun b hb=>?_
    ·refine A2 (fun h=>?_) fun _=>Ak.some (fun h=>by cases h)
     rw[Aa] at h
     have hpos:0 < g.params.length:=by omega
     obtain⟨y,hy,_⟩:=Bq (l:=g.params) (i:=g.params.length - 1) (by omega)
     rw[Aa,BN (by omega) (by omega),show ((g.params.length:Int) - 1)=((g.params.length - 1:Nat):Int) by omega]
     refine AY (BL hy) (AY (Js C.Tv hM) (Ak.some fun h=>?_))
     exact⟨i,g,y,rfl,hg,hy,hpos,by simpa using h⟩
    ·refine Bz (fun h=>?_) fun _=>Ak.some ⟨by omega,h2⟩
     refine Ak.app (by simp;omega) (by simp;omega) (Ak.some ⟨by simp;omega,fun x hx=>?_⟩)
     rcases List.mem_append.1 hx with h3 | h3
     ·exact h2 x h3
     ·rw[List.mem_singleton] at h3;rw[h3];exact hb h
   ·rw[BN (by omega) (by omega),show ((i:Int) + 1)=((i+1:Nat):Int) by omega]
    exact ih l hl.1 hl.2
 unfold FU
 have:=key (Nat.zero_le _) (by omega:F.length - 0 < M) [] (by simp) (by simp)
 rw[show ((0:Nat):Int)=0 from rfl] at this
 exact Ak.bind this fun l hl=>Ak.some ⟨by omega,hl.2⟩
theorem Ib (C:CX D F) {vars:List Int} (hv:vars.length≤1000) {t:Int} {M:Nat} (hM:2000000≤M):Ak (Es M ⟨D,F⟩ vars t) fun _=>True:=by
 unfold Es
 refine Ak.bind (R:=fun _=>True) ?_ fun b _=>Ak.some trivial
 refine AY (Gv C.Tv) ?_
 refine Bz (fun _=>Ak.some trivial) fun _=>?_
 refine Ak.bind (Jc C hM) fun l _=>?_
 refine A2 (fun _=>Ak.some trivial) fun _=>?_
 exact AY (Wr (by omega) hM) (Ak.some trivial)
theorem Ow {vars:List Int} (hv:vars.length≤1000) {t:Int} {M:Nat} (hM:2000000≤M):Ak (Fa M vars t) fun l=>l.length≤1000∧∀x∈l,0≤x∧x≤1000:=by
 have key :∀{N i:Nat},i≤vars.length→vars.length - i < N→∀acc:List Int,acc.length≤i→(∀x∈acc,0≤x∧x≤1000)→Ak (Ca vars t N i acc) fun l=>l.length≤vars.length∧∀x∈l,0≤x∧x≤1000:=by
  intro N i hi hN
  refine Bl vars.length (fun N i=>∀acc:List Int,acc.length≤i→(∀x∈acc,0≤x∧x≤1000)→Ak (Ca vars t N i acc) fun l=>l.length≤vars.length∧∀x∈l,0≤x∧x≤1000) ?_ ?_ hi hN
  ·intro n acc h1 h2
   rw[Ca,if_neg (by simp[Aa])]
   exact Ak.some ⟨h1,h2⟩
  ·intro n i hi ih acc h1 h2
   obtain⟨y,hy,_⟩:=Bq hi
   rw[Ca,if_pos (by simp[Aa];omega)]
   refine Ak.bind (R:=fun l=>l.length≤i+1∧∀x∈l,0≤x∧x≤1000) ?_ fun l hl=>?_
   ·refine AY (BL hy) ?_
    refine A2 (fun _=>?_) fun _=>Ak.some ⟨by omega,h2⟩
    refine Ak.app (by simp;omega) (by simp;omega) (Ak.some ⟨by simp;omega,fun x hx=>?_⟩)
    rcases List.mem_append.1 hx with h3 | h3
    ·exact h2 x h3
    ·rw[List.mem_singleton] at h3;omega
   ·rw[BN (by omega) (by omega),show ((i:Int) + 1)=((i+1:Nat):Int) by omega]
    exact ih l hl.1 hl.2
 unfold Fa
 have:=key (Nat.zero_le _) (by omega:vars.length - 0 < M) [] (by simp) (by simp)
 rw[show ((0:Nat):Int)=0 from rfl] at this
 exact Ak.bind this fun l hl=>Ak.some ⟨by omega,hl.2⟩
structure GE (k P:Nat) (p:Int) (q:AP×Int):Prop where
 size:en q.1≤k
 Ck:A3 q.1
 lo:p≤q.2
 hi:q.2≤p+P
theorem GE.up {k k' P P':Nat} {p:Int} {q:AP×Int} (h:GE k P p q) (hk:k≤k') (hP:P≤P'):GE k' P' p q:=⟨by have:=h.size;omega,h.Ck,h.lo,by have:=h.hi;omega⟩
theorem CQ {n:Int} (h1:-1000000≤n) (h2:n≤1000000):Ij n:=⟨by omega,by omega⟩
theorem G1 {o n:Int} {k:List AP} (ho:Ij o) (hn:Ij n) (hk :∀e∈k,A3 e) (hl:k.length≤1000):A3 ⟨o,n,k⟩:=.mk ho hn (by show k.length≤_;omega) hk
theorem Ep (o n:Int) (k:List AP):en ⟨o,n,k⟩=1+B2 k:=G5 _
theorem HB :∀(a b:List AP),B2 (a ++ b)=B2 a+B2 b
 | [],b=>by simp[B2]
 | x :: a,b=>by have:=HB a b;simp only[List.cons_append,B2];omega
theorem FE (e:AP):B2 [e]=en e:=by simp[B2]
theorem KC {b:List Int} (Bb:Bk b) {p:Int} (h0:0≤p) (h1:p≤900000):Ak (GC b p) fun q=>(-1000≤q.1∧q.1≤1000)∧q.2=p+4:=by
 unfold GC
 refine Ak.bind (Bu Bb ⟨by omega,by omega⟩) fun a ha=>?_
 have a1:=ha.pos;have a2:=ha.nn;have a3:=ha.lt (by omega)
 refine Ak.bind (Bu Bb ⟨by omega,by omega⟩) fun c hc=>?_
 have c1:=hc.pos;have c2:=hc.nn;have c3:=hc.lt (by omega)
 refine Ak.bind (Bu Bb ⟨by omega,by omega⟩) fun d hd=>?_
 have d1:=hd.pos;have d2:=hd.nn;have d3:=hd.lt (by omega)
 refine Ak.bind (EZ Bb ⟨by omega,by omega⟩ (by simp) (by simp)) fun e he=>Ak.some ⟨?_,by have:=he.pos;show e.2=_;omega⟩
 have:=he.mem
 simp only[List.mem_cons,List.not_mem_nil,or_false] at this
 show -1000≤e.1∧e.1≤1000
 omega
def Uc (b:List Int) (D:List Ac) (F:List Ar) (rec:List Int→Int→List Ar→List Ac→Int→Option (AP×Int)) (t:Int) (k P:Nat):Prop:=
 ∀p:Int,0≤p→p≤800000→Ak (rec b p F D t) (GE k P p)
theorem Qg {b:List Int} {rec:List Int→Int→List Ar→List Ac→Int→Option (AP×Int)} {l:List Int} (hl:l.length≤3) {k P:Nat} (hP:P≤1000) (hrec :∀t∈l,Uc b D F rec t k P) {N i:Nat} (hi:i≤l.length) (hN:l.length - i < N) :
  ∀(p:Int) (acc:List AP),0≤p→p≤700000+(i * P:Nat)→acc.length=i→(∀e∈acc,A3 e)→B2 acc≤i * k→
   Ak (B8 b F D l rec N i p acc) fun q=>p≤q.1∧q.1≤p+((l.length - i) * P:Nat)∧q.2.length=l.length∧(∀e∈q.2,A3 e)∧B2 q.2≤l.length * k:=by
 refine Bl l.length (fun N i=>∀(p:Int) (acc:List AP),0≤p→p≤700000+(i * P:Nat)→acc.length=i→(∀e∈acc,A3 e)→B2 acc≤i * k→
   Ak (B8 b F D l rec N i p acc) fun q=>p≤q.1∧q.1≤p+((l.length - i) * P:Nat)∧q.2.length=l.length∧(∀e∈q.2,A3 e)∧B2 q.2≤l.length * k) ?_ ?_ hi hN
 ·intro n p acc h0 h1 h2 h3 h4
  rw[B8,if_neg (by simp[Aa])]
  exact Ak.some ⟨by show p≤p;omega,by show p≤_;omega,h2,h3,h4⟩
 ·intro n i hi ih p acc h0 h1 h2 h3 h4
  obtain⟨t,ht,htm⟩:=Bq hi
  have hiP:i * P≤3000:=by
   have:i * P≤3 * 1000:=Nat.mul_le_mul (by omega) hP
   omega
  have e1:(l.length - i) * P=P+(l.length - (i+1)) * P:=by
   rw[show l.length - i=(l.length - (i+1)) + 1 by omega,Nat.add_mul];omega
  have e2:(i+1) * P=i * P+P:=by rw[Nat.add_mul];omega
  have e3:(i+1) * k=i * k+k:=by rw[Nat.add_mul];omega
  rw[B8,if_pos (by simp[Aa];omega)]
  refine AY (BL ht) ?_
  refine Ak.bind (hrec t htm p h0 (by omega)) fun q hq=>?_
  have q1:=hq.lo;have q2:=hq.hi;have q3:=hq.size
  refine Ak.app (by simp;omega) (by simp;omega) ?_
  rw[BN (by omega) (by omega),show ((i:Int) + 1)=((i+1:Nat):Int) by omega]
  refine (ih q.2 (acc ++ [q.1]) (by omega) (by omega) (by simp;omega) (fun e he=>?_) (by rw[HB,FE];omega)).mono fun r hr=>⟨by have:=hr.1;omega,by have:=hr.2.1;omega,hr.2.2⟩
  rcases List.mem_append.1 he with h5 | h5
  ·exact h3 e h5
  ·rw[List.mem_singleton] at h5;rw[h5];exact hq.Ck
theorem Qv {b:List Int} {rec:List Int→Int→List Ar→List Ac→Int→Option (AP×Int)} {g:Ar} {m:Nat} (hm:g.params.length=m+1) (hl:m≤2) {k P:Nat} (hP:P≤1000) (hrec :∀t∈g.params,Uc b D F rec t k P) {N i:Nat} (hi:i≤m) (hN:m - i < N) :
  ∀(p:Int) (acc:List AP),0≤p→p≤700000+(i * P:Nat)→acc.length=i→(∀e∈acc,A3 e)→B2 acc≤i * k→
   Ak (Ce g b F D rec N i p acc) fun q=>p≤q.1∧q.1≤p+((m - i) * P:Nat)∧q.2.length=m∧(∀e∈q.2,A3 e)∧B2 q.2≤(m) * k:=by
 refine Bl m (fun N i=>∀(p:Int) (acc:List AP),0≤p→p≤700000+(i * P:Nat)→acc.length=i→(∀e∈acc,A3 e)→B2 acc≤i * k→
   Ak (Ce g b F D rec N i p acc) fun q=>p≤q.1∧q.1≤p+((m - i) * P:Nat)∧q.2.length=m∧(∀e∈q.2,A3 e)∧B2 q.2≤(m) * k) ?_ ?_ hi hN
 ·intro n p acc h0 h1 h2 h3 h4
  rw[Ce,BN (by omega) (by omega),if_neg (by rw[decide_eq_true_eq,Aa];omega)]
  exact Ak.some ⟨by show p≤p;omega,by show p≤_;omega,h2,h3,h4⟩
 ·intro n i hi ih p acc h0 h1 h2 h3 h4
  obtain⟨t,ht,htm⟩:=Bq (l:=g.params) (i:=i) (by omega)
  have hiP:i * P≤3000:=by
   have:i * P≤3 * 1000:=Nat.mul_le_mul (by omega) hP
   omega
  have e1:(m - i) * P=P+(m - (i+1)) * P:=by
   rw[show m - i=(m - (i+1)) + 1 by omega,Nat.add_mul];omega
  have e2:(i+1) * P=i * P+P:=by rw[Nat.add_mul];omega
  have e3:(i+1) * k=i * k+k:=by rw[Nat.add_mul];omega
  rw[Ce,BN (by omega) (by omega),if_pos (by rw[decide_eq_true_eq,Aa];omega)]
  refine AY (BL ht) ?_
  refine Ak.bind (hrec t htm p h0 (by omega)) fun q hq=>?_
  have q1:=hq.lo;have q2:=hq.hi;have q3:=hq.size
  refine Ak.app (by simp;omega) (by simp;omega) ?_
  rw[show ((i:Int) + 1)=((i+1:Nat):Int) by omega]
  refine (ih q.2 (acc ++ [q.1]) (by omega) (by omega) (by simp;omega) (fun e he=>?_) (by rw[HB,FE];omega)).mono fun r hr=>⟨by have:=hr.1;omega,by have:=hr.2.1;omega,hr.2.2⟩
  rcases List.mem_append.1 he with h5 | h5
  ·exact h3 e h5
  ·rw[List.mem_singleton] at h5;rw[h5];exact hq.Ck
theorem EG {o n:Int} (ho:-1000000≤o∧o≤1000000) (hn:-1000000≤n∧n≤1000000):A3 ⟨o,n,[]⟩:=G1 (CQ ho.1 ho.2) (CQ hn.1 hn.2) (by simp) (by simp)
theorem Ws (C:CX D F) {b:List Int} (Bb:Bk b) {M:Nat} (hM:2000000≤M) {t:Int} (ht:t=0∨t=1∨t=3) (n:Nat):Uc b D F (CM M (n+1)) t 1 6:=by
 intro p h0 h1
 rw[CM]
 unfold FZ
 refine AY (C.PM hM) ?_
 have data :∀(c:Nat) (fs:List Int),Ct D t=[(c:Int),((c+1:Nat):Int)]→c≤10→Be M D (c:Int)=some []→Be M D ((c+1:Nat):Int)=some fs→t∈fs→fs.length≤3→
   Ak (Option.bind (Sh.get (Ct D t) 0) fun c8=>
  Option.bind (
   Option.bind (
    if (decide (1 < (Sh.len (Ct D t))))=true then
     Option.bind (Ay b p 4) fun q47=>
     some (decide (q47.1=0),q47.2)
    else
     some (false,p)
   ) fun (t41,f42)=>
   if t41=true then
    Option.bind (Sh.get (Ct D t) 1) fun c45=>
    some (c45,f42)
   else
    some (c8,f42)
  ) fun (c10,f11)=>
  Option.bind (
   Option.bind (Be M D c10) fun q37=>
   Option.bind (HS M q37 t) fun q38=>
   if q38=true then
    some c8
   else
    some c10
  ) fun c14=>
  Option.bind (Be M D c14) fun q18=>
  Option.bind (B8 b F D q18 (CM M n) M 0 f11 []) fun (f24,l25)=>
  Option.bind (BT 6 c14 l25) fun q28=>
  some (q28,f24)) (GE 1 6 p):=by
  intro c fs hcl hc hf0 hf1 hin hfl
  rw[hcl]
  refine AY (show Sh.get [(c:Int),((c+1:Nat):Int)] 0=some (c:Int) from rfl) ?_
  refine Ak.bind (R:=fun q=>(q.1=(c:Int)∨q.1=((c+1:Nat):Int))∧q.2=p+1) ?_ ?_
  ·rw[if_pos (by simp[Aa])]
   refine Ak.bind (R:=fun q:Bool×Int=>q.2=p+1) (Ak.bind (Bu Bb ⟨by omega,by omega⟩) fun q hq=>Ak.some hq.pos) ?_
   rintro⟨t41,f42⟩ hf
   dsimp only at hf ⊢
   refine Bz (fun _=>?_) fun _=>Ak.some ⟨.inl rfl,hf⟩
   exact AY (show Sh.get [(c:Int),((c+1:Nat):Int)] 1=some ((c+1:Nat):Int) from rfl) (Ak.some ⟨.inr rfl,hf⟩)
  ·rintro⟨c10,f11⟩ ⟨hc10,hf⟩
   dsimp only at hc10 hf ⊢
   refine Ak.bind (R:=fun c14=>c14=(c:Int)) ?_ ?_
   ·rcases hc10 with rfl | rfl
    ·refine AY hf0 (AY (Wr (by simp) hM) ?_)
     exact Bz (fun _=>Ak.some rfl) fun _=>Ak.some rfl
    ·refine AY hf1 (AY (Wr (by omega) hM) ?_)
     rw[if_pos (by simpa using hin)]
     exact Ak.some rfl
   ·rintro c14 rfl
    refine AY hf0 ?_
    obtain⟨M',rfl⟩ :∃m,M=m+1:=⟨M - 1,by omega⟩
    rw[B8,if_neg (by simp[Aa])]
    refine AY rfl (AY rfl (Ak.some ⟨?_,EG ⟨by omega,by omega⟩ ⟨by omega,by omega⟩,?_,?_⟩))
    ·rw[Ep];simp[B2]
    ·show p≤f11;omega
    ·show f11≤_;omega
 rcases ht with rfl | rfl | rfl
 ·have e:Ct D 0=[]:=by unfold Ct;rw[if_neg (by omega)]
  rw[e,if_neg (by simp[Aa])]
  refine Ak.bind (Jc C hM) fun l _=>?_
  refine AY (show _=some false from if_neg (by simp)) ?_
  simp only[Bool.false_eq_true,if_false]
  refine Ak.bind (KC Bb h0 (by omega)) fun q hq=>AY rfl (Ak.some ⟨?_,EG ⟨by omega,by omega⟩ ⟨by omega,by omega⟩,?_,?_⟩)
  ·rw[Ep];simp[B2]
  ·show p≤q.2;omega
  ·show q.2≤_;omega
 ·obtain⟨t0,k0⟩:=C.f0
  obtain⟨t1,k1⟩:=C.f1
  rw[if_pos (by rw[C.c1];simp[Aa])]
  exact data 0 [0,1] C.c1 (by omega) (C.PF k0 hM) (C.PF k1 hM) (by simp) (by simp)
 ·obtain⟨t0,k0⟩:=C.f2
  obtain⟨t1,k1⟩:=C.f3
  rw[if_pos (by rw[C.c3];simp[Aa])]
  exact data 2 [3,0,3] C.c3 (by omega) (C.PF k0 hM) (C.PF k1 hM) (by simp) (by simp)
end
end RC



namespace RC
open Go
section
variable {D : List Ac} {F : List Ar}
theorem Qp (C:CX D F) {b:List Int} (Bb:Bk b) {M:Nat} (hM:2000000≤M) (t:Int) (n:Nat) {p:Int} (h0:0≤p) (h1:p≤600000):Ak (CM M (n+2) b p F D t) (GE 4 20 p):=by
 have hrec :∀t,(t=0∨t=1∨t=3)→Uc b D F (CM M (n+1)) t 1 6:=fun t ht=>Ws C Bb hM ht n
 rw[CM]
 unfold FZ
 refine AY (C.PM hM) ?_
 have hc3:=C.PK t
 refine A2 (fun hpos=>?_) fun _=>?_
 ·rw[Aa] at hpos
  refine Ak.get (by omega) (by omega) fun c8 _ hc8=>?_
  refine Ak.bind (R:=fun q=>q.1∈Ct D t∧p≤q.2∧q.2≤p+1) ?_ ?_
  ·refine Ak.bind (R:=fun q:Bool×Int=>(q.1=true→1 < (Ct D t).length)∧p≤q.2∧q.2≤p+1) ?_ ?_
   ·refine A2 (fun h2=>?_) fun _=>Ak.some ⟨(fun h=>by cases h),by show p≤p;omega,by show p≤_;omega⟩
    rw[Aa] at h2
    exact Ak.bind (Bu Bb ⟨by omega,by omega⟩) fun q hq=>Ak.some ⟨fun _=>by omega,by have:=hq.pos;show p≤q.2;omega,by have:=hq.pos;show q.2≤_;omega⟩
   ·rintro⟨t41,f42⟩ ⟨g1,g2,g3⟩
    dsimp only at g1 g2 g3 ⊢
    refine Bz (fun h=>?_) fun _=>Ak.some ⟨hc8,g2,g3⟩
    refine Ak.get (by omega) (by have:=g1 h;omega) fun c45 _ hc45=>Ak.some ⟨hc45,g2,g3⟩
  ·rintro⟨c10,f11⟩ ⟨hc10,g2,g3⟩
   dsimp only at hc10 g2 g3 ⊢
   refine Ak.bind (R:=fun c14=>c14∈Ct D t) ?_ ?_
   ·obtain⟨c,rfl,hc⟩:=Lh _ hc10
    obtain⟨fl,e1,e2,_⟩:=C.fields hc hM
    refine AY e1 (AY (Wr (by omega) hM) ?_)
    exact Bz (fun _=>Ak.some hc8) fun _=>Ak.some hc10
   ·intro c14 hc14
    obtain⟨c,rfl,hc⟩:=Lh _ hc14
    obtain⟨fl,e1,e2,e3⟩:=C.fields hc hM
    have hn:=C.Xa
    refine AY e1 ?_
    have:=Qg (D:=D) (F:=F) (b:=b) (rec:=CM M (n+1)) e2 (k:=1) (P:=6) (by omega) (fun t ht=>hrec t (e3 t ht)) (N:=M) (Nat.zero_le _) (by omega) f11 [] (by omega) (by omega) rfl (by simp) (by simp[B2])
    refine Ak.bind this ?_
    rintro⟨f24,l25⟩ ⟨a1,a2,a3,a4,a5⟩
    dsimp only at a1 a2 a3 a4 a5 ⊢
    refine AY rfl (Ak.some ⟨by rw[Ep];omega,G1 (CQ (by omega) (by omega)) (CQ (by omega) (by omega)) a4 (by omega),by show p≤f24;omega,by show f24≤_;omega⟩)
 ·refine Ak.bind (Jc C hM) fun l hl=>?_
  have hF:=C.fl
  refine Ak.bind (R:=fun t52=>t52=true→0 < t∧0 < l.length) ?_ fun t52 ht52=>?_
  ·refine A2 (fun h=>Ak.some fun h2=>⟨h,by rw[decide_eq_true_eq,Aa] at h2;omega⟩) fun _=>Ak.some fun h=>by cases h
  ·refine Bz (fun h=>?_) fun _=>?_
   ·obtain⟨ht0,hl0⟩:=ht52 h
    rw[Aa]
    refine Ak.bind (Bu Bb ⟨by omega,by omega⟩) fun q hq=>?_
    have q1:=hq.pos;have q2:=hq.nn;have q3:=hq.lt (by omega)
    refine Ak.get q2 q3 fun c57 _ hc57=>?_
    obtain⟨f,g,y,rfl,hg,hy,hgp,ha⟩:=hl.2 c57 hc57
    have hgm:=List.mem_of_getElem? hg
    have hfl:=(List.getElem?_eq_some_iff.1 hg).1
    have hp3:=C.par g hgm
    refine AY (BL hg) ?_
    have htys :∀x∈g.params,x=0∨x=1∨x=3:=by
     rcases C.cl g hgm with h2 | ⟨h2,h3⟩
     ·exact h2
     ·exfalso
      rw[h2] at hy
      have:y=1:=by simpa using hy.symm
      rw[this,h3,C.arr] at ha
      omega
    obtain⟨m,hm⟩ :∃m,g.params.length=m+1:=⟨g.params.length - 1,by omega⟩
    have:=Qv (D:=D) (F:=F) (b:=b) (rec:=CM M (n+1)) hm (by omega) (k:=1) (P:=6) (by omega) (fun t ht=>hrec t (htys t ht)) (N:=M) (Nat.zero_le _) (by omega) q.2 [] (by omega) (by omega) rfl (by simp) (by simp[B2])
    refine Ak.bind this ?_
    rintro⟨f66,l67⟩ ⟨a1,a2,a3,a4,a5⟩
    dsimp only at a1 a2 a3 a4 a5 ⊢
    refine AY rfl (Ak.some ⟨by rw[Ep];omega,G1 (CQ (by omega) (by omega)) (CQ (by omega) (by omega)) a4 (by omega),by show p≤f66;omega,by show f66≤_;omega⟩)
   ·refine Ak.bind (KC Bb h0 (by omega)) fun q hq=>AY rfl (Ak.some ⟨?_,EG ⟨by omega,by omega⟩ ⟨by omega,by omega⟩,?_,?_⟩)
    ·rw[Ep];simp[B2]
    ·show p≤q.2;omega
    ·show q.2≤_;omega
theorem Ip (C:CX D F) {b:List Int} (Bb:Bk b) {M:Nat} (hM:2000000≤M) {vars:List Int} (hv:vars.length≤1000) (t:Int) {p:Int} (h0:0≤p) (h1:p≤500000):Ak (FK M b p F D vars t) (GE 4 22 p):=by
 unfold FK
 refine Ak.bind (Ow hv hM) fun l hl=>?_
 refine Ak.bind (R:=fun q:Bool×Int=>(q.1=true→0 < l.length)∧p≤q.2∧q.2≤p+1) ?_ ?_
 ·refine A2 (fun h=>?_) fun _=>Ak.some ⟨(fun h=>by cases h),by show p≤p;omega,by show p≤_;omega⟩
  rw[Aa] at h
  refine Ak.bind (Bu Bb ⟨by omega,by omega⟩) fun q hq=>?_
  have q1:=hq.pos
  refine A2 (fun _=>Ak.some ⟨fun _=>by omega,by show p≤q.2;omega,by show q.2≤_;omega⟩) fun _=>?_
  exact Ak.bind (Ib C (by simp) hM) fun _ _=>Ak.some ⟨fun _=>by omega,by show p≤q.2;omega,by show q.2≤_;omega⟩
 ·rintro⟨t6,f7⟩ ⟨g1,g2,g3⟩
  dsimp only at g1 g2 g3 ⊢
  refine Bz (fun h=>?_) fun _=>?_
  ·have hl0:=g1 h
   rw[Aa]
   refine Ak.bind (Bu Bb ⟨by omega,by omega⟩) fun q hq=>?_
   have q1:=hq.pos;have q2:=hq.nn;have q3:=hq.lt (by omega)
   refine Ak.get q2 q3 fun c _ hc=>?_
   have:=hl.2 c hc
   refine AY rfl (Ak.some ⟨by rw[Ep];simp[B2],EG ⟨by omega,by omega⟩ ⟨by omega,by omega⟩,by show p≤q.2;omega,by show q.2≤_;omega⟩)
  ·unfold Ix
   obtain⟨m,rfl⟩ :∃m,M=m+2:=⟨M - 2,by omega⟩
   refine Ak.bind (Qp C Bb hM t m (p:=f7) (by omega) (by omega)) fun q hq=>Ak.some ⟨hq.size,hq.Ck,by have:=hq.lo;show p≤q.2;omega,by have:=hq.hi;show q.2≤_;omega⟩
theorem R4 (C:CX D F) {b:List Int} (Bb:Bk b) {M:Nat} (hM:2000000≤M) {vars:List Int} (hv:vars.length≤1000) {p:Int} (h0:0≤p) (h1:p≤500000):Ak (HF M b p F D vars) fun q=>q.2=p+1:=by
 unfold HF
 refine Ak.bind (EZ Bb ⟨by omega,by omega⟩ (by simp) (by simp)) fun q hq=>?_
 refine Ak.bind (R:=fun _=>True) ?_ fun t6 _=>Bz (fun _=>Ak.some hq.pos) fun _=>Ak.some hq.pos
 refine A2 (fun _=>Ak.some trivial) fun _=>?_
 exact Ak.bind (Ib C hv hM) fun _ _=>Ak.some trivial
theorem Qx (C:CX D F) {t:Int} {M:Nat} (hM:2000000≤M):Ak (Gc M ⟨D,F⟩ t) fun l=>l.length≤4∧∀x∈l,0≤x∧x < (F.length:Int):=by
 have hf:=C.fl
 have hf1:=C.VV
 have L2 :∀(g:Ar),g.params.length≤3→∀{N i:Nat},i≤g.params.length→g.params.length - i < N→∀ok:Bool,Ak (DA M g ⟨D,F⟩ N ok i) fun _=>True:=by
  intro g hg N i hi hN
  refine Bl g.params.length (fun N i=>∀ok:Bool,Ak (DA M g ⟨D,F⟩ N ok i) fun _=>True) ?_ ?_ hi hN
  ·intro n ok
   rw[DA,if_neg (by simp[Aa])]
   exact Ak.some trivial
  ·intro n i hi ih ok
   obtain⟨y,hy,_⟩:=Bq hi
   rw[DA,if_pos (by rw[decide_eq_true_eq,Aa];omega),BN (by omega) (by omega),show ((i:Int) + 1)=((i+1:Nat):Int) by omega]
   refine Ak.bind (R:=fun _=>True) ?_ fun ok _=>ih ok
   refine Bz (fun _=>?_) fun _=>Ak.some trivial
   refine AY (BL hy) (Ak.bind (Ib C (by simp) hM) fun _ _=>Ak.some trivial)
 have key :∀{N i:Nat},i≤F.length→F.length - i < N→∀acc:List Int,acc.length≤i→(∀x∈acc,0≤x∧x < (F.length:Int))→Ak (DJ M ⟨D,F⟩ t N i acc) fun l=>l.length≤F.length∧∀x∈l,0≤x∧x < (F.length:Int):=by
  intro N i hi hN
  refine Bl F.length (fun N i=>∀acc:List Int,acc.length≤i→(∀x∈acc,0≤x∧x < (F.length:Int))→Ak (DJ M ⟨D,F⟩ t N i acc) fun l=>l.length≤F.length∧∀x∈l,0≤x∧x < (F.length:Int)) ?_ ?_ hi hN
  ·intro n acc h1 h2
   rw[DJ,if_neg (by simp[Aa])]
   exact Ak.some ⟨h1,h2⟩
  ·intro n i hi ih acc h1 h2
   obtain⟨g,hg,hgm⟩:=Bq hi
   have hp:=C.par g hgm
   rw[DJ,if_pos (by rw[decide_eq_true_eq,Aa];show (i:Int) < (F.length:Int);omega),BN (by omega) (by omega),show ((i:Int) + 1)=((i+1:Nat):Int) by omega]
   refine Ak.bind (R:=fun l=>l.length≤i+1∧∀x∈l,0≤x∧x < (F.length:Int)) ?_ fun l hl=>ih l hl.1 hl.2
   refine AY (BL hg) ?_
   have:=L2 g hp (N:=M) (Nat.zero_le _) (by omega) (decide (g.result=t))
   refine Ak.bind this fun ok _=>?_
   refine Bz (fun _=>?_) fun _=>Ak.some ⟨by omega,h2⟩
   refine Ak.app (by simp;omega) (by simp;omega) (Ak.some ⟨by simp;omega,fun x hx=>?_⟩)
   rcases List.mem_append.1 hx with h3 | h3
   ·exact h2 x h3
   ·rw[List.mem_singleton] at h3;omega
 unfold Gc
 have:=key (i:=1) hf1 (by omega:F.length - 1 < M) [] (by simp) (by simp)
 rw[show ((1:Nat):Int)=1 from rfl] at this
 exact Ak.bind this fun l hl=>Ak.some ⟨by omega,hl.2⟩
def Ed (d:Nat):Nat:=if d=0 then 4 else 9 * d - 5
def C9 (d:Nat):Nat:=if d=0 then 35 else 80 * d - 45
theorem Io {r d n:Nat} (h1:1≤r) (h3:r≤3) (hn:3≤n) (hd:d * r≤n - 1):5+r * Ed d≤Ed n∧40+r * C9 d≤C9 n:=by
 have hn0:¬ n=0:=by omega
 unfold Ed C9
 rw[if_neg hn0,if_neg hn0]
 obtain rfl | rfl | rfl:r=1∨r=2∨r=3:=by omega
 all_goals
  by_cases h:d=0
  ·rw[if_pos h,if_pos h];omega
  ·rw[if_neg h,if_neg h];omega
theorem Ms (d:Nat):4≤Ed d:=by unfold Ed;split <;> omega
theorem Nj (d:Nat):35≤C9 d:=by unfold C9;split <;> omega
theorem Wg {d:Nat} (h:d≤20):C9 d≤1600:=by unfold C9;split <;> omega
abbrev RU:=List Int→Int→List Ar→List Ac→List Int→Int→Int→Option (AP×Int)
def RG (b:List Int) (D:List Ac) (F:List Ar) (rec:RU) (n:Nat):Prop:=
 ∀(d:Nat) (vars:List Int) (t p:Int),d < n→d≤20→vars.length+3 * d≤400→0≤p→p+(C9 d:Int)≤400000→Ak (rec b p F D vars t (d:Int)) (GE (Ed d) (C9 d) p)
structure GL (m k P:Nat) (p:Int) (q:List AP×Int):Prop where
 len:q.1.length=m
 size:B2 q.1≤k
 Ck :∀e∈q.1,A3 e
 lo:p≤q.2
 hi:q.2≤p+P
theorem Uw (a b:Nat):Int.tdiv (a:Int) (b:Int)=((a / b:Nat):Int):=rfl
theorem SZ {a b:Nat} (hb:b≠0) (ha:a≤1000000):Sh.quo (a:Int) (b:Int)=some ((a / b:Nat):Int):=by
 have h:=Nat.div_le_self a b
 rw[UZ (by omega),Uw]
 generalize a / b=c at h ⊢
 rw[BN (by omega) (by omega)]
theorem Oe {b:List Int} {rec:RU} {n:Nat} (R:RG b D F rec n) {vars types:List Int} (ht:types.length≤3) {bud:Nat} (hb:bud≤20) {d:Nat} (hd:types.length≠0→bud / types.length=d) (hdn:d < n) (hd20:d≤20) (hv:vars.length+3 * d≤400) {M:Nat} (hM:2000000≤M) {p:Int} (h0:0≤p) (h1:p+(types.length * C9 d:Nat)≤400000) :
  Ak (EI M rec b p F D vars types (bud:Int)) (GL types.length (types.length * Ed d) (types.length * C9 d) p):=by
 have key :∀{N i:Nat},i≤types.length→types.length - i < N→∀(q:Int) (acc:List AP),p≤q→q≤p+(i * C9 d:Nat)→acc.length=i→(∀e∈acc,A3 e)→B2 acc≤i * Ed d→
   Ak (Ds b F D vars types (bud:Int) rec N i q acc) fun r=>p≤r.1∧r.1≤p+(types.length * C9 d:Nat)∧r.2.length=types.length∧(∀e∈r.2,A3 e)∧B2 r.2≤types.length * Ed d:=by
  intro N i hi hN
  refine Bl types.length (fun N i=>∀(q:Int) (acc:List AP),p≤q→q≤p+(i * C9 d:Nat)→acc.length=i→(∀e∈acc,A3 e)→B2 acc≤i * Ed d→
   Ak (Ds b F D vars types (bud:Int) rec N i q acc) fun r=>p≤r.1∧r.1≤p+(types.length * C9 d:Nat)∧r.2.length=types.length∧(∀e∈r.2,A3 e)∧B2 r.2≤types.length * Ed d) ?_ ?_ hi hN
  ·intro n q acc g1 g2 g3 g4 g5
   rw[Ds,if_neg (by simp[Aa])]
   exact Ak.some ⟨g1,g2,g3,g4,g5⟩
  ·intro n i hi ih q acc g1 g2 g3 g4 g5
   obtain⟨t,ht',_⟩:=Bq hi
   have e2:(i+1) * C9 d=i * C9 d+C9 d:=by rw[Nat.add_mul];omega
   have e3:(i+1) * Ed d=i * Ed d+Ed d:=by rw[Nat.add_mul];omega
   have e4:(i+1) * C9 d≤types.length * C9 d:=Nat.mul_le_mul_right _ hi
   rw[Ds,if_pos (by rw[decide_eq_true_eq,Aa];omega),BN (n:=(i:Int) + 1) (by omega) (by omega),show ((i:Int) + 1)=((i+1:Nat):Int) by omega]
   refine AY (BL ht') ?_
   rw[Aa]
   refine AY (SZ (by omega) (by omega)) ?_
   rw[hd (by omega)]
   refine Ak.bind (R d vars t q hdn hd20 hv (by omega) (by omega)) fun r hr=>?_
   have r1:=hr.lo;have r2:=hr.hi;have r3:=hr.size
   refine Ak.app (by simp;omega) (by simp;omega) ?_
   refine ih r.2 (acc ++ [r.1]) (by omega) (by omega) (by simp;omega) (fun e he=>?_) (by rw[HB,FE];omega)
   rcases List.mem_append.1 he with h5 | h5
   ·exact g4 e h5
   ·rw[List.mem_singleton] at h5;rw[h5];exact hr.Ck
 unfold EI
 have:=key (Nat.zero_le _) (by omega:types.length - 0 < M) p [] (by omega) (by omega) rfl (by simp) (by simp[B2])
 rw[show ((0:Nat):Int)=0 from rfl] at this
 refine Ak.bind this ?_
 rintro⟨f,l⟩ ⟨a1,a2,a3,a4,a5⟩
 exact Ak.some ⟨a3,a5,a4,a1,a2⟩
theorem RB {r d n P:Nat} {p q0:Int} {o m:Int} {l:List AP} {q:Int} (ho:-1000000≤o∧o≤1000000) (hm:-1000000≤m∧m≤1000000) (h3:r≤3) (hn:3≤n) (hd:d * r≤n - 1) (hq:p≤q0∧q0≤p+P) (hP:P≤40) (g:GL r (r * Ed d) (r * C9 d) q0 (l,q)):GE (Ed n) (C9 n) p (⟨o,m,l⟩,q):=by
 have s1:=g.size;have s2:=g.lo;have s3:=g.hi;have s4:=g.len
 dsimp only at s1 s2 s3 s4
 have hn1:=Ms n
 have hn2:=Nj n
 refine⟨?_,G1 (CQ ho.1 ho.2) (CQ hm.1 hm.2) g.Ck (by omega),by show p≤q;omega,?_⟩
 ·rw[Ep]
  rcases Nat.eq_zero_or_pos r with rfl | hr
  ·omega
  ·have:=(Io (d:=d) hr h3 hn hd).1;omega
 ·show q≤_
  rcases Nat.eq_zero_or_pos r with rfl | hr
  ·have:40≤C9 n:=by unfold C9;rw[if_neg (by omega)];omega
   omega
  ·have:=(Io (d:=d) hr h3 hn hd).2;omega
end
end RC



namespace RC
open Go
section
variable {D : List Ac} {F : List Ar}
theorem OA (C:CX D F) {b:List Int} {rec:RU} {n:Nat} (R:RG b D F rec n) {vars:List Int} (hn3:3≤n) (hn:n≤20) (hv:vars.length+3 * n≤400) {t d0:Int} {r d:Nat} (hr:(Ct D d0).length=r) (hd:r≠0→(n - 2) / r=d) (hdn:d+1≤n) {M:Nat} (hM:2000000≤M) {p:Int} (h0:0≤p) (h1:p+(r * C9 d:Nat)≤400000) {k0:Nat} {e0:AP} (hk0:en e0≤k0) (he0:A3 e0) :
  Ak (Cl M b F D vars t (n:Int) (Ct D d0) rec M 0 p [e0]) fun q=>p≤q.1∧q.1≤p+(r * C9 d:Nat)∧q.2.length=r+1∧(∀e∈q.2,A3 e)∧B2 q.2≤k0+r * Ed d:=by
 have hr3:=C.PK d0
 have key :∀{N i:Nat},i≤(Ct D d0).length→(Ct D d0).length - i < N→∀(q:Int) (acc:List AP),p≤q→q≤p+(i * C9 d:Nat)→acc.length=i+1→(∀e∈acc,A3 e)→B2 acc≤k0+i * Ed d→
   Ak (Cl M b F D vars t (n:Int) (Ct D d0) rec N i q acc) fun q=>p≤q.1∧q.1≤p+(r * C9 d:Nat)∧q.2.length=r+1∧(∀e∈q.2,A3 e)∧B2 q.2≤k0+r * Ed d:=by
  intro N i hi hN
  refine Bl (Ct D d0).length (fun N i=>∀(q:Int) (acc:List AP),p≤q→q≤p+(i * C9 d:Nat)→acc.length=i+1→(∀e∈acc,A3 e)→B2 acc≤k0+i * Ed d→
   Ak (Cl M b F D vars t (n:Int) (Ct D d0) rec N i q acc) fun q=>p≤q.1∧q.1≤p+(r * C9 d:Nat)∧q.2.length=r+1∧(∀e∈q.2,A3 e)∧B2 q.2≤k0+r * Ed d) ?_ ?_ hi hN
  ·intro m q acc g1 g2 g3 g4 g5
   rw[Cl,if_neg (by simp[Aa])]
   subst hr
   exact Ak.some ⟨g1,g2,g3,g4,g5⟩
  ·intro m i hi ih q acc g1 g2 g3 g4 g5
   obtain⟨c,hc,hcm⟩:=Bq hi
   obtain⟨cn,rfl,hcn⟩:=Lh _ hcm
   obtain⟨fl,e1,e2',_⟩:=C.fields hcn hM
   have e2:(i+1) * C9 d=i * C9 d+C9 d:=by rw[Nat.add_mul];omega
   have e3:(i+1) * Ed d=i * Ed d+Ed d:=by rw[Nat.add_mul];omega
   have e4:(i+1) * C9 d≤r * C9 d:=Nat.mul_le_mul_right _ (by omega)
   rw[Cl,if_pos (by rw[decide_eq_true_eq,Aa];omega),BN (n:=(i:Int) + 1) (by omega) (by omega),show ((i:Int) + 1)=((i+1:Nat):Int) by omega]
   refine AY (BL hc) (AY e1 (AY (Gk (by omega) (by omega)) ?_))
   rw[Aa,BN (n:=(n:Int) - 2) (by omega) (by omega),show ((n:Int) - 2)=((n - 2:Nat):Int) by omega]
   refine AY (SZ (by omega) (by omega)) ?_
   rw[hr,hd (by omega)]
   refine Ak.bind (R d (vars ++ fl) t q (by omega) (by omega) (by rw[List.length_append];omega) (by omega) (by omega)) fun s hs=>?_
   have r1:=hs.lo;have r2:=hs.hi;have r3:=hs.size
   refine Ak.app (by simp;omega) (by simp;omega) ?_
   refine ih s.2 (acc ++ [s.1]) (by omega) (by omega) (by simp;omega) (fun e he=>?_) (by rw[HB,FE];omega)
   rcases List.mem_append.1 he with h5 | h5
   ·exact g4 e h5
   ·rw[List.mem_singleton] at h5;rw[h5];exact hs.Ck
 have:=key (Nat.zero_le _) (by omega:(Ct D d0).length - 0 < M) p [e0] (by omega) (by omega) rfl (fun e he=>by rw[List.mem_singleton] at he;rw[he];exact he0) (by rw[FE];omega)
 rw[show ((0:Nat):Int)=0 from rfl] at this
 exact this
theorem KD (a r:Nat):a / r * r≤a:=Nat.div_mul_le_self a r
theorem Qq (C:CX D F) {b:List Int} (Bb:Bk b) {rec:RU} {n:Nat} (R:RG b D F rec n) {vars:List Int} (hn3:3≤n) (hn:n≤20) (hv:vars.length+3 * n≤400) {t:Int} {M:Nat} (hM:2000000≤M) {p0 p:Int} (h0:0≤p0) (hp:p0≤p∧p≤p0+1) (h1:p0+(C9 n:Int)≤400000) :
  Ak (Gq M rec b p F D vars t (n:Int)) (GE (Ed n) (C9 n) p0):=by
 have hpk:=Nj n
 unfold Gq
 refine Ak.bind (EZ Bb ⟨by omega,by omega⟩ (by simp) (by simp)) fun q hq=>?_
 have q1:=hq.pos
 have q2:=hq.mem
 simp only[List.mem_cons,List.not_mem_nil,or_false] at q2
 refine Ak.bind (R:=fun d=>0≤d∧d≤4) ?_ fun d0 hd0=>?_
 ·refine Ak.bind (R:=fun _=>True) ?_ fun t32 _=>Bz (fun _=>Ak.some (by decide)) fun _=>Ak.some (by omega)
  refine A2 (fun _=>Ak.some trivial) fun _=>?_
  exact AY (Gv C.Tv) (Ak.some trivial)
 refine AY (C.PM hM) ?_
 refine Ak.bind (Ip C Bb hM (by omega) d0 (p:=q.2) (by omega) (by omega)) fun lf hlf=>?_
 have l1:=hlf.lo;have l2:=hlf.hi;have l3:=hlf.size
 obtain⟨r,hr⟩ :∃r,(Ct D d0).length=r:=⟨_,rfl⟩
 have hr3:=C.PK d0
 obtain⟨d,hd⟩ :∃d,d=(n - 2) / r:=⟨_,rfl⟩
 have hdr:d * r≤n - 2:=by rw[hd];exact KD _ _
 have hdn:d≤n - 2:=by rw[hd];exact Nat.div_le_self _ _
 have hn1:=Ms n
 have fit:5+r * Ed d≤Ed n∧35+r * C9 d≤C9 n:=by
  rcases Nat.eq_zero_or_pos r with h | h
  ·rw[h]
   constructor
   ·have:5≤Ed n:=by unfold Ed;rw[if_neg (by omega)];omega
    omega
   ·omega
  ·have:=Io (d:=d) h (by omega) hn3 (by omega)
   omega
 have:=OA (t:=t) C R hn3 hn hv (r:=r) (d:=d) hr (fun _=>hd.symm) (by omega) hM (p:=lf.2) (by omega) (by omega) (k0:=4) l3 hlf.Ck
 refine Ak.bind this ?_
 rintro⟨f16,l17⟩ ⟨a1,a2,a3,a4,a5⟩
 dsimp only at a1 a2 a3 a4 a5 ⊢
 exact AY rfl (Ak.some ⟨by rw[Ep];omega,G1 (CQ (by omega) (by omega)) (CQ (by omega) (by omega)) a4 (by omega),by show p0≤f16;omega,by show f16≤_;omega⟩)
theorem Qh (C:CX D F) {b:List Int} (Bb:Bk b) {rec:RU} {n:Nat} (R:RG b D F rec n) {vars:List Int} (hn3:3≤n) (hn:n≤20) (hv:vars.length+3 * n≤400) {t:Int} {M:Nat} (hM:2000000≤M) {p0 p:Int} (h0:0≤p0) (hp:p0≤p∧p≤p0+1) (h1:p0+(C9 n:Int)≤400000) :
  Ak (Gd M rec b p F D vars t (n:Int)) (GE (Ed n) (C9 n) p0):=by
 have hpk:=Nj n
 have hn1:=Ms n
 have hdl:=C.dl
 have fit1:5+Ed (n - 2)≤Ed n∧40+C9 (n - 2)≤C9 n:=by
  have:=Io (r:=1) (d:=n - 2) (n:=n) (by omega) (by omega) hn3 (by omega)
  omega
 unfold Gd
 refine Ak.cont (R:=GE (Ed n) (C9 n) p0) (S:=fun f=>p0≤f∧f≤p0+2) ?_ (fun r hr=>hr) fun f3 hf3=>?_
 ·refine Ak.bind (Bu Bb ⟨by omega,by omega⟩) fun q34 hq=>?_
  have q1:=hq.pos
  refine A2 (fun _=>?_) fun _=>Ak.some (by show p0≤q34.2∧q34.2≤_;omega)
  have L1 :∀{N i:Nat},i≤5→5 - i < N→1≤i→Ak (DF M b F D vars t (n:Int) q34 rec N i) fun v=>match v with | .inl r=>GE (Ed n) (C9 n) p0 r | .inr _=>True:=by
   intro N i hi hN
   refine Bl 5 (fun N i=>1≤i→Ak (DF M b F D vars t (n:Int) q34 rec N i) fun v=>match v with | .inl r=>GE (Ed n) (C9 n) p0 r | .inr _=>True) ?_ ?_ hi hN
   ·intro m _
    rw[DF,if_neg (by rw[decide_eq_true_eq,Aa];omega)]
    exact Ak.some trivial
   ·intro m i hi ih h1i
    rw[DF]
    refine A2 (fun hle=>?_) fun _=>Ak.some trivial
    rw[Aa] at hle
    obtain⟨dd,hdd,_⟩:=Bq (l:=D) (i:=i - 1) (by omega)
    rw[BN (n:=(i:Int) - 1) (by omega) (by omega),show ((i:Int) - 1)=((i - 1:Nat):Int) by omega,BN (n:=(i:Int) + 1) (by omega) (by omega),show ((i:Int) + 1)=((i+1:Nat):Int) by omega,BN (n:=(n:Int) - 2) (by omega) (by omega),show ((n:Int) - 2)=((n - 2:Nat):Int) by omega]
    refine Ak.bind (R:=fun _=>True) ?_ fun t45 _=>Bz (fun _=>?_) fun _=>ih (by omega)
    ·refine AY (Gv C.Tv) (Bz (fun _=>?_) fun _=>Ak.some trivial)
     refine AY (BL hdd) (A2 (fun _=>?_) fun _=>Ak.some trivial)
     exact Ak.bind (Ib C (by omega) hM) fun _ _=>Ak.some trivial
    ·refine Ak.bind (Ip C Bb hM (by omega) i (p:=q34.2) (by omega) (by omega)) fun lf hlf=>?_
     have l1:=hlf.lo;have l2:=hlf.hi;have l3:=hlf.size
     refine AY (BL hdd) ?_
     refine Ak.bind (R (n - 2) vars dd.from_ lf.2 (by omega) (by omega) (by omega) (by omega) (by omega)) fun s hs=>?_
     have r1:=hs.lo;have r2:=hs.hi;have r3:=hs.size
     refine AY rfl (Ak.some (show GE (Ed n) (C9 n) p0 _ from ⟨?_,G1 (CQ (by omega) (by omega)) (CQ (by omega) (by omega)) (fun e he=>?_) (by simp),by show p0≤s.2;omega,by show s.2≤_;omega⟩))
     ·rw[Ep];simp only[B2];omega
     ·simp only[List.mem_cons,List.not_mem_nil,or_false] at he
      rcases he with rfl | rfl
      ·exact hlf.Ck
      ·exact hs.Ck
  have l1:=L1 (N:=M) (i:=1) (by omega) (by omega) (by omega)
  rw[show ((1:Nat):Int)=1 from rfl] at l1
  refine Ak.cont (R:=GE (Ed n) (C9 n) p0) (S:=fun _=>True) ?_ (fun r hr=>hr) fun _ _=>Ak.some (by show p0≤q34.2∧q34.2≤_;omega)
  exact l1.mono fun v hv=>by cases v <;> exact hv
 ·refine AY (C.PM hM) ?_
  have hc3:=C.PK t
  have ga :∀(types:List Int) (q:Int) (o m:Int),types.length≤3→p0≤q→q≤p0+10→-1000000≤o∧o≤1000000→-1000000≤m∧m≤1000000→
    Ak (Option.bind (EI M rec b q F D vars types (Sh.w ((n:Int) - 1))) fun q15=>Option.bind (BT o m q15.1) fun q16=>some (q16,q15.2)) (GE (Ed n) (C9 n) p0):=by
   intro types q o m ht g1 g2 ho hm
   rw[BN (n:=(n:Int) - 1) (by omega) (by omega),show ((n:Int) - 1)=((n - 1:Nat):Int) by omega]
   obtain⟨d,hd⟩ :∃d,d=(n - 1) / types.length:=⟨_,rfl⟩
   have hdr:d * types.length≤n - 1:=by rw[hd];exact KD _ _
   have hdn:d≤n - 1:=by rw[hd];exact Nat.div_le_self _ _
   have hfit:0 < types.length→40+types.length * C9 d≤C9 n:=fun h=>(Io (d:=d) h ht hn3 hdr).2
   have hle:(types.length * C9 d:Nat)≤C9 n:=by
    rcases Nat.eq_zero_or_pos types.length with h | h
    ·rw[h];omega
    ·have:=hfit h;omega
   have hle2:q+(types.length * C9 d:Nat)≤400000:=by
    rcases Nat.eq_zero_or_pos types.length with h | h
    ·rw[h];omega
    ·have:=hfit h;omega
   refine Ak.bind (Oe R ht (bud:=n - 1) (by omega) (d:=d) (fun _=>hd.symm) (by omega) (by omega) (by omega) hM (p:=q) (by omega) hle2) ?_
   rintro⟨l,q'⟩ g
   exact AY rfl (Ak.some (RB (P:=10) ho hm ht hn3 hdr ⟨g1,g2⟩ (by omega) g))
  refine A2 (fun hpos=>?_) fun _=>?_
  ·rw[Aa] at hpos ⊢
   refine Ak.bind (Bu Bb ⟨by omega,by omega⟩) fun q hq=>?_
   have q1:=hq.pos;have q2:=hq.nn;have q3:=hq.lt (by omega)
   refine Ak.get q2 q3 fun c12 _ hc12=>?_
   obtain⟨c,rfl,hc⟩:=Lh _ hc12
   obtain⟨fl,e1,e2,_⟩:=C.fields hc hM
   have hnc:=C.Xa
   exact AY e1 (ga fl q.2 6 c e2 (by omega) (by omega) (by omega) (by omega))
  ·refine A2 (fun _=>?_) fun _=>?_
   ·refine Ak.bind (Ip C Bb hM (by omega) t (p:=f3) (by omega) (by omega)) fun lf hlf=>Ak.some ⟨by have:=hlf.size;show en lf.1≤_;omega,hlf.Ck,by have:=hlf.lo;show p0≤lf.2;omega,by have:=hlf.hi;show lf.2≤_;omega⟩
   ·refine Ak.bind (Bu Bb ⟨by omega,by omega⟩) fun q hq=>?_
    have q1:=hq.pos
    refine A2 (fun _=>ga [0] q.2 5 0 (by simp) (by omega) (by omega) (by omega) (by omega)) fun _=>?_
    refine Ak.bind (EZ Bb ⟨by omega,by omega⟩ (by simp) (by simp)) fun q30 hq30=>?_
    have o1:=hq30.pos
    have o2:=hq30.mem
    simp only[List.mem_cons,List.not_mem_nil,or_false] at o2
    exact ga [0,0] q30.2 q30.1 0 (by simp) (by omega) (by omega) (by omega) (by omega)
theorem T0 (C:CX D F) {b:List Int} (Bb:Bk b) {rec:RU} {n:Nat} (R:RG b D F rec n) {vars:List Int} (hn:n≤20) (hv:vars.length+3 * n≤400) {t:Int} {M:Nat} (hM:2000000≤M) {p:Int} (h0:0≤p) (h1:p+(C9 n:Int)≤400000) :
  Ak (IN M rec b p F D vars t (n:Int)) (GE (Ed n) (C9 n) p):=by
 have hpk:=Nj n
 have hn1:=Ms n
 unfold IN
 refine A2 (fun _=>?_) fun hn3'=>?_
 ·refine Ak.bind (Ip C Bb hM (by omega) t (p:=p) (by omega) (by omega)) fun lf hlf=>Ak.some ⟨by have:=hlf.size;show en lf.1≤_;omega,hlf.Ck,hlf.lo,by have:=hlf.hi;show lf.2≤_;omega⟩
 have hn3:3≤n:=by omega
 refine Ak.cont (R:=GE (Ed n) (C9 n) p) (S:=fun f=>p≤f∧f≤p+1) ?_ (fun r hr=>hr) fun f8 hf8=>?_
 ·refine Ak.bind (Bu Bb ⟨by omega,by omega⟩) fun q hq=>?_
  have q1:=hq.pos
  refine A2 (fun _=>?_) fun _=>?_
  ·refine Ak.bind (Ip C Bb hM (by omega) t (p:=q.2) (by omega) (by omega)) fun lf hlf=>Ak.some (show GE (Ed n) (C9 n) p _ from ⟨by have:=hlf.size;show en lf.1≤_;omega,hlf.Ck,by have:=hlf.lo;show p≤lf.2;omega,by have:=hlf.hi;show lf.2≤_;omega⟩)
  refine Ak.bind (R:=fun _=>True) ?_ fun t19 _=>Bz (fun _=>?_) fun _=>?_
  ·exact A2 (fun _=>Ak.some trivial) fun _=>Ak.some trivial
  ·have ed:Int.tdiv (n:Int) 2=((n / 2:Nat):Int):=rfl
   have fit:2 * Ed (n / 2) + 1≤Ed n∧2 * C9 (n / 2) + 2≤C9 n:=by
    have hd0:¬ n / 2=0:=by omega
    have hn0:¬ n=0:=by omega
    unfold Ed C9
    rw[if_neg hd0,if_neg hn0,if_neg hd0,if_neg hn0]
    omega
   rw[ed]
   have hd:=Nat.div_le_self n 2
   have hd2:n / 2+1≤n:=by omega
   generalize n / 2=d at hd hd2 fit ⊢
   rw[BN (n:=(d:Int)) (by omega) (by omega)]
   refine Ak.bind (R4 C Bb hM (by omega) (p:=q.2) (by omega) (by omega)) fun q23 hq23=>?_
   refine Ak.bind (R d vars q23.1 q23.2 (by omega) (by omega) (by omega) (by omega) (by omega)) fun s hs=>?_
   have r1:=hs.lo;have r2:=hs.hi;have r3:=hs.size
   refine AY (Gk (by omega) (by simp)) ?_
   refine Ak.bind (R d (vars ++ [q23.1]) t s.2 (by omega) (by omega) (by simp;omega) (by omega) (by omega)) fun u hu=>?_
   have u1:=hu.lo;have u2:=hu.hi;have u3:=hu.size
   refine AY rfl (Ak.some (show GE (Ed n) (C9 n) p _ from ⟨?_,G1 (CQ (by omega) (by omega)) (CQ (by omega) (by omega)) (fun e he=>?_) (by simp),by show p≤u.2;omega,by show u.2≤_;omega⟩))
   ·rw[Ep];simp only[B2];omega
   ·simp only[List.mem_cons,List.not_mem_nil,or_false] at he
    rcases he with rfl | rfl
    ·exact hs.Ck
    ·exact hu.Ck
  have ga :∀(types:List Int) (q:Int) (o m:Int),types.length≤3→p≤q→q≤p+10→-1000000≤o∧o≤1000000→-1000000≤m∧m≤1000000→
    Ak (Option.bind (EI M rec b q F D vars types (Sh.w ((n:Int) - 1))) fun q15=>Option.bind (BT o m q15.1) fun q16=>some (Sum.inl (q16,q15.2))) fun v:(AP×Int) ⊕ Int=>match v with | .inl r=>GE (Ed n) (C9 n) p r | .inr f=>p≤f∧f≤p+1:=by
   intro types q o m ht g1 g2 ho hm
   rw[BN (n:=(n:Int) - 1) (by omega) (by omega),show ((n:Int) - 1)=((n - 1:Nat):Int) by omega]
   obtain⟨d,hd⟩ :∃d,d=(n - 1) / types.length:=⟨_,rfl⟩
   have hdr:d * types.length≤n - 1:=by rw[hd];exact KD _ _
   have hdn:d≤n - 1:=by rw[hd];exact Nat.div_le_self _ _
   have hfit:0 < types.length→40+types.length * C9 d≤C9 n:=fun h=>(Io (d:=d) h ht hn3 hdr).2
   have hle2:q+(types.length * C9 d:Nat)≤400000:=by
    rcases Nat.eq_zero_or_pos types.length with h | h
    ·rw[h];omega
    ·have:=hfit h;omega
   refine Ak.bind (Oe R ht (bud:=n - 1) (by omega) (d:=d) (fun _=>hd.symm) (by omega) (by omega) (by omega) hM (p:=q) (by omega) hle2) ?_
   rintro⟨l,q'⟩ g
   exact AY rfl (Ak.some (RB (P:=10) ho hm ht hn3 hdr ⟨g1,g2⟩ (by omega) g))
  refine A2 (fun _=>(ga [0,t,t] q.2 7 0 (by simp) (by omega) (by omega) (by omega) (by omega)).mono fun v hv=>by cases v <;> exact hv) fun _=>?_
  refine Ak.bind (R:=fun _=>True) ?_ fun t35 _=>Bz (fun _=>?_) fun _=>?_
  ·exact A2 (fun _=>Ak.some trivial) fun _=>A2 (fun _=>Ak.some trivial) fun _=>Ak.some trivial
  ·exact Ak.bind (Qq C Bb R hn3 hn hv hM h0 (p:=q.2) (by omega) h1) fun r hr=>Ak.some (show GE (Ed n) (C9 n) p _ from hr)
  refine Ak.bind (R:=fun _=>True) ?_ fun t41 _=>Bz (fun _=>?_) fun _=>Ak.some (by show p≤q.2∧q.2≤_;omega)
  ·exact A2 (fun _=>Ak.some trivial) fun _=>Ak.some trivial
  refine Ak.bind (Qx C hM) fun l hl=>?_
  refine A2 (fun hpos=>?_) fun _=>Ak.some (by show p≤q.2∧q.2≤_;omega)
  rw[Aa] at hpos ⊢
  refine Ak.bind (Bu Bb ⟨by omega,by omega⟩) fun q49 hq49=>?_
  have a1:=hq49.pos;have a2:=hq49.nn;have a3:=hq49.lt (by omega)
  refine Ak.get a2 a3 fun c50 _ hc50=>?_
  obtain⟨b0,b1⟩:=hl.2 c50 hc50
  refine Ak.get b0 b1 fun g _ hg=>?_
  have hF:=C.fl
  exact (ga g.params q49.2 9 c50 (C.par g hg) (by omega) (by omega) (by omega) (by omega)).mono fun v hv=>by cases v <;> exact hv
 ·exact Ak.bind (Qh C Bb R hn3 hn hv hM h0 hf8 h1) fun r hr=>Ak.some hr
theorem QX (C:CX D F) {b:List Int} (Bb:Bk b) {M:Nat} (hM:2000000≤M) :∀n:Nat,RG b D F (Gn M n) n
 | 0=>fun d _ _ _ hd=>absurd hd (by omega)
 | n+1=>fun d vars t p hd h20 hv h0 h1=>by
  rw[Gn]
  have R:RG b D F (Gn M n) d:=fun d' vars' t' p' hd'=>QX C Bb hM n d' vars' t' p' (by omega)
  exact T0 C Bb R h20 hv hM h0 h1
theorem Gb (C:CX D F) {b:List Int} (Bb:Bk b) {M:Nat} (hM:2000000≤M) {d:Nat} (hd:d≤20) {vars:List Int} (hv:vars.length≤100) (t:Int) {p:Int} (h0:0≤p) (h1:p≤300000):Ak (Ew M b p F D vars t (d:Int)) (GE (Ed d) (C9 d) p):=by
 have:=Wg hd
 exact QX C Bb hM M d vars t p (by omega) hd (by omega) h0 (by omega)
end
end RC



namespace RC
open Go
section
variable {D : List Ac} {F : List Ar}
structure GQ (k P:Nat) (p:Int) (q:Int×Int×Int×List AP):Prop where
 size:en ⟨q.2.1,q.2.2.1,q.2.2.2⟩≤k
 Ck:A3 ⟨q.2.1,q.2.2.1,q.2.2.2⟩
 lo:p≤q.1
 hi:q.1≤p+P
theorem GE.parts {k P:Nat} {p:Int} {q:AP×Int} (h:GE k P p q):GQ k P p (q.2,q.1.op,q.1.num,q.1.kids):=by
 obtain⟨e,f⟩:=q
 cases e
 exact⟨h.size,h.Ck,h.lo,h.hi⟩
theorem QW (o n:Int) (a b:AP):en ⟨o,n,[a,b]⟩=1+en a+en b:=by rw[Ep];simp only[B2];omega
theorem U4 (o n:Int) (a b c:AP):en ⟨o,n,[a,b,c]⟩=1+en a+en b+en c:=by rw[Ep];simp only[B2];omega
theorem Hx (o n:Int):en ⟨o,n,[]⟩=1:=by rw[Ep];simp[B2]
theorem QK {o n:Int} {a b:AP} (ho:-1000000≤o∧o≤1000000) (hn:-1000000≤n∧n≤1000000) (ha:A3 a) (hb:A3 b):A3 ⟨o,n,[a,b]⟩:=
 G1 (CQ ho.1 ho.2) (CQ hn.1 hn.2) (fun e he=>by simp only[List.mem_cons,List.not_mem_nil,or_false] at he;rcases he with rfl | rfl <;> assumption) (by simp)
theorem Ur {o n:Int} {a b c:AP} (ho:-1000000≤o∧o≤1000000) (hn:-1000000≤n∧n≤1000000) (ha:A3 a) (hb:A3 b) (hc:A3 c):A3 ⟨o,n,[a,b,c]⟩:=
 G1 (CQ ho.1 ho.2) (CQ hn.1 hn.2) (fun e he=>by simp only[List.mem_cons,List.not_mem_nil,or_false] at he;rcases he with rfl | rfl | rfl <;> assumption) (by simp)
theorem ZV {o n:Int} {a:AP} (ho:-1000000≤o∧o≤1000000) (hn:-1000000≤n∧n≤1000000) (ha:A3 a):A3 ⟨o,n,[a]⟩:=
 G1 (CQ ho.1 ho.2) (CQ hn.1 hn.2) (fun e he=>by rw[List.mem_singleton] at he;rw[he];exact ha) (by simp)
theorem SG {b:List Int} (Bb:Bk b) {M:Nat} (hM:2000000≤M) (t:Int) {p:Int} (h0:0≤p) (h1:p≤500000):Ak (HC M b p t) (GE 20 20 p):=by
 unfold HC
 have li :∀n:Int,0≤n→n≤100→A3 ⟨0,n,[]⟩:=fun n a c=>EG ⟨by omega,by omega⟩ ⟨by omega,by omega⟩
 refine AY rfl ?_
 refine A2 (fun _=>?_) fun _=>?_
 ·refine AY rfl ?_
  refine Ak.bind (Bu Bb ⟨by omega,by omega⟩) fun q hq=>?_
  have q1:=hq.pos;have q2:=hq.nn;have q3:=hq.lt (by omega)
  refine AY rfl (AY rfl ?_)
  refine Ak.bind (Bu Bb ⟨by omega,by omega⟩) fun s hs=>?_
  have s1:=hs.pos;have s2:=hs.nn;have s3:=hs.lt (by omega)
  have l6:A3 ⟨6,2,[]⟩:=EG ⟨by omega,by omega⟩ ⟨by omega,by omega⟩
  refine AY rfl (AY rfl (Ak.some ⟨?_,?_,by show p≤s.2;omega,by show s.2≤_;omega⟩))
  ·rw[U4,U4,Hx,Hx,Hx];omega
  ·exact Ur ⟨by omega,by omega⟩ ⟨by omega,by omega⟩ (Ur ⟨by omega,by omega⟩ ⟨by omega,by omega⟩ l6 (li _ q2 (by omega)) l6) (li _ s2 (by omega)) l6
 ·refine Ak.bind (Bu Bb ⟨by omega,by omega⟩) fun q hq=>?_
  have q1:=hq.pos;have q2:=hq.nn;have q3:=hq.lt (by omega)
  have key :∀(n:Nat) (N:Nat) (f o m:Int) (k:List AP),n < N→n≤3→p≤f→f+4 * n≤p+13→A3 ⟨o,m,k⟩→en ⟨o,m,k⟩ + 2 * n≤7→Ak (D2 b N n f o m k) (GQ 20 20 p):=by
   intro n
   induction n with
   | zero=>
    intro N f o m k hN _ g1 g2 g3 g4
    obtain⟨N,rfl⟩ :∃m,N=m+1:=⟨N - 1,by omega⟩
    rw[D2,if_neg (by simp)]
    exact Ak.some ⟨by show en ⟨o,m,k⟩≤20;omega,g3,g1,by show f≤_;omega⟩
   | succ n ih=>
    intro N f o m k hN hn g1 g2 g3 g4
    obtain⟨N,rfl⟩ :∃m,N=m+1:=⟨N - 1,by omega⟩
    rw[D2,if_pos (by rw[decide_eq_true_eq];omega)]
    refine Ak.bind (KC Bb (by omega) (by omega)) fun s hs=>?_
    refine AY rfl (AY rfl ?_)
    rw[BN (by omega) (by omega),show (((n+1:Nat):Int) - 1)=(n:Int) by omega]
    refine ih N s.2 6 1 _ (by omega) (by omega) (by omega) (by omega) (QK ⟨by omega,by omega⟩ ⟨by omega,by omega⟩ (EG ⟨by omega,by omega⟩ ⟨by omega,by omega⟩) g3) ?_
    show en ⟨6,1,[⟨0,s.1,[]⟩,⟨o,m,k⟩]⟩ + 2 * n≤7
    rw[QW,Hx];omega
  obtain⟨n,hn⟩:=Int.eq_ofNat_of_zero_le q2
  have h3:=key (n+1) M q.2 6 0 [] (by omega) (by omega) (by omega) (by omega) (EG ⟨by omega,by omega⟩ ⟨by omega,by omega⟩) (by rw[Hx];omega)
  rw[BN (by omega) (by omega),hn,show (1+(n:Int))=((n+1:Nat):Int) by omega]
  refine Ak.bind h3 ?_
  rintro⟨f,o,m,k⟩ g
  exact Ak.some ⟨g.size,g.Ck,g.lo,g.hi⟩
theorem S6:Ed 4=31:=rfl
theorem Tw:C9 4=275:=rfl
theorem ZS:Ed 3=22:=rfl
theorem ZN:C9 3=195:=rfl
theorem XD:Ed 16=139:=rfl
theorem Yd:C9 16=1235:=rfl
theorem Qr (C:CX D F) {b:List Int} (Bb:Bk b) {M:Nat} (hM:2000000≤M) {p:Int} (h0:0≤p) (h1:p≤200000):Ak (Gj M b p F D) (GE 1000 3000 p):=by
 unfold Gj
 refine Ak.bind (EZ Bb ⟨by omega,by omega⟩ (by simp) (by simp)) fun q hq=>?_
 have q1:=hq.pos
 refine Ak.bind (Gb C Bb hM (d:=16) (by omega) (vars:=[q.1]) (by simp) 0 (p:=q.2) (by omega) (by omega)) fun g hg=>?_
 have g1:=hg.size;have g2:=hg.lo;have g3:=hg.hi
 rw[XD] at g1
 rw[Yd] at g3
 refine Ak.bind (R:=GQ 141 2000 p) ?_ ?_
 ·refine Ak.bind (Bu Bb ⟨by omega,by omega⟩) fun s hs=>?_
  have s1:=hs.pos
  refine A2 (fun _=>AY rfl (Ak.some ?_)) fun _=>Ak.some ?_
  ·refine⟨?_,(ZV ⟨by omega,by omega⟩ ⟨by omega,by omega⟩ hg.Ck:A3 ⟨5,0,[g.1]⟩),by show p≤s.2;omega,by show s.2≤_;omega⟩
   show en ⟨5,0,[g.1]⟩≤_
   rw[Ep,FE];omega
  ·have:=hg.parts
   exact⟨by have:=this.size;rw[XD] at this;dsimp only at this ⊢;omega,this.Ck,by show p≤s.2;omega,by show s.2≤_;omega⟩
 ·rintro⟨f,o,m,k⟩ g
  have a1:=g.size;have a2:=g.lo;have a3:=g.hi;have a4:=g.Ck
  dsimp only at a1 a2 a3 a4 ⊢
  refine Ak.bind (SG Bb hM q.1 (p:=f) (by omega) (by omega)) fun l hl=>?_
  have l1:=hl.size;have l2:=hl.lo;have l3:=hl.hi
  refine AY rfl (Ak.some ⟨by rw[QW];omega,QK ⟨by omega,by omega⟩ ⟨by omega,by omega⟩ hl.Ck a4,by show p≤l.2;omega,by show l.2≤_;omega⟩)
theorem Qi (C:CX D F) {b:List Int} (Bb:Bk b) {M:Nat} (hM:2000000≤M) {f:Nat} (hf:f < F.length) {a:Nat} (ha:a≤3) {p:Int} (h0:0≤p) (h1:p≤200000):Ak (Gg M b p F D f a) (GE 1000 3000 p):=by
 have hfl:=C.fl
 obtain⟨g,hg,hgm⟩:=Bq hf
 have hp3:=C.par g hgm
 unfold Gg
 refine AY (BL hg) (AY (Gk (by omega) (by simp)) ?_)
 have key :∀{N i:Nat},i≤g.params.length→g.params.length - i < N→∀(q:Int) (acc:List AP),p≤q→q≤p+i→acc.length=i→(∀e∈acc,A3 e)→B2 acc≤3 * i→
   Ak (DI g b a N i q acc) fun r=>p≤r.1∧r.1≤p+3∧r.2.length≤3∧(∀e∈r.2,A3 e)∧B2 r.2≤9:=by
  intro N i hi hN
  refine Bl g.params.length (fun N i=>∀(q:Int) (acc:List AP),p≤q→q≤p+i→acc.length=i→(∀e∈acc,A3 e)→B2 acc≤3 * i→
   Ak (DI g b a N i q acc) fun r=>p≤r.1∧r.1≤p+3∧r.2.length≤3∧(∀e∈r.2,A3 e)∧B2 r.2≤9) ?_ ?_ hi hN
  ·intro n q acc g1 g2 g3 g4 g5
   rw[DI,if_neg (by simp[Aa])]
   exact Ak.some ⟨g1,by show q≤_;omega,by show acc.length≤3;omega,g4,by show B2 acc≤9;omega⟩
  ·intro n i hi ih q acc g1 g2 g3 g4 g5
   obtain⟨t,ht,_⟩:=Bq hi
   rw[DI,if_pos (by rw[decide_eq_true_eq,Aa];omega),BN (n:=(i:Int) + 1) (by omega) (by omega),show ((i:Int) + 1)=((i+1:Nat):Int) by omega,Aa]
   have ap :∀{e:AP} {s:Int},A3 e→en e≤3→p≤s→s≤p+(i+1:Nat)→Ak (Option.bind (Sh.app acc [e] 40) fun l68=>some (s,l68)) fun r:Int×List AP=>p≤r.1∧r.1≤p+(i+1:Nat)∧r.2.length=i+1∧(∀e∈r.2,A3 e)∧B2 r.2≤3 * (i+1):=fun he h3 hs1 hs2=>
    Ak.app (by simp;omega) (by simp;omega) (Ak.some ⟨hs1,hs2,by simp;omega,fun x hx=>by
     rcases List.mem_append.1 hx with h5 | h5
     ·exact g4 x h5
     ·rw[List.mem_singleton] at h5;rw[h5];exact he,by show B2 (acc ++ _)≤_;rw[HB,FE];omega⟩)
   have vi :∀{n:Int},0≤n→n≤100→A3 ⟨12,n,[]⟩:=fun a c=>EG ⟨by omega,by omega⟩ ⟨by omega,by omega⟩
   refine Ak.bind (R:=fun r:Int×List AP=>p≤r.1∧r.1≤p+(i+1:Nat)∧r.2.length=i+1∧(∀e∈r.2,A3 e)∧B2 r.2≤3 * (i+1)) ?_ fun r hr=>ih r.1 r.2 hr.1 hr.2.1 hr.2.2.1 hr.2.2.2.1 hr.2.2.2.2
   refine A2 (fun _=>?_) fun _=>?_
   ·rw[BN (n:=(g.params.length:Int) + 1) (by omega) (by omega)]
    exact AY rfl (ap (vi (by omega) (by omega)) (by rw[Hx];omega) g1 (by omega))
   ·refine Ak.bind (R:=fun r:Bool×Int=>p≤r.2∧r.2≤p+(i+1:Nat)) ?_ ?_
    ·refine AY (BL ht) (A2 (fun _=>?_) fun _=>Ak.some (by show p≤q∧q≤_;omega))
     exact Ak.bind (Bu Bb ⟨by omega,by omega⟩) fun s hs=>Ak.some (by have:=hs.pos;show p≤s.2∧s.2≤_;omega)
    ·rintro⟨t70,f71⟩ ⟨a1,a2⟩
     dsimp only at a1 a2 ⊢
     refine Bz (fun _=>?_) fun _=>?_
     ·exact AY rfl (AY rfl (AY rfl (ap (QK ⟨by omega,by omega⟩ ⟨by omega,by omega⟩ (vi (by omega) (by omega)) (vi (by omega) (by omega))) (by rw[QW,Hx,Hx];omega) a1 a2)))
     ·exact AY rfl (ap (vi (by omega) (by omega)) (by rw[Hx];omega) a1 a2)
 have k:=key (Nat.zero_le _) (by omega:g.params.length - 0 < M) p [] (by omega) (by omega) rfl (by simp) (by simp[B2])
 rw[show ((0:Nat):Int)=0 from rfl] at k
 refine Ak.bind k ?_
 rintro⟨f13,l14⟩ ⟨a1,a2,a3,a4,a5⟩
 dsimp only at a1 a2 a3 a4 a5 ⊢
 have again:A3 ⟨9,f,l14⟩:=G1 (CQ (by omega) (by omega)) (CQ (by omega) (by omega)) a4 (by omega)
 have ea:en ⟨9,(f:Int),l14⟩≤10:=by rw[Ep];omega
 refine AY rfl ?_
 have hvl:(g.params ++ [(0:Int),1]).length≤100:=by simp;omega
 refine Ak.bind (R:=GQ 200 1000 p) ?_ ?_
 ·refine Ak.bind (R:=fun r:Bool×Int=>p≤r.2∧r.2≤p+4) ?_ ?_
  ·refine A2 (fun _=>?_) fun _=>Ak.some (by show p≤f13∧f13≤_;omega)
   exact Ak.bind (Bu Bb ⟨by omega,by omega⟩) fun s hs=>Ak.some (by have:=hs.pos;show p≤s.2∧s.2≤_;omega)
  ·rintro⟨t30,f31⟩ ⟨b1,b2⟩
   dsimp only at b1 b2 ⊢
   refine Bz (fun _=>?_) fun _=>?_
   ·refine Ak.bind (Gb C Bb hM (d:=4) (by omega) hvl 0 (p:=f31) (by omega) (by omega)) fun q35 hq=>?_
    have c1:=hq.size;have c2:=hq.lo;have c3:=hq.hi
    rw[S6] at c1;rw[Tw] at c3
    refine Ak.bind (R:=fun r:Int×Int×List AP=>en ⟨r.1,r.2.1,r.2.2⟩≤31∧A3 ⟨r.1,r.2.1,r.2.2⟩) ?_ ?_
    ·refine Ak.bind (R:=fun _=>True) ?_ fun t43 _=>Bz (fun _=>?_) fun _=>Ak.some ?_
     ·refine A2 (fun h=>?_) fun _=>Ak.some trivial
      rw[Aa] at h
      exact Ak.get (by omega) (by omega) fun _ _ _=>Ak.some trivial
     ·rw[Aa]
      refine AY rfl (AY rfl (AY rfl (Ak.some ⟨?_,?_⟩)))
      ·show en ⟨11,0,[⟨12,0,[]⟩,⟨12,(g.params.length:Int),[]⟩]⟩≤31
       rw[QW,Hx,Hx];omega
      ·exact (QK ⟨by omega,by omega⟩ ⟨by omega,by omega⟩ (EG ⟨by omega,by omega⟩ ⟨by omega,by omega⟩) (EG ⟨by omega,by omega⟩ ⟨by omega,by omega⟩):A3 ⟨11,0,[⟨12,0,[]⟩,⟨12,(g.params.length:Int),[]⟩]⟩)
     ·have:=hq.parts
      exact⟨by have:=this.size;dsimp only at this ⊢;rw[S6] at this;exact this,this.Ck⟩
    ·rintro⟨f37,f38,f39⟩ ⟨d1,d2⟩
     dsimp only at d1 d2 ⊢
     refine AY rfl (Ak.some ⟨?_,(QK ⟨by omega,by omega⟩ ⟨by omega,by omega⟩ d2 again:A3 ⟨6,1,[⟨f37,f38,f39⟩,⟨9,(f:Int),l14⟩]⟩),by show p≤q35.2;omega,by show q35.2≤_;omega⟩)
     show en ⟨6,1,[⟨f37,f38,f39⟩,⟨9,(f:Int),l14⟩]⟩≤200
     rw[QW];omega
   ·refine A2 (fun _=>?_) fun _=>Ak.some ⟨by show en ⟨9,(f:Int),l14⟩≤200;omega,again,by show p≤f31;omega,by show f31≤_;omega⟩
    refine Ak.bind (EZ Bb ⟨by omega,by omega⟩ (by simp) (by simp)) fun q53 hq53=>?_
    have o1:=hq53.pos
    have o2:=hq53.mem
    simp only[List.mem_cons,List.not_mem_nil,or_false] at o2
    refine Ak.bind (Gb C Bb hM (d:=4) (by omega) hvl 0 (p:=q53.2) (by omega) (by omega)) fun q54 hq=>?_
    have c1:=hq.size;have c2:=hq.lo;have c3:=hq.hi
    rw[S6] at c1;rw[Tw] at c3
    refine AY rfl (Ak.some ⟨?_,(QK ⟨by omega,by omega⟩ ⟨by omega,by omega⟩ hq.Ck again:A3 ⟨q53.1,0,[q54.1,⟨9,(f:Int),l14⟩]⟩),by show p≤q54.2;omega,by show q54.2≤_;omega⟩)
    show en ⟨q53.1,0,[q54.1,⟨9,(f:Int),l14⟩]⟩≤200
    rw[QW];omega
 ·rintro⟨f20,o,m,k⟩ g20
  have b1:=g20.size;have b2:=g20.lo;have b3:=g20.hi;have b4:=g20.Ck
  dsimp only at b1 b2 b3 b4 ⊢
  refine AY rfl ?_
  refine Ak.bind (Gb C Bb hM (d:=4) (by omega) (vars:=g.params) (by omega) g.result (p:=f20) (by omega) (by omega)) fun q hq=>?_
  have c1:=hq.size;have c2:=hq.lo;have c3:=hq.hi
  rw[S6] at c1;rw[Tw] at c3
  refine AY rfl (Ak.some ⟨by rw[U4,Hx];omega,Ur ⟨by omega,by omega⟩ ⟨by omega,by omega⟩ (EG ⟨by omega,by omega⟩ ⟨by omega,by omega⟩) hq.Ck b4,by show p≤q.2;omega,by show q.2≤_;omega⟩)
end
end RC



namespace RC
open Go
section
variable {D : List Ac} {F : List Ar}
theorem Q3 (C:CX D F) {b:List Int} (Bb:Bk b) {M:Nat} (hM:2000000≤M) {f:Nat} (hf:f < F.length) {g:Ar} (hg:F[f]?=some g) (hg1:0 < g.params.length) {p:Int} (h0:0≤p) (h1:p≤200000):Ak (GY M b p F D f) (GE 1000 3000 p):=by
 have hfl:=C.fl
 have hgm:=List.mem_of_getElem? hg
 have hp3:=C.par g hgm
 unfold GY
 have vi :∀{n:Int},0≤n→n≤100→A3 ⟨12,n,[]⟩:=fun a c=>EG ⟨by omega,by omega⟩ ⟨by omega,by omega⟩
 refine AY (BL hg) ?_
 rw[Aa,BN (n:=(g.params.length:Int) + 2) (by omega) (by omega)]
 refine AY rfl (AY rfl ?_)
 have key :∀{N i:Nat},i≤g.params.length→g.params.length - i < N→∀(x y:List AP),x.length=i→y.length=i→(∀e∈x,A3 e)→(∀e∈y,A3 e)→B2 x≤i→B2 y≤i→
   Ak (DG g N i x y) fun r=>r.1.length≤3∧r.2.length≤3∧(∀e∈r.1,A3 e)∧(∀e∈r.2,A3 e)∧B2 r.1≤3∧B2 r.2≤3:=by
  intro N i hi hN
  refine Bl g.params.length (fun N i=>∀(x y:List AP),x.length=i→y.length=i→(∀e∈x,A3 e)→(∀e∈y,A3 e)→B2 x≤i→B2 y≤i→
   Ak (DG g N i x y) fun r=>r.1.length≤3∧r.2.length≤3∧(∀e∈r.1,A3 e)∧(∀e∈r.2,A3 e)∧B2 r.1≤3∧B2 r.2≤3) ?_ ?_ hi hN
  ·intro n x y g1 g2 g3 g4 g5 g6
   rw[DG,if_neg (by simp[Aa])]
   exact Ak.some ⟨by show x.length≤3;omega,by show y.length≤3;omega,g3,g4,by show B2 x≤3;omega,by show B2 y≤3;omega⟩
  ·intro n i hi ih x y g1 g2 g3 g4 g5 g6
   rw[DG,if_pos (by rw[decide_eq_true_eq,Aa];omega),BN (n:=(i:Int) + 1) (by omega) (by omega),show ((i:Int) + 1)=((i+1:Nat):Int) by omega]
   have hm :∀(l:List AP),(∀e∈l,A3 e)→∀e∈l ++ [AP.mk 12 (i:Int) []],A3 e:=fun l hl e he=>by
    rcases List.mem_append.1 he with h5 | h5
    ·exact hl e h5
    ·rw[List.mem_singleton] at h5;rw[h5];exact vi (by omega) (by omega)
   refine AY rfl (Ak.app (by simp;omega) (by simp;omega) (AY rfl (Ak.app (by simp;omega) (by simp;omega) ?_)))
   exact ih _ _ (by simp;omega) (by simp;omega) (hm x g3) (hm y g4) (by rw[HB,FE,Hx];omega) (by rw[HB,FE,Hx];omega)
 have k:=key (i:=1) (by omega) (by omega:g.params.length - 1 < M) [⟨12,(g.params.length:Int),[]⟩] [⟨12,(g.params.length:Int) + 2,[]⟩] rfl rfl
  (fun e he=>by rw[List.mem_singleton] at he;rw[he];exact vi (by omega) (by omega)) (fun e he=>by rw[List.mem_singleton] at he;rw[he];exact vi (by omega) (by omega)) (by rw[FE,Hx];omega) (by rw[FE,Hx];omega)
 rw[show ((1:Nat):Int)=1 from rfl] at k
 refine Ak.bind k ?_
 rintro⟨l14,l15⟩ ⟨a1,a2,a3,a4,a5,a6⟩
 dsimp only at a1 a2 a3 a4 a5 a6 ⊢
 have i18:A3 ⟨9,f,l14⟩:=G1 (CQ (by omega) (by omega)) (CQ (by omega) (by omega)) a3 (by omega)
 have i20:A3 ⟨9,f,l15⟩:=G1 (CQ (by omega) (by omega)) (CQ (by omega) (by omega)) a4 (by omega)
 have e18:en ⟨9,(f:Int),l14⟩≤4:=by rw[Ep];omega
 have e20:en ⟨9,(f:Int),l15⟩≤4:=by rw[Ep];omega
 have hvl:(g.params ++ [(3:Int),0,3]).length≤100:=by simp;omega
 refine AY rfl (AY rfl (AY (Gk (by omega) (by simp)) ?_))
 refine Ak.bind (Gb C Bb hM (d:=4) (by omega) hvl 0 (p:=p) (by omega) (by omega)) fun q23 hq=>?_
 have c1:=hq.size;have c2:=hq.lo;have c3:=hq.hi
 rw[S6] at c1;rw[Tw] at c3
 refine AY rfl (AY rfl ?_)
 refine Ak.bind (R:=GQ 200 1000 p) ?_ ?_
 ·refine A2 (fun _=>?_) fun _=>Ak.some ⟨?_,(QK ⟨by omega,by omega⟩ ⟨by omega,by omega⟩ i18 (QK ⟨by omega,by omega⟩ ⟨by omega,by omega⟩ hq.Ck i20):A3 ⟨1,0,[⟨9,(f:Int),l14⟩,⟨1,0,[q23.1,⟨9,(f:Int),l15⟩]⟩]⟩),by show p≤q23.2;omega,by show q23.2≤_;omega⟩
  ·refine AY (Gk (by omega) (by simp)) ?_
   refine Ak.bind (Gb C Bb hM (d:=4) (by omega) hvl 0 (p:=q23.2) (by omega) (by omega)) fun q39 hq2=>?_
   have d1:=hq2.size;have d2:=hq2.lo;have d3:=hq2.hi
   rw[S6] at d1;rw[Tw] at d3
   refine AY rfl (AY rfl (Ak.some ⟨?_,(Ur ⟨by omega,by omega⟩ ⟨by omega,by omega⟩ i18 hq2.Ck (vi (by omega) (by omega)):A3 ⟨6,3,[⟨9,(f:Int),l14⟩,q39.1,⟨12,(g.params.length:Int) + 2,[]⟩]⟩),by show p≤q39.2;omega,by show q39.2≤_;omega⟩))
   show en ⟨6,3,[⟨9,(f:Int),l14⟩,q39.1,⟨12,(g.params.length:Int) + 2,[]⟩]⟩≤200
   rw[U4,Hx];omega
  ·show en ⟨1,0,[⟨9,(f:Int),l14⟩,⟨1,0,[q23.1,⟨9,(f:Int),l15⟩]⟩]⟩≤200
   rw[QW,QW];omega
 ·rintro⟨f20,o,m,k⟩ g20
  have b1:=g20.size;have b2:=g20.lo;have b3:=g20.hi;have b4:=g20.Ck
  dsimp only at b1 b2 b3 b4 ⊢
  refine AY rfl ?_
  refine Ak.bind (Gb C Bb hM (d:=4) (by omega) (vars:=g.params) (by omega) g.result (p:=f20) (by omega) (by omega)) fun q hq=>?_
  have c1:=hq.size;have c2:=hq.lo;have c3:=hq.hi
  rw[S6] at c1;rw[Tw] at c3
  refine AY rfl (Ak.some ⟨by rw[U4,Hx];omega,Ur ⟨by omega,by omega⟩ ⟨by omega,by omega⟩ (vi (by omega) (by omega)) hq.Ck b4,by show p≤q.2;omega,by show q.2≤_;omega⟩)
theorem Q1 (C:CX D F) {b:List Int} (Bb:Bk b) {M:Nat} (hM:2000000≤M) {f:Nat} (hf:f < F.length) {g:Ar} (hg:F[f]?=some g) (hg1:0 < g.params.length) {p:Int} (h0:0≤p) (h1:p≤200000):Ak (Gi M b p F D f) (GE 1000 3000 p):=by
 have hfl:=C.fl
 have hgm:=List.mem_of_getElem? hg
 have hp3:=C.par g hgm
 unfold Gi
 have vi :∀{n:Int},0≤n→n≤100→A3 ⟨12,n,[]⟩:=fun a c=>EG ⟨by omega,by omega⟩ ⟨by omega,by omega⟩
 have li :∀{n:Int},0≤n→n≤100→A3 ⟨0,n,[]⟩:=fun a c=>EG ⟨by omega,by omega⟩ ⟨by omega,by omega⟩
 refine AY (BL hg) (AY rfl (AY rfl (AY rfl ?_)))
 have key :∀{N i:Nat},i≤g.params.length→g.params.length - i < N→∀(q:Int) (acc:List AP),p≤q→q≤p+30 * i→acc.length=i→(∀e∈acc,A3 e)→B2 acc≤4 * i→
   Ak (DD M g b F D N i q acc) fun r=>p≤r.1∧r.1≤p+90∧r.2.length≤3∧(∀e∈r.2,A3 e)∧B2 r.2≤12:=by
  intro N i hi hN
  refine Bl g.params.length (fun N i=>∀(q:Int) (acc:List AP),p≤q→q≤p+30 * i→acc.length=i→(∀e∈acc,A3 e)→B2 acc≤4 * i→
   Ak (DD M g b F D N i q acc) fun r=>p≤r.1∧r.1≤p+90∧r.2.length≤3∧(∀e∈r.2,A3 e)∧B2 r.2≤12) ?_ ?_ hi hN
  ·intro n q acc g1 g2 g3 g4 g5
   rw[DD,if_neg (by simp[Aa])]
   exact Ak.some ⟨g1,by show q≤_;omega,by show acc.length≤3;omega,g4,by show B2 acc≤12;omega⟩
  ·intro n i hi ih q acc g1 g2 g3 g4 g5
   obtain⟨t,ht,_⟩:=Bq hi
   rw[DD,if_pos (by rw[decide_eq_true_eq,Aa];omega),BN (n:=(i:Int) + 1) (by omega) (by omega),show ((i:Int) + 1)=((i+1:Nat):Int) by omega]
   refine AY (BL ht) ?_
   refine Ak.bind (Ip C Bb hM (by omega) t (p:=q) (by omega) (by omega)) fun s hs=>?_
   have s1:=hs.size;have s2:=hs.lo;have s3:=hs.hi
   refine Ak.app (by simp;omega) (by simp;omega) ?_
   refine ih s.2 (acc ++ [s.1]) (by omega) (by omega) (by simp;omega) (fun e he=>?_) (by rw[HB,FE];omega)
   rcases List.mem_append.1 he with h5 | h5
   ·exact g4 e h5
   ·rw[List.mem_singleton] at h5;rw[h5];exact hs.Ck
 have k:=key (i:=1) (by omega) (by omega:g.params.length - 1 < M) p [⟨2,0,[⟨12,0,[]⟩,⟨0,1,[]⟩]⟩] (by omega) (by omega) rfl (fun e he=>by rw[List.mem_singleton] at he;rw[he];exact QK ⟨by omega,by omega⟩ ⟨by omega,by omega⟩ (vi (by omega) (by omega)) (li (by omega) (by omega))) (by rw[FE,QW,Hx,Hx];omega)
 rw[show ((1:Nat):Int)=1 from rfl] at k
 refine Ak.bind k ?_
 rintro⟨f13,l14⟩ ⟨a1,a2,a3,a4,a5⟩
 dsimp only at a1 a2 a3 a4 a5 ⊢
 have again:A3 ⟨9,f,l14⟩:=G1 (CQ (by omega) (by omega)) (CQ (by omega) (by omega)) a4 (by omega)
 have ea:en ⟨9,(f:Int),l14⟩≤13:=by rw[Ep];omega
 refine AY rfl ?_
 refine Ak.bind (R:=GQ 200 1000 p) ?_ ?_
 ·refine A2 (fun _=>?_) fun _=>Ak.some ⟨by show en ⟨9,(f:Int),l14⟩≤200;omega,again,by show p≤f13;omega,by show f13≤_;omega⟩
  refine Ak.bind (Gb C Bb hM (d:=3) (by omega) (vars:=g.params) (by omega) 0 (p:=f13) (by omega) (by omega)) fun q33 hq=>?_
  have c1:=hq.size;have c2:=hq.lo;have c3:=hq.hi
  rw[ZS] at c1;rw[ZN] at c3
  refine AY rfl (Ak.some ⟨?_,(QK ⟨by omega,by omega⟩ ⟨by omega,by omega⟩ hq.Ck again:A3 ⟨6,1,[q33.1,⟨9,(f:Int),l14⟩]⟩),by show p≤q33.2;omega,by show q33.2≤_;omega⟩)
  show en ⟨6,1,[q33.1,⟨9,(f:Int),l14⟩]⟩≤200
  rw[QW];omega
 ·rintro⟨f20,o,m,k⟩ g20
  have b1:=g20.size;have b2:=g20.lo;have b3:=g20.hi;have b4:=g20.Ck
  dsimp only at b1 b2 b3 b4 ⊢
  refine AY rfl (AY rfl (AY rfl ?_))
  refine Ak.bind (Gb C Bb hM (d:=4) (by omega) (vars:=g.params) (by omega) g.result (p:=f20) (by omega) (by omega)) fun q hq=>?_
  have c1:=hq.size;have c2:=hq.lo;have c3:=hq.hi
  rw[S6] at c1;rw[Tw] at c3
  refine AY rfl (Ak.some ⟨by rw[U4,QW,Hx,Hx];omega,Ur ⟨by omega,by omega⟩ ⟨by omega,by omega⟩ (QK ⟨by omega,by omega⟩ ⟨by omega,by omega⟩ (li (by omega) (by omega)) (vi (by omega) (by omega))) b4 hq.Ck,by show p≤q.2;omega,by show q.2≤_;omega⟩)
theorem Nt (C:CX D F) {b:List Int} (Bb:Bk b) {M:Nat} (hM:2000000≤M) {vars:List Int} (hv:vars.length≤100) (t:Int) {B:Nat} (hB:B≤18) {p:Int} (h0:0≤p) (h1:p≤200000):Ak (F7 M b p F D vars t (B:Int)) (GE 200 3000 p):=by
 have szle :∀d,d≤18→Ed d≤157:=fun d h=>by unfold Ed;split <;> omega
 have pkle :∀d,d≤18→C9 d≤1395:=fun d h=>by unfold C9;split <;> omega
 have key :∀(B N:Nat) (f o m:Int) (k:List AP),B < N→B≤18→p≤f→f+80 * B≤p+2900→A3 ⟨o,m,k⟩→en ⟨o,m,k⟩≤200→Ak (EU M b F D vars t N B f o m k) (GQ 200 3000 p):=by
  intro B
  induction B using Nat.strongRecOn with
  | _ B ih=>
   intro N f o m k hN hB g1 g2 g3 g4
   obtain⟨N,rfl⟩ :∃m,N=m+1:=⟨N - 1,by omega⟩
   rw[EU]
   refine Ak.bind (R:=fun c=>c=true→2 < B) ?_ fun c hc=>Bz (fun h=>?_) fun _=>Ak.some ⟨g4,g3,g1,by show f≤_;omega⟩
   ·refine AY (Gz (by have:=Ep o m k;show B2 k≤_;omega) hM) (A2 (fun _=>Ak.some fun h=>by rw[decide_eq_true_eq] at h;omega) fun _=>Ak.some fun h=>by cases h)
   ·have hB2:=hc h
    have ed:Int.tdiv (B:Int) 2=((B / 2:Nat):Int):=rfl
    have hd:2 * (B / 2)≤B:=by omega
    have hd1:1≤B / 2:=by omega
    have hd3:B / 2 < B:=by omega
    rw[ed]
    generalize B / 2=d at hd hd1 hd3 ⊢
    have hpk:C9 d≤80 * d:=by unfold C9;rw[if_neg (by omega)];omega
    rw[BN (n:=(d:Int)) (by omega) (by omega)]
    refine Ak.bind (Gb C Bb hM (d:=d) (by omega) hv t (p:=f) (by omega) (by omega)) fun q hq=>?_
    have q1:=hq.lo;have q2:=hq.hi;have q3:=hq.size;have q4:=szle d (by omega)
    have q5:=hq.parts
    exact ih d hd3 N q.2 q.1.op q.1.num q.1.kids (by omega) (by omega) (by omega) (by omega) q5.Ck (by have:=q5.size;dsimp only at this;omega)
 unfold F7
 refine Ak.bind (Gb C Bb hM (d:=B) (by omega) hv t (p:=p) (by omega) (by omega)) fun q hq=>?_
 have q1:=hq.lo;have q2:=hq.hi;have q3:=hq.size;have q4:=szle B hB;have q6:=pkle B hB
 have q5:=hq.parts
 refine Ak.bind (key B M q.2 q.1.op q.1.num q.1.kids (by omega) hB (by omega) (by omega) q5.Ck (by have:=q5.size;dsimp only at this;omega)) ?_
 rintro⟨f,o,m,k⟩ g
 exact Ak.some ⟨g.size,g.Ck,g.lo,g.hi⟩
theorem SI {l:List Int} (hl:l.length≤3) {x:Int} {M:Nat} (hM:2000000≤M):Ak (G9 M l x) fun r=>r=-1∨(0≤r∧r < (l.length:Int)):=by
 have key :∀{N i:Nat},i≤l.length→l.length - i < N→Ak (DZ l x N i) fun v=>match v with | .inl r=>0≤r∧r < (l.length:Int) | .inr _=>True:=by
  intro N i hi hN
  refine Bl l.length (fun N i=>Ak (DZ l x N i) fun v=>match v with | .inl r=>0≤r∧r < (l.length:Int) | .inr _=>True) ?_ ?_ hi hN
  ·intro n
   rw[DZ,if_neg (by simp[Aa])]
   exact Ak.some trivial
  ·intro n i hi ih
   obtain⟨y,hy,_⟩:=Bq hi
   rw[DZ,if_pos (by rw[decide_eq_true_eq,Aa];omega),BN (n:=(i:Int) + 1) (by omega) (by omega),show ((i:Int) + 1)=((i+1:Nat):Int) by omega]
   refine AY (BL hy) (A2 (fun _=>Ak.some (show 0≤(i:Int)∧(i:Int) < _ by omega)) fun _=>ih)
 unfold G9
 have k:=key (Nat.zero_le _) (by omega:l.length - 0 < M)
 rw[show ((0:Nat):Int)=0 from rfl] at k
 refine Ak.cont (R:=fun r=>0≤r∧r < (l.length:Int)) (S:=fun _=>True) (k.mono fun v hv=>by cases v <;> exact hv) (fun r hr=>.inr hr) fun _ _=>Ak.some (.inl rfl)
theorem Sf (C:CX D F) {b:List Int} (Bb:Bk b) {M:Nat} (hM:2000000≤M) {f:Nat} (hf:f < F.length) {p:Int} (h0:0≤p) (h1:p≤150000):Ak (He M b p F D f) (GE 1000 7000 p):=by
 have hfl:=C.fl
 obtain⟨g,hg,hgm⟩:=Bq hf
 have hp3:=C.par g hgm
 unfold He
 refine AY (BL hg) ?_
 refine Ak.bind (SI hp3 hM) fun a ha=>?_
 refine AY rfl ?_
 refine Ak.bind (Bu Bb ⟨by omega,by omega⟩) fun q10 hq=>?_
 have q1:=hq.pos
 have fin :∀{x:Option (AP×Int)},Ak x (GE 1000 3000 q10.2)→Ak (Option.bind x fun q28=>some (q28.2,q28.1.op,q28.1.num,q28.1.kids)) (GQ 1000 3500 p):=fun hx=>
  Ak.bind hx fun r hr=>Ak.some (by
   have:=hr.parts
   exact⟨this.size,this.Ck,by have:=this.lo;dsimp only at this ⊢;omega,by have:=this.hi;dsimp only at this ⊢;omega⟩)
 refine Ak.bind (R:=GQ 1000 3500 p) ?_ ?_
 ·refine Ak.bind (R:=fun _=>True) (A2 (fun _=>Ak.some trivial) fun _=>Ak.some trivial) fun t25 _=>Bz (fun _=>fin (Qr C Bb hM (by omega) (by omega))) fun _=>?_
  refine Ak.bind (R:=fun t=>t=true→0≤a) ?_ fun t30 ht30=>Bz (fun h=>?_) fun _=>?_
  ·refine A2 (fun _=>A2 (fun h=>?_) fun _=>Ak.some fun h=>by cases h) fun _=>Ak.some fun h=>by cases h
   exact A2 (fun _=>Ak.some fun _=>h) fun _=>Ak.some fun _=>h
  ·have ha0:=ht30 h
   obtain⟨an,rfl⟩:=Int.eq_ofNat_of_zero_le ha0
   exact fin (Qi C Bb hM hf (by omega) (by omega) (by omega))
  have pos :∀(z:Int),Ak (if decide (q10.1 < 3)=true then
      if (decide (0 < (Sh.len g.params)))=true then
       Option.bind (Sh.get g.params 0) fun c52=>
       if (decide (c52=z))=true then
        if (decide (g.result=0))=true then
         some true
        else
         some (decide (g.result=(if z=3 then 3 else 1)))
       else
        some false
      else
       some false
     else
      some false) fun t=>t=true→0 < g.params.length:=by
   intro z
   refine A2 (fun _=>A2 (fun h=>?_) fun _=>Ak.some fun h=>by cases h) fun _=>Ak.some fun h=>by cases h
   rw[Aa] at h
   refine Ak.get (by omega) (by omega) fun c _ _=>?_
   refine A2 (fun _=>A2 (fun _=>Ak.some fun _=>by omega) fun _=>Ak.some fun _=>by omega) fun _=>Ak.some fun h=>by cases h
  refine Ak.bind (pos 3) fun t35 ht35=>Bz (fun h=>fin (Q3 C Bb hM hf hg (ht35 h) (by omega) (by omega))) fun _=>?_
  refine Ak.bind (pos 0) fun t40 ht40=>Bz (fun h=>fin (Q1 C Bb hM hf hg (ht40 h) (by omega) (by omega))) fun _=>?_
  have:=Nt C Bb hM (vars:=g.params) (by omega) g.result (B:=18) (by omega) (p:=q10.2) (by omega) (by omega)
  exact fin (this.mono fun r hr=>hr.up (by omega) (by omega))
 ·rintro⟨f12,o,m,k⟩ g12
  have b1:=g12.size;have b2:=g12.lo;have b3:=g12.hi;have b4:=g12.Ck
  dsimp only at b1 b2 b3 b4 ⊢
  refine AY (Gz (by have:=Ep o m k;show B2 k≤_;omega) hM) (A2 (fun _=>?_) fun _=>Ak.some ⟨b1,b4,b2,by show f12≤_;omega⟩)
  have:=Nt C Bb hM (vars:=g.params) (by omega) g.result (B:=12) (by omega) (p:=f12) (by omega) (by omega)
  refine Ak.bind this fun r hr=>Ak.some ⟨by have:=hr.size;show en r.1≤_;omega,hr.Ck,by have:=hr.lo;show p≤r.2;omega,by have:=hr.hi;show r.2≤_;omega⟩
end
end RC

